/- Contracts: the document's clock is asked: from the last reading on. -/
import Derived.Test.YtjgbandmjamcaaaClkHa
namespace Go.Proofs.Ytjgbandmjamcaaa
open Go.RowKit
attribute [local go_sem] run_store_float

noncomputable def now14 : Code := (Try.f23.body.bind (fromC 14)).getD .skip
noncomputable def now20 : Code := (Try.f23.body.bind (fromC 20)).getD .skip
/-- What the document's clock reckons is what the clock knows. -/
theorem now_alike (c : ClkD) (h : Int) (hok : c.ok) (h0 : nowErr c h = 0) : 0 ≤ grow (h - c.at_) c.rate ∧ grow (h - c.at_) c.rate ≤ h - c.at_ ∧ 0 ≤ h - c.at_ ∧ h - c.at_ ≤ 1125899906842624 ∧ 0 ≤ c.time ∧ c.time ≤ 1125899906842624 ∧ 0 ≤ c.width ∧ c.width ≤ 1125899906842624 ∧ 0 ≤ c.floor ∧ c.floor ≤ 1125899906842624 ∧
    nowLo c h = max (c.time + (h - c.at_) - c.width - grow (h - c.at_) c.rate) c.floor ∧ nowHi c h = max (min (c.time + (h - c.at_) + c.width + grow (h - c.at_) c.rate) 1125899906842624) (nowLo c h) := by
  obtain ⟨h1, h2, h3, h4⟩ := nowErr_ok h0
  obtain ⟨k0, k1, k2, k3, k4, k5, k6⟩ := hok
  have b1 := isTime_iff.1 h1
  have b3 := isTime_iff.1 k3
  have b4 := isTime_iff.1 k4
  have b5 := isTime_iff.1 k5
  have hbd := timesF_bd (-(h - c.at_)) c.rate k6 (by omega)
  have hg1 : 0 ≤ grow (h - c.at_) c.rate := by unfold grow; omega
  have hg2 : grow (h - c.at_) c.rate ≤ h - c.at_ := by unfold grow; omega
  have hlo : nowLo c h = max (max (max (c.time + (h - c.at_) - c.width) 0 - grow (h - c.at_) c.rate) 0) c.floor := rfl
  have hhi : nowHi c h = max (min (min (c.time + (h - c.at_) + c.width) 1125899906842624 + grow (h - c.at_) c.rate) 1125899906842624) (nowLo c h) := rfl
  generalize grow (h - c.at_) c.rate = g at *
  refine ⟨hg1, hg2, by omega, by omega, b3.1, b3.2, b4.1, b4.2, b5.1, b5.2, ?_, ?_⟩
  · rw [hlo]
    clear hhi hlo hbd
    omega
  · rw [hhi]
    clear hhi hlo hbd
    generalize nowLo c h = lo at *
    omega
theorem now_bounds (c : ClkD) (h : Int) (hok : c.ok) (h0 : nowErr c h = 0) : isTime (nowLo c h) = true ∧ c.floor ≤ nowLo c h := by
  obtain ⟨g1, g2, g3, g4, g5, g6, g7, g8, g9, g10, hlo, _⟩ := now_alike c h hok h0
  obtain ⟨_, _, _, h4⟩ := nowErr_ok h0
  refine ⟨isTime_iff.2 ⟨by omega, by omega⟩, by omega⟩
theorem kp_one (w : World) (g i : Nat) (u : Value) : Kp (only g) w (w.setCell ⟨g, i, none⟩ u) := (Kp.refl _ _).setCell (p := ⟨g, i, none⟩) u (.inl rfl)
noncomputable def now28 : Code := (Try.f23.body.bind (fromC 28)).getD .skip
set_option maxRecDepth 100000 in
set_option maxHeartbeats 4000000 in
theorem now28_wp (rate : Nat) (A : Option Addr) (cap : Nat) (ts : List TakD) (h lo hi : Int) (b g : Nat) (w w2 : World) (x0 x3 x6 x7 x8 x9 x10 x11 x12 x13 x14 x16 x17 x18 x19 x20 x21 x22 x23 x24 x25 x26 x27 x28 x29 x30 x31 x32 x33 x34 x35 x36 x37 x38 x39 x40 x41 x42 x43 x44 x45 x46 x47 x48 x49 x50 x51 x52 x53 x54 x55 x56 x57 x58 x59 x60 x61 x62 x63 x64 x65 x66 x67 x68 x69 x70 x71 x72 x73 x74 x75 x76 x77 x78 x79 x80 x81 x82 x83 x84 x85 x86 x87 x88 x89 x90 x91 x92 x93 x94 x95 x96 x97 x98 x99 x100 x101 x102 x103 x104 x105 x106 x107 x108 x109 x110 x111 x112 x113 x114 x115 x116 x117 x118 x119 x120 x121 x122 x123 x124 x125 x126 x127 x128 x129 x130 x131 x132 x133 x134 x135 x136 x137 x138 x139 : Value) (hl : Tl (fun _ => True) w (.slice A ts.length cap) ts) (hn : ts.length ≤ 1000) (hM : NowM w b rate (.slice A ts.length cap) w2)
    (hg : Blk w2 g 28 #[.int .i64 lo, .int .i64 hi]) (hgb : b + 3 < g) :
    Code.wp Try.prog now28 (bodyPost Try.prog Try.f23 (refNowOut rate 0 lo hi (ts ++ [⟨h, false, 0, 0, lo⟩]) w)) ⟨#[x0, .int .i64 h, .pointer (some ⟨b, 0, none⟩), x3, .pointer (some ⟨b + 1, 0, none⟩), .pointer (some ⟨b + 2, 0, none⟩), x6, x7, x8, x9, x10, x11, x12, x13, x14, .pointer (some ⟨g, 0, none⟩), x16, x17, x18, x19, x20, x21, x22, x23, x24, x25, x26, x27, x28, x29, x30, x31, x32, x33, x34, x35, x36, x37, x38, x39, x40, x41, x42, x43, x44, x45, x46, x47, x48, x49, x50, x51, x52, x53, x54, x55, x56, x57, x58, x59, x60, x61, x62, x63, x64, x65, x66, x67, x68, x69, x70, x71, x72, x73, x74, x75, x76, x77, x78, x79, x80, x81, x82, x83, x84, x85, x86, x87, x88, x89, x90, x91, x92, x93, x94, x95, x96, x97, x98, x99, x100, x101, x102, x103, x104, x105, x106, x107, x108, x109, x110, x111, x112, x113, x114, x115, x116, x117, x118, x119, x120, x121, x122, x123, x124, x125, x126, x127, x128, x129, x130, x131, x132, x133, x134, x135, x136, x137, x138, x139], []⟩ w2 := by
  obtain ⟨i0, hi0, hz0, hz1, hz2⟩ := info_parts info_114
  conv => arg 2; whnf
  have a1 := hM.recv.cell 1
  have a2 := hM.recv.frozen 1
  have g0 := hg.cell 0
  simp at a1 g0
  have hl2 := hl.then_ hM.kp
  dsimp only
  have zb := hM.recv.lt
  have zg := hg.lt
  have nb : w2.heap.size ≠ b := by omega
  have ng : w2.heap.size ≠ g := by omega
  go_upto_region 28 with fail
  go_cut [] (fun wx => ∃ (A3 : Option Addr) (cap3 : Nat) (w5 : World), wx = w5.setCell ⟨b, 1, none⟩ (.slice A3 (ts.length + 1) cap3) ∧ Kp none_ w2 w5 ∧ Tl (fun k => w2.heap.size ≤ k) w5 (.slice A3 (ts.length + 1) cap3) (ts ++ [⟨h, false, 0, 0, lo⟩]))
  case first =>
    refine wp_region_D [11] (fun w' => w'.cell? ⟨b, 1, none⟩ = some (.slice A ts.length cap) ∧ w'.cell? ⟨g, 0, none⟩ = some (.int .i64 lo)) (by kernel_rfl) ?_ (fun hHeld => ?_)
    · try dsimp only
      first | exact ⟨a1, g0⟩ | (refine ⟨?_, ?_⟩ <;> assumption) | go_keep
    refine wpD_takeP 1 (v := ?_) rfl (by kernel_rfl) (by kernel_rfl) (by kernel_rfl) (by kernel_rfl) (fun _ _ _ h => h) (fun _ => hHeld) (yields_any (by rfl) ?_) ?_; rotate_left; (· intro wS; (try go_simp); try with_reducible rfl)
    try simp only [Act.put, List.setIfInBounds_toArray, List.set_cons_zero, List.set_cons_succ]
    refine wpD_take 2 (v := ?_) rfl (by kernel_rfl) (by kernel_rfl) (by kernel_rfl) (by kernel_rfl) (by kernel_rfl) (fun _ _ _ h => h) hHeld (yields_if (by rfl) ?_) ?_; rotate_left; (· intro wS hS; (try dsimp only at hS); (try go_simp); try with_reducible rfl)
    try simp only [Act.put, List.setIfInBounds_toArray, List.set_cons_zero, List.set_cons_succ]
    refine wpD_takeP 4 (v := ?_) rfl (by kernel_rfl) (by kernel_rfl) (by kernel_rfl) (by kernel_rfl) (fun _ _ _ h => h) (fun _ => hHeld) (yields_any (by rfl) ?_) ?_; rotate_left; (· intro wS; (try go_simp); try with_reducible rfl)
    try simp only [Act.put, List.setIfInBounds_toArray, List.set_cons_zero, List.set_cons_succ]
    refine wpD_takeP 5 (v := ?_) rfl (by kernel_rfl) (by kernel_rfl) (by kernel_rfl) (by kernel_rfl) (fun _ _ _ h => h) (fun _ => hHeld) (yields_any (by rfl) ?_) ?_; rotate_left; (· intro wS; (try go_simp); try with_reducible rfl)
    try simp only [Act.put, List.setIfInBounds_toArray, List.set_cons_zero, List.set_cons_succ]
    refine wpD_take 6 (v := ?_) rfl (by kernel_rfl) (by kernel_rfl) (by kernel_rfl) (by kernel_rfl) (by kernel_rfl) (fun _ _ _ h => h) hHeld (yields_if (by rfl) ?_) ?_; rotate_left; (· intro wS hS; (try dsimp only at hS); (try go_simp); try with_reducible rfl)
    try simp only [Act.put, List.setIfInBounds_toArray, List.set_cons_zero, List.set_cons_succ]
    refine wpD_takeP 7 (v := ?_) rfl (by kernel_rfl) (by kernel_rfl) (by kernel_rfl) (by kernel_rfl) (fun _ _ _ h => h) (fun _ => hHeld) (yields_any (by rfl) ?_) ?_; rotate_left; (· intro wS; (try go_simp); try with_reducible rfl)
    try simp only [Act.put, List.setIfInBounds_toArray, List.set_cons_zero, List.set_cons_succ]
    refine wpD_ready [0, 8] (by kernel_rfl) (by simp) ?_
    refine AllD.cons 0 rfl (fun K' hK => ?_) ?_
    · skip
      go_simp
      refine hold_step hK ?_ (fun hHeld => ?_)
      · try dsimp only
        first | exact ⟨a1, g0⟩ | (refine ⟨?_, ?_⟩ <;> assumption) | go_keep
      clear hK K'
      try simp only [Act.put, List.setIfInBounds_toArray, List.set_cons_zero, List.set_cons_succ]
      refine wpD_ready [3, 8] (by kernel_rfl) (by simp) ?_
      refine AllD.cons 3 rfl (fun K' hK => ?_) ?_
      · skip
        refine step_append_sl _ (by rfl) (.tmp 127) (.tmp 129) 48 (by rfl) w2.heap.size 114 i0 _ 5 40 Try.underlying48 hi0 hz0 hz1 hz2 (by rfl) (by decide) (.slice (some ⟨_, 0, none⟩) 0 0) 0 [] (by rfl) ?_ (fun _ => True) (.slice A ts.length cap) ts.length (taks ts) (by rfl) ?_ ?_ ?_ ?_ ?_ ?_
        · ((with_reducible repeat (first | apply owns_drew | refine owns_empty' _ _ _ _ _ ?_ ?_ | apply owns_alloc)); (all_goals first | (simp; done) | (have := zb; omega)))
        · exact hl2.then_ (by with_reducible repeat (first | exact Kp.refl _ _ | apply Kp.drew | apply Kp.drewN | apply Kp.alloc))
        · exact taks_one ts
        · unfold maxLen; omega
        · omega
        · simp; try omega
        intro v3 w3 ho3 hg3 hat3
        rw [Nat.zero_add, List.nil_append] at ho3
        have hk3 : Kp none_ w2 w3 := Kp.grown (by with_reducible repeat (first | exact Kp.refl _ _ | apply Kp.drew | apply Kp.drewN | apply Kp.alloc)) hg3 (fun k hk => .inr (by cases hk; simp))
        have s1 := (hM.recv.kp hk3 (fun h => h)).cell 1
        have s2 := (hM.recv.kp hk3 (fun h => h)).frozen 1
        have s3 := (hg.kp hk3 (fun h => h)).cell 0
        simp at s1 s3
        have s4 := (hM.recv.kp hk3 (fun h => h)).lt
        have s5 := (hg.kp hk3 (fun h => h)).lt
        have s6 : w3.heap.size ≠ b := by omega
        have s7 : w3.heap.size ≠ g := by omega
        (first | (refine (fun (hq : Blk w3 w2.heap.size 114 #[.int .i64 h, .bool false, .int .i64 0, .int .i64 0, .int .i64 lo]) => ?_) ?_; rotate_left; (· refine Blk.grown_ ?_ hg3 ?_; (focus ((with_reducible repeat (first | refine Blk.new' _ _ _ _ ?_ | apply Blk.drew | apply Blk.alloc)); simp; done)); simp [Value.ownBlock])) | (refine (fun (hq : Blk w3 (w2.heap.size + 1) 114 #[.int .i64 h, .bool false, .int .i64 0, .int .i64 0, .int .i64 lo]) => ?_) ?_; rotate_left; (· refine Blk.grown_ ?_ hg3 ?_; (focus ((with_reducible repeat (first | refine Blk.new' _ _ _ _ ?_ | apply Blk.drew | apply Blk.alloc)); simp; done)); simp [Value.ownBlock])) | skip)
        refine hold_step hK ?_ (fun hHeld => ?_)
        · try dsimp only
          first | exact ⟨a1, g0⟩ | (refine ⟨?_, ?_⟩ <;> assumption) | go_keep
        clear hK K'
        try simp only [Act.put, List.setIfInBounds_toArray, List.set_cons_zero, List.set_cons_succ]
        refine wpD_ready [8] (by kernel_rfl) (by simp) ?_
        refine AllD.cons 8 rfl (fun K' hK => ?_) AllD.nil
        go_simp
        refine hold_step hK ?_ (fun hHeld => ?_)
        · try dsimp only
          first | exact ⟨a1, g0⟩ | (refine ⟨?_, ?_⟩ <;> assumption) | go_keep
        clear hK K'
        try simp only [Act.put, List.setIfInBounds_toArray, List.set_cons_zero, List.set_cons_succ]
        refine wpD_ready [9] (by kernel_rfl) (by simp) ?_
        refine AllD.cons 9 rfl (fun K' hK => ?_) AllD.nil
        refine step_append_sl _ (by rfl) (.tmp 130) (.tmp 135) 48 (by rfl) w2.heap.size 114 i0 _ 5 40 Try.underlying48 hi0 hz0 hz1 hz2 (by rfl) (by decide) v3 ts.length (taks ts) (by rfl) ?_ (fun _ => True) (.slice (some ⟨_, 0, none⟩) 1 1) 1 (TakD.cells ⟨h, false, 0, 0, lo⟩) (by rfl) ?_ ?_ ?_ ?_ ?_ ?_
        · (with_reducible repeat (first | exact ho3 | apply owns_drew | apply owns_alloc))
        · refine Sl.of_blk (t := 114) (cs := #[.int .i64 h, .bool false, .int .i64 0, .int .i64 0, .int .i64 lo]) ?_ trivial 1 5 rfl (by unfold maxLen; omega); first | (with_reducible exact hq) | ((with_reducible repeat (first | refine Blk.new' _ _ _ _ ?_ | apply Blk.drew | apply Blk.alloc)); simp; done) | (with_reducible repeat (first | exact hq | apply Blk.drew | apply Blk.alloc))
        · have := taks_one [⟨h, false, 0, 0, lo⟩]; simpa [taks] using this
        · unfold maxLen; omega
        · omega
        · have := hk3.size; simp; try omega
        intro v5 w5 ho5 hg5 hat5
        rw [taks_snoc] at ho5
        have hk5 : Kp none_ w2 w5 := Kp.grown (hk3.then_ (by with_reducible repeat (first | exact Kp.refl _ _ | apply Kp.drew | apply Kp.drewN | apply Kp.alloc))) hg5 (fun k hk => .inr (owns_ge ho3 k hk).1)
        have q1 := (hM.recv.kp hk5 (fun h => h)).cell 1
        have q2 := (hM.recv.kp hk5 (fun h => h)).frozen 1
        have q3 := (hg.kp hk5 (fun h => h)).cell 0
        simp at q1 q3
        have hs5 : Tl (fun k => w2.heap.size ≤ k) w5 v5 (ts ++ [⟨h, false, 0, 0, lo⟩]) := Sl.of_own (ok := fun k => w2.heap.size ≤ k) (by rw [List.length_append]; exact ho5) (fun _ h => h)
        obtain ⟨A5, cap5, hv5, _, _⟩ := hs5.form
        subst hv5
        simp only [List.length_append, List.length_singleton] at hs5 ⊢
        refine hold_step hK ?_ (fun hHeld => ?_)
        · try dsimp only
          first | exact ⟨a1, g0⟩ | (refine ⟨?_, ?_⟩ <;> assumption) | go_keep
        clear hK K'
        try simp only [Act.put, List.setIfInBounds_toArray, List.set_cons_zero, List.set_cons_succ]
        refine wpD_takeP 10 (v := ?_) rfl (by kernel_rfl) (by kernel_rfl) (by kernel_rfl) (by kernel_rfl) (fun _ _ _ h => h) (fun _ => hHeld) (yields_any (by rfl) ?_) ?_; rotate_left; (· intro wS; (try go_simp); try with_reducible rfl)
        try simp only [Act.put, List.setIfInBounds_toArray, List.set_cons_zero, List.set_cons_succ]
        refine wpD_ready [11] (by kernel_rfl) (by simp) ?_
        refine AllD.cons 11 rfl (fun K' hK => ?_) AllD.nil
        go_simp
        (try go_wp2_with fail)
        refine late_step hK (by kernel_rfl) ?_
        clear hK K'
        try simp only [Act.put, List.setIfInBounds_toArray, List.set_cons_zero, List.set_cons_succ]
        refine wpD_done (by kernel_rfl) ?_ _
        refine np_intro ?_
        go_wp2_with fail
        go_meet
        exact ⟨A5, cap5, w5, rfl, hk5, hs5⟩
      refine AllD.cons 8 rfl (fun K' hK => ?_) AllD.nil
      go_simp
      refine hold_step hK ?_ (fun hHeld => ?_)
      · try dsimp only
        first | exact ⟨a1, g0⟩ | (refine ⟨?_, ?_⟩ <;> assumption) | go_keep
      clear hK K'
      try simp only [Act.put, List.setIfInBounds_toArray, List.set_cons_zero, List.set_cons_succ]
      refine wpD_ready [3] (by kernel_rfl) (by simp) ?_
      refine AllD.cons 3 rfl (fun K' hK => ?_) AllD.nil
      refine step_append_sl _ (by rfl) (.tmp 127) (.tmp 129) 48 (by rfl) w2.heap.size 114 i0 _ 5 40 Try.underlying48 hi0 hz0 hz1 hz2 (by rfl) (by decide) (.slice (some ⟨_, 0, none⟩) 0 0) 0 [] (by rfl) ?_ (fun _ => True) (.slice A ts.length cap) ts.length (taks ts) (by rfl) ?_ ?_ ?_ ?_ ?_ ?_
      · ((with_reducible repeat (first | apply owns_drew | refine owns_empty' _ _ _ _ _ ?_ ?_ | apply owns_alloc)); (all_goals first | (simp; done) | (have := zb; omega)))
      · exact hl2.then_ (by with_reducible repeat (first | exact Kp.refl _ _ | apply Kp.drew | apply Kp.drewN | apply Kp.alloc))
      · exact taks_one ts
      · unfold maxLen; omega
      · omega
      · simp; try omega
      intro v3 w3 ho3 hg3 hat3
      rw [Nat.zero_add, List.nil_append] at ho3
      have hk3 : Kp none_ w2 w3 := Kp.grown (by with_reducible repeat (first | exact Kp.refl _ _ | apply Kp.drew | apply Kp.drewN | apply Kp.alloc)) hg3 (fun k hk => .inr (by cases hk; simp))
      have s1 := (hM.recv.kp hk3 (fun h => h)).cell 1
      have s2 := (hM.recv.kp hk3 (fun h => h)).frozen 1
      have s3 := (hg.kp hk3 (fun h => h)).cell 0
      simp at s1 s3
      have s4 := (hM.recv.kp hk3 (fun h => h)).lt
      have s5 := (hg.kp hk3 (fun h => h)).lt
      have s6 : w3.heap.size ≠ b := by omega
      have s7 : w3.heap.size ≠ g := by omega
      (first | (refine (fun (hq : Blk w3 w2.heap.size 114 #[.int .i64 h, .bool false, .int .i64 0, .int .i64 0, .int .i64 lo]) => ?_) ?_; rotate_left; (· refine Blk.grown_ ?_ hg3 ?_; (focus ((with_reducible repeat (first | refine Blk.new' _ _ _ _ ?_ | apply Blk.drew | apply Blk.alloc)); simp; done)); simp [Value.ownBlock])) | (refine (fun (hq : Blk w3 (w2.heap.size + 1) 114 #[.int .i64 h, .bool false, .int .i64 0, .int .i64 0, .int .i64 lo]) => ?_) ?_; rotate_left; (· refine Blk.grown_ ?_ hg3 ?_; (focus ((with_reducible repeat (first | refine Blk.new' _ _ _ _ ?_ | apply Blk.drew | apply Blk.alloc)); simp; done)); simp [Value.ownBlock])) | skip)
      refine hold_step hK ?_ (fun hHeld => ?_)
      · try dsimp only
        first | exact ⟨a1, g0⟩ | (refine ⟨?_, ?_⟩ <;> assumption) | go_keep
      clear hK K'
      try simp only [Act.put, List.setIfInBounds_toArray, List.set_cons_zero, List.set_cons_succ]
      refine wpD_ready [9] (by kernel_rfl) (by simp) ?_
      refine AllD.cons 9 rfl (fun K' hK => ?_) AllD.nil
      refine step_append_sl _ (by rfl) (.tmp 130) (.tmp 135) 48 (by rfl) w2.heap.size 114 i0 _ 5 40 Try.underlying48 hi0 hz0 hz1 hz2 (by rfl) (by decide) v3 ts.length (taks ts) (by rfl) ?_ (fun _ => True) (.slice (some ⟨_, 0, none⟩) 1 1) 1 (TakD.cells ⟨h, false, 0, 0, lo⟩) (by rfl) ?_ ?_ ?_ ?_ ?_ ?_
      · (with_reducible repeat (first | exact ho3 | apply owns_drew | apply owns_alloc))
      · refine Sl.of_blk (t := 114) (cs := #[.int .i64 h, .bool false, .int .i64 0, .int .i64 0, .int .i64 lo]) ?_ trivial 1 5 rfl (by unfold maxLen; omega); first | (with_reducible exact hq) | ((with_reducible repeat (first | refine Blk.new' _ _ _ _ ?_ | apply Blk.drew | apply Blk.alloc)); simp; done) | (with_reducible repeat (first | exact hq | apply Blk.drew | apply Blk.alloc))
      · have := taks_one [⟨h, false, 0, 0, lo⟩]; simpa [taks] using this
      · unfold maxLen; omega
      · omega
      · have := hk3.size; simp; try omega
      intro v5 w5 ho5 hg5 hat5
      rw [taks_snoc] at ho5
      have hk5 : Kp none_ w2 w5 := Kp.grown (hk3.then_ (by with_reducible repeat (first | exact Kp.refl _ _ | apply Kp.drew | apply Kp.drewN | apply Kp.alloc))) hg5 (fun k hk => .inr (owns_ge ho3 k hk).1)
      have q1 := (hM.recv.kp hk5 (fun h => h)).cell 1
      have q2 := (hM.recv.kp hk5 (fun h => h)).frozen 1
      have q3 := (hg.kp hk5 (fun h => h)).cell 0
      simp at q1 q3
      have hs5 : Tl (fun k => w2.heap.size ≤ k) w5 v5 (ts ++ [⟨h, false, 0, 0, lo⟩]) := Sl.of_own (ok := fun k => w2.heap.size ≤ k) (by rw [List.length_append]; exact ho5) (fun _ h => h)
      obtain ⟨A5, cap5, hv5, _, _⟩ := hs5.form
      subst hv5
      simp only [List.length_append, List.length_singleton] at hs5 ⊢
      refine hold_step hK ?_ (fun hHeld => ?_)
      · try dsimp only
        first | exact ⟨a1, g0⟩ | (refine ⟨?_, ?_⟩ <;> assumption) | go_keep
      clear hK K'
      try simp only [Act.put, List.setIfInBounds_toArray, List.set_cons_zero, List.set_cons_succ]
      refine wpD_takeP 10 (v := ?_) rfl (by kernel_rfl) (by kernel_rfl) (by kernel_rfl) (by kernel_rfl) (fun _ _ _ h => h) (fun _ => hHeld) (yields_any (by rfl) ?_) ?_; rotate_left; (· intro wS; (try go_simp); try with_reducible rfl)
      try simp only [Act.put, List.setIfInBounds_toArray, List.set_cons_zero, List.set_cons_succ]
      refine wpD_ready [11] (by kernel_rfl) (by simp) ?_
      refine AllD.cons 11 rfl (fun K' hK => ?_) AllD.nil
      go_simp
      (try go_wp2_with fail)
      refine late_step hK (by kernel_rfl) ?_
      clear hK K'
      try simp only [Act.put, List.setIfInBounds_toArray, List.set_cons_zero, List.set_cons_succ]
      refine wpD_done (by kernel_rfl) ?_ _
      refine np_intro ?_
      go_wp2_with fail
      go_meet
      exact ⟨A5, cap5, w5, rfl, hk5, hs5⟩
    refine AllD.cons 8 rfl (fun K' hK => ?_) AllD.nil
    go_simp
    refine hold_step hK ?_ (fun hHeld => ?_)
    · try dsimp only
      first | exact ⟨a1, g0⟩ | (refine ⟨?_, ?_⟩ <;> assumption) | go_keep
    clear hK K'
    try simp only [Act.put, List.setIfInBounds_toArray, List.set_cons_zero, List.set_cons_succ]
    refine wpD_ready [0] (by kernel_rfl) (by simp) ?_
    refine AllD.cons 0 rfl (fun K' hK => ?_) AllD.nil
    go_simp
    refine hold_step hK ?_ (fun hHeld => ?_)
    · try dsimp only
      first | exact ⟨a1, g0⟩ | (refine ⟨?_, ?_⟩ <;> assumption) | go_keep
    clear hK K'
    try simp only [Act.put, List.setIfInBounds_toArray, List.set_cons_zero, List.set_cons_succ]
    refine wpD_ready [3] (by kernel_rfl) (by simp) ?_
    refine AllD.cons 3 rfl (fun K' hK => ?_) AllD.nil
    refine step_append_sl _ (by rfl) (.tmp 127) (.tmp 129) 48 (by rfl) w2.heap.size 114 i0 _ 5 40 Try.underlying48 hi0 hz0 hz1 hz2 (by rfl) (by decide) (.slice (some ⟨_, 0, none⟩) 0 0) 0 [] (by rfl) ?_ (fun _ => True) (.slice A ts.length cap) ts.length (taks ts) (by rfl) ?_ ?_ ?_ ?_ ?_ ?_
    · ((with_reducible repeat (first | apply owns_drew | refine owns_empty' _ _ _ _ _ ?_ ?_ | apply owns_alloc)); (all_goals first | (simp; done) | (have := zb; omega)))
    · exact hl2.then_ (by with_reducible repeat (first | exact Kp.refl _ _ | apply Kp.drew | apply Kp.drewN | apply Kp.alloc))
    · exact taks_one ts
    · unfold maxLen; omega
    · omega
    · simp; try omega
    intro v3 w3 ho3 hg3 hat3
    rw [Nat.zero_add, List.nil_append] at ho3
    have hk3 : Kp none_ w2 w3 := Kp.grown (by with_reducible repeat (first | exact Kp.refl _ _ | apply Kp.drew | apply Kp.drewN | apply Kp.alloc)) hg3 (fun k hk => .inr (by cases hk; simp))
    have s1 := (hM.recv.kp hk3 (fun h => h)).cell 1
    have s2 := (hM.recv.kp hk3 (fun h => h)).frozen 1
    have s3 := (hg.kp hk3 (fun h => h)).cell 0
    simp at s1 s3
    have s4 := (hM.recv.kp hk3 (fun h => h)).lt
    have s5 := (hg.kp hk3 (fun h => h)).lt
    have s6 : w3.heap.size ≠ b := by omega
    have s7 : w3.heap.size ≠ g := by omega
    (first | (refine (fun (hq : Blk w3 w2.heap.size 114 #[.int .i64 h, .bool false, .int .i64 0, .int .i64 0, .int .i64 lo]) => ?_) ?_; rotate_left; (· refine Blk.grown_ ?_ hg3 ?_; (focus ((with_reducible repeat (first | refine Blk.new' _ _ _ _ ?_ | apply Blk.drew | apply Blk.alloc)); simp; done)); simp [Value.ownBlock])) | (refine (fun (hq : Blk w3 (w2.heap.size + 1) 114 #[.int .i64 h, .bool false, .int .i64 0, .int .i64 0, .int .i64 lo]) => ?_) ?_; rotate_left; (· refine Blk.grown_ ?_ hg3 ?_; (focus ((with_reducible repeat (first | refine Blk.new' _ _ _ _ ?_ | apply Blk.drew | apply Blk.alloc)); simp; done)); simp [Value.ownBlock])) | skip)
    refine hold_step hK ?_ (fun hHeld => ?_)
    · try dsimp only
      first | exact ⟨a1, g0⟩ | (refine ⟨?_, ?_⟩ <;> assumption) | go_keep
    clear hK K'
    try simp only [Act.put, List.setIfInBounds_toArray, List.set_cons_zero, List.set_cons_succ]
    refine wpD_ready [9] (by kernel_rfl) (by simp) ?_
    refine AllD.cons 9 rfl (fun K' hK => ?_) AllD.nil
    refine step_append_sl _ (by rfl) (.tmp 130) (.tmp 135) 48 (by rfl) w2.heap.size 114 i0 _ 5 40 Try.underlying48 hi0 hz0 hz1 hz2 (by rfl) (by decide) v3 ts.length (taks ts) (by rfl) ?_ (fun _ => True) (.slice (some ⟨_, 0, none⟩) 1 1) 1 (TakD.cells ⟨h, false, 0, 0, lo⟩) (by rfl) ?_ ?_ ?_ ?_ ?_ ?_
    · (with_reducible repeat (first | exact ho3 | apply owns_drew | apply owns_alloc))
    · refine Sl.of_blk (t := 114) (cs := #[.int .i64 h, .bool false, .int .i64 0, .int .i64 0, .int .i64 lo]) ?_ trivial 1 5 rfl (by unfold maxLen; omega); first | (with_reducible exact hq) | ((with_reducible repeat (first | refine Blk.new' _ _ _ _ ?_ | apply Blk.drew | apply Blk.alloc)); simp; done) | (with_reducible repeat (first | exact hq | apply Blk.drew | apply Blk.alloc))
    · have := taks_one [⟨h, false, 0, 0, lo⟩]; simpa [taks] using this
    · unfold maxLen; omega
    · omega
    · have := hk3.size; simp; try omega
    intro v5 w5 ho5 hg5 hat5
    rw [taks_snoc] at ho5
    have hk5 : Kp none_ w2 w5 := Kp.grown (hk3.then_ (by with_reducible repeat (first | exact Kp.refl _ _ | apply Kp.drew | apply Kp.drewN | apply Kp.alloc))) hg5 (fun k hk => .inr (owns_ge ho3 k hk).1)
    have q1 := (hM.recv.kp hk5 (fun h => h)).cell 1
    have q2 := (hM.recv.kp hk5 (fun h => h)).frozen 1
    have q3 := (hg.kp hk5 (fun h => h)).cell 0
    simp at q1 q3
    have hs5 : Tl (fun k => w2.heap.size ≤ k) w5 v5 (ts ++ [⟨h, false, 0, 0, lo⟩]) := Sl.of_own (ok := fun k => w2.heap.size ≤ k) (by rw [List.length_append]; exact ho5) (fun _ h => h)
    obtain ⟨A5, cap5, hv5, _, _⟩ := hs5.form
    subst hv5
    simp only [List.length_append, List.length_singleton] at hs5 ⊢
    refine hold_step hK ?_ (fun hHeld => ?_)
    · try dsimp only
      first | exact ⟨a1, g0⟩ | (refine ⟨?_, ?_⟩ <;> assumption) | go_keep
    clear hK K'
    try simp only [Act.put, List.setIfInBounds_toArray, List.set_cons_zero, List.set_cons_succ]
    refine wpD_takeP 10 (v := ?_) rfl (by kernel_rfl) (by kernel_rfl) (by kernel_rfl) (by kernel_rfl) (fun _ _ _ h => h) (fun _ => hHeld) (yields_any (by rfl) ?_) ?_; rotate_left; (· intro wS; (try go_simp); try with_reducible rfl)
    try simp only [Act.put, List.setIfInBounds_toArray, List.set_cons_zero, List.set_cons_succ]
    refine wpD_ready [11] (by kernel_rfl) (by simp) ?_
    refine AllD.cons 11 rfl (fun K' hK => ?_) AllD.nil
    go_simp
    (try go_wp2_with fail)
    refine late_step hK (by kernel_rfl) ?_
    clear hK K'
    try simp only [Act.put, List.setIfInBounds_toArray, List.set_cons_zero, List.set_cons_succ]
    refine wpD_done (by kernel_rfl) ?_ _
    refine np_intro ?_
    go_wp2_with fail
    go_meet
    exact ⟨A5, cap5, w5, rfl, hk5, hs5⟩
  case rest =>
    obtain ⟨A3, cap3, w5, rfl, hk5, hs5⟩ := hcut
    have nr0 : Blk (w5.setCell ⟨b, 1, none⟩ (.slice A3 (ts.length + 1) cap3)) (b + 1) 50 #[.float .f64 0, .slice none 0 0] := (hM.r0.kp hk5 (fun h => h)).far (p := ⟨b, 1, none⟩) (by simp) _
    have nr1 : Blk (w5.setCell ⟨b, 1, none⟩ (.slice A3 (ts.length + 1) cap3)) (b + 2) 28 #[.int .i64 0, .int .i64 0] := (hM.r1.kp hk5 (fun h => h)).far (p := ⟨b, 1, none⟩) (by simp) _
    have ngb : Blk (w5.setCell ⟨b, 1, none⟩ (.slice A3 (ts.length + 1) cap3)) g 28 #[.int .i64 lo, .int .i64 hi] := (hg.kp hk5 (fun h => h)).far (p := ⟨b, 1, none⟩) (by show g ≠ b; omega) _
    have nrc : Blk (w5.setCell ⟨b, 1, none⟩ (.slice A3 (ts.length + 1) cap3)) b 50 #[.float .f64 rate, .slice A3 (ts.length + 1) cap3] := (hM.recv.kp hk5 (fun h => h)).set 1 _
    have hebw : w.heap.size ≤ b := by have := hM.eb; omega
    have hkw : Kp none_ w (w5.setCell ⟨b, 1, none⟩ (.slice A3 (ts.length + 1) cap3)) := (hM.kp.then_ hk5).setCell (p := ⟨b, 1, none⟩) _ (.inr hebw)
    have hss : Tl (fun k => w2.heap.size ≤ k) (w5.setCell ⟨b, 1, none⟩ (.slice A3 (ts.length + 1) cap3)) (.slice A3 (ts.length + 1) cap3) (ts ++ [⟨h, false, 0, 0, lo⟩]) := hs5.kp (kp_one w5 b 1 _) (fun i hi hc hd => by have hd' : i = b := hd; omega)
    clear a1 a2 g0
    generalize w5.setCell ⟨b, 1, none⟩ (.slice A3 (ts.length + 1) cap3) = w6 at *
    have a0 := nrc.cell 0
    have a1 := nrc.cell 1
    have g0 := ngb.cell 0
    have g1 := ngb.cell 1
    have p0 := nr0.cell 0
    have p1 := nr0.cell 1
    have p2 := nr1.cell 0
    have p3 := nr1.cell 1
    have q0 := nr0.frozen 0
    have q1 := nr0.frozen 1
    have q2 := nr1.frozen 0
    have q3 := nr1.frozen 1
    simp at a0 a1 g0 g1 p0 p1 p2 p3
    have m1 : b + 1 ≠ g := by omega
    have m2 : b + 2 ≠ g := by omega
    go_upto_region 29 with fail
    refine wp_region_D [] (fun w' => w'.cell? ⟨b, 0, none⟩ = some (.float .f64 rate) ∧ w'.cell? ⟨b, 1, none⟩ = some (.slice A3 (ts.length + 1) cap3) ∧ w'.cell? ⟨g, 0, none⟩ = some (.int .i64 lo) ∧ w'.cell? ⟨g, 1, none⟩ = some (.int .i64 hi)) (by kernel_rfl) ?_ (fun hHeld => ?_)
    · try dsimp only
      first | exact ⟨a0, a1, g0, g1⟩ | go_keep
    refine wpD_take 0 (v := ?_) rfl (by kernel_rfl) (by kernel_rfl) (by kernel_rfl) (by kernel_rfl) (by kernel_rfl) (fun _ _ _ h => h) hHeld (yields_if (by rfl) ?_) ?_; rotate_left; (· intro wS hS; (try dsimp only at hS); (try go_simp); try with_reducible rfl)
    try simp only [Act.put, List.setIfInBounds_toArray, List.set_cons_zero, List.set_cons_succ]
    refine wpD_take 1 (v := ?_) rfl (by kernel_rfl) (by kernel_rfl) (by kernel_rfl) (by kernel_rfl) (by kernel_rfl) (fun _ _ _ h => h) hHeld (yields_if (by rfl) ?_) ?_; rotate_left; (· intro wS hS; (try dsimp only at hS); (try go_simp); try with_reducible rfl)
    try simp only [Act.put, List.setIfInBounds_toArray, List.set_cons_zero, List.set_cons_succ]
    refine wpD_ready [2] (by kernel_rfl) (by simp) ?_
    refine AllD.cons 2 rfl (fun K' hK => ?_) AllD.nil
    go_simp
    (try go_wp2_with fail)
    refine hold_step hK ?_ (fun hHeld => ?_)
    · try dsimp only
      first | exact ⟨a0, a1, g0, g1⟩ | go_keep
    clear hK K'
    try simp only [Act.put, List.setIfInBounds_toArray, List.set_cons_zero, List.set_cons_succ]
    refine wpD_ready [3] (by kernel_rfl) (by simp) ?_
    refine AllD.cons 3 rfl (fun K' hK => ?_) AllD.nil
    go_simp
    (try go_wp2_with fail)
    refine hold_step hK ?_ (fun hHeld => ?_)
    · try dsimp only
      first | exact ⟨a0, a1, g0, g1⟩ | go_keep
    clear hK K'
    try simp only [Act.put, List.setIfInBounds_toArray, List.set_cons_zero, List.set_cons_succ]
    refine wpD_takeP 4 (v := ?_) rfl (by kernel_rfl) (by kernel_rfl) (by kernel_rfl) (by kernel_rfl) (fun _ _ _ h => h) (fun _ => hHeld) (yields_any (by rfl) ?_) ?_; rotate_left; (· intro wS; (try go_simp); try with_reducible rfl)
    try simp only [Act.put, List.setIfInBounds_toArray, List.set_cons_zero, List.set_cons_succ]
    refine wpD_done (by kernel_rfl) ?_ _
    refine np_intro ?_
    go_wp2_with fail
    have z1 := (((nr0.set 0 (.float .f64 rate)).set 1 (.slice A3 (ts.length + 1) cap3)).far (p := ⟨b + 2, 0, none⟩) (by simp) (.int .i64 lo)).far (p := ⟨b + 2, 1, none⟩) (by simp) (.int .i64 hi)
    have z2 := (((nr1.far (p := ⟨b + 1, 0, none⟩) (by simp) (.float .f64 rate)).far (p := ⟨b + 1, 1, none⟩) (by simp) (.slice A3 (ts.length + 1) cap3)).set 0 (.int .i64 lo)).set 1 (.int .i64 hi)
    have e0 := z1.cell 0
    have e1 := z1.cell 1
    have e2 := z2.cell 0
    have e3 := z2.cell 1
    simp at e0 e1 e2 e3
    have kz : Kp (fun k => k = b + 1 ∨ k = b + 2) w6 ((((w6.setCell ⟨b + 1, 0, none⟩ (.float .f64 rate)).setCell ⟨b + 1, 1, none⟩ (.slice A3 (ts.length + 1) cap3)).setCell ⟨b + 2, 0, none⟩ (.int .i64 lo)).setCell ⟨b + 2, 1, none⟩ (.int .i64 hi)) :=
      ((((Kp.refl _ w6).setCell (p := ⟨b + 1, 0, none⟩) _ (.inl (.inl rfl))).setCell (p := ⟨b + 1, 1, none⟩) _ (.inl (.inl rfl))).setCell (p := ⟨b + 2, 0, none⟩) _ (.inl (.inr rfl))).setCell (p := ⟨b + 2, 1, none⟩) _ (.inl (.inr rfl))
    have zb2 := hM.none.lt
    have hkz : Kp none_ w _ := hkw.trans kz (fun i hi hc => by omega)
    have hsz := hss.kp kz (fun i hi hc hd => by omega)
    have hfin : refNowOut rate 0 lo hi (ts ++ [⟨h, false, 0, 0, lo⟩]) w (.returned (.tuple #[.agg #[.float .f64 rate, .slice A3 (ts.length + 1) cap3], .agg #[.int .i64 lo, .int .i64 hi], .int .i64 0])) _ := ⟨_, rfl, hkz.drew, (hsz.mono (ok' := fun _ => True) (fun _ _ _ => trivial)).drew⟩
    refine bodyPost_ret (v := .tuple #[.agg #[.float .f64 rate, .slice A3 (ts.length + 1) cap3], .agg #[.int .i64 lo, .int .i64 hi], .int .i64 0]) ?_ rfl ?_
    · simp [results, Try.results23, go_sem, e0, e1, e2, e3]
    · exact hfin
end Go.Proofs.Ytjgbandmjamcaaa

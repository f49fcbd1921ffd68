/- Contract: a clock's Now. -/
import Derived.Test.YtjgbandmjamcaaaClkB
import Derived.Test.YtjgbandmjamcaaaReg
namespace Go.Proofs.Ytjgbandmjamcaaa
open Go.RowKit

def nowLo (c : ClkD) (h : Int) : Int := max (wLo (wLo (c.time + (h - c.at_)) c.width) (grow (h - c.at_) c.rate)) c.floor
def nowHi (c : ClkD) (h : Int) : Int := max (wHi (wHi (c.time + (h - c.at_)) c.width) (grow (h - c.at_) c.rate)) (nowLo c h)
theorem widen_span {lo hi by_ : Int} (hs : isSpan lo hi = true) (hb : isTime by_ = true) : isSpan (wLo lo by_) (wHi hi by_) = true := by
  obtain ⟨h1, h2, h3⟩ := isSpan_iff.1 hs
  obtain ⟨h4, h5⟩ := isTime_iff.1 hb
  refine isSpan_iff.2 ?_
  unfold wLo wHi
  omega
set_option maxRecDepth 100000 in
set_option maxHeartbeats 800000 in
theorem clock_Now (g : Nat) (c : ClkD) (h : Int) (w : World) (hb : Blk w g 112 c.cells) (hok : c.ok) (hset : c.set = true) (hh : isTime h = true) (hl : c.last ≤ h) (hfull : c.time + (h - c.at_) ≤ 1125899906842624) :
    Calls Try.prog 24 #[.pointer (some ⟨g, 0, none⟩), .int .i64 h] w (Ret (.tuple #[.agg #[.int .i64 (nowLo c h), .int .i64 (nowHi c h)], .int .i64 0]) fun w' => Kp (only g) w w' ∧ Blk w' g 112 (ClkD.cells ⟨c.at_, c.time, c.width, true, c.rate, h, nowLo c h⟩)) := by
  obtain ⟨at_, time, width, set, rate, last, floor⟩ := c
  dsimp only [ClkD.ok] at hok hset hl hfull ⊢
  subst hset
  obtain ⟨ha0, ha1, hlm, htm, hwd, hfl, hrt⟩ := hok
  obtain ⟨hh0, hh1⟩ := isTime_iff.1 hh
  obtain ⟨ht0, ht1⟩ := isTime_iff.1 htm
  have hbase : isTime (time + (h - at_)) = true := isTime_iff.2 ⟨by omega, hfull⟩
  have hel : isTime (h - at_) = true := isTime_iff.2 ⟨by omega, by omega⟩
  have hbs : isSpan (time + (h - at_)) (time + (h - at_)) = true := isSpan_iff.2 ⟨by omega, by omega, by omega⟩
  have hs1 := widen_span hbs hwd
  have hbd := timesF_bd (-(h - at_)) rate hrt (by omega)
  have hgt : isTime (grow (h - at_) rate) = true := isTime_iff.2 (by unfold grow; omega)
  have hs2 := widen_span hs1 hgt
  have hlo : nowLo ⟨at_, time, width, true, rate, last, floor⟩ h = max (wLo (wLo (time + (h - at_)) width) (grow (h - at_) rate)) floor := rfl
  have hhi : nowHi ⟨at_, time, width, true, rate, last, floor⟩ h = max (wHi (wHi (time + (h - at_)) width) (grow (h - at_) rate)) (nowLo ⟨at_, time, width, true, rate, last, floor⟩ h) := rfl
  have hard := fun w => span_Around (time + (h - at_)) width w hbase hwd
  have hdr := fun w => span_Drift _ _ (h - at_) rate w hs1 hel hrt
  generalize nowHi ⟨at_, time, width, true, rate, last, floor⟩ h = HI at *
  generalize nowLo ⟨at_, time, width, true, rate, last, floor⟩ h = LO at *
  generalize wLo (wLo (time + (h - at_)) width) (grow (h - at_) rate) = L2 at *
  generalize wHi (wHi (time + (h - at_)) width) (grow (h - at_) rate) = H2 at *
  generalize wLo (time + (h - at_)) width = L1 at *
  generalize wHi (time + (h - at_)) width = H1 at *
  clear hbd hgt hs2 hs1 hbs
  have r0 := hb.cell 0
  have r1 := hb.cell 1
  have r2 := hb.cell 2
  have r3 := hb.cell 3
  have r4 := hb.cell 4
  have r5 := hb.cell 5
  have r6 := hb.cell 6
  simp [ClkD.cells] at r0 r1 r2 r3 r4 r5 r6
  have zb := hb.lt
  have hr := Blk.new w 28 #[.int .i64 0, .int .i64 0]
  have hb0 := hb.alloc (.cells #[.int .i64 0, .int .i64 0] 28)
  go_enter Try.func24, Try.ntmps24
  go_wp2_with fail
  refine (clock_in h _).mono ?_; rintro e' w1 ⟨rfl, rfl⟩
  rw [hh]
  go_wp2_with fail
  go_quiet (fail)
  go_wp2_with fail
  have hbA := hb0.drewN nq
  have hrA := hr.drewN nq
  have hkA : Kp none_ w ((w.alloc (.cells #[.int .i64 0, .int .i64 0] 28)).drewN nq) := ((Kp.refl none_ w).alloc _).drewN nq
  have zA : ((w.alloc (.cells #[.int .i64 0, .int .i64 0] 28)).drewN nq).heap.size = w.heap.size + 1 := by simp
  generalize (w.alloc (.cells #[.int .i64 0, .int .i64 0] 28)).drewN nq = wA at *
  clear hb0 hr r0 r1 r2 r3 r4 r5 r6
  have r0 := hbA.cell 0
  have r1 := hbA.cell 1
  have r2 := hbA.cell 2
  simp [ClkD.cells] at r0 r1 r2
  have sm1 : IntKind.i64.wrap (h - at_) = h - at_ := by rw [IntKind.wrap_i64]; omega
  have sm2 : IntKind.i64.wrap (time + (h - at_)) = time + (h - at_) := by rw [IntKind.wrap_i64]; omega
  have ZA := Lib.hid zA; clear zA
  have nA : wA.heap.size ≠ g := Nat.ne_of_gt hbA.lt
  go_cut [6] (fun s6 wx => ∃ gS, s6 = .pointer (some ⟨gS, 0, none⟩) ∧ wA.heap.size ≤ gS ∧ Kp none_ wA wx ∧ Blk wx gS 28 #[.int .i64 L1, .int .i64 H1])
  case first =>
    refine wp_region_D [] (fun w' => w'.cell? ⟨g, 0, none⟩ = some (.int .i64 at_) ∧ w'.cell? ⟨g, 1, none⟩ = some (.int .i64 time) ∧ w'.cell? ⟨g, 2, none⟩ = some (.int .i64 width)) (by kernel_rfl) ?_ (fun hHeld => ?_)
    · try dsimp only
      first | go_keep | (refine ⟨?_, ?_, ?_⟩ <;> assumption)
    refine wpD_takeP 0 (v := ?_) rfl (by kernel_rfl) (by kernel_rfl) (by kernel_rfl) (by kernel_rfl) (fun _ _ _ h => h) (fun _ => hHeld) (yields_any (by rfl) ?_) ?_; rotate_left; (· intro wS; go_simp; try with_reducible rfl)
    try simp only [Act.put, List.setIfInBounds_toArray, List.set_cons_zero, List.set_cons_succ]
    refine wpD_takeP 1 (v := ?_) rfl (by kernel_rfl) (by kernel_rfl) (by kernel_rfl) (by kernel_rfl) (fun _ _ _ h => h) (fun _ => hHeld) (yields_any (by rfl) ?_) ?_; rotate_left; (· intro wS; go_simp; try with_reducible rfl)
    try simp only [Act.put, List.setIfInBounds_toArray, List.set_cons_zero, List.set_cons_succ]
    refine wpD_takeP 2 (v := ?_) rfl (by kernel_rfl) (by kernel_rfl) (by kernel_rfl) (by kernel_rfl) (fun _ _ _ h => h) (fun _ => hHeld) (yields_any (by rfl) ?_) ?_; rotate_left; (· intro wS; go_simp; try with_reducible rfl)
    try simp only [Act.put, List.setIfInBounds_toArray, List.set_cons_zero, List.set_cons_succ]
    refine wpD_takeP 3 (v := ?_) rfl (by kernel_rfl) (by kernel_rfl) (by kernel_rfl) (by kernel_rfl) (fun _ _ _ h => h) (fun _ => hHeld) (yields_any (by rfl) ?_) ?_; rotate_left; (· intro wS; go_simp; try with_reducible rfl)
    try simp only [Act.put, List.setIfInBounds_toArray, List.set_cons_zero, List.set_cons_succ]
    refine wpD_take 4 (v := ?_) rfl (by kernel_rfl) (by kernel_rfl) (by kernel_rfl) (by kernel_rfl) (by kernel_rfl) (fun _ _ _ h => h) hHeld (yields_if (by rfl) ?_) ?_; rotate_left; (· intro wS hS; (try dsimp only at hS); go_simp; try with_reducible rfl)
    try simp only [Act.put, List.setIfInBounds_toArray, List.set_cons_zero, List.set_cons_succ]
    refine wpD_takeP 5 (v := ?_) rfl (by kernel_rfl) (by kernel_rfl) (by kernel_rfl) (by kernel_rfl) (fun _ _ _ h => h) (fun _ => hHeld) (yields_any (by rfl) ?_) ?_; rotate_left; (· intro wS; go_simp; try with_reducible rfl)
    try simp only [Act.put, List.setIfInBounds_toArray, List.set_cons_zero, List.set_cons_succ]
    refine wpD_takeP 6 (v := ?_) rfl (by kernel_rfl) (by kernel_rfl) (by kernel_rfl) (by kernel_rfl) (fun _ _ _ h => h) (fun _ => hHeld) (yields_any (by rfl) ?_) ?_; rotate_left; (· intro wS; go_simp; try with_reducible rfl)
    try simp only [Act.put, List.setIfInBounds_toArray, List.set_cons_zero, List.set_cons_succ]
    refine wpD_takeP 7 (v := ?_) rfl (by kernel_rfl) (by kernel_rfl) (by kernel_rfl) (by kernel_rfl) (fun _ _ _ h => h) (fun _ => hHeld) (yields_any (by rfl) ?_) ?_; rotate_left; (· intro wS; go_simp; try with_reducible rfl)
    try simp only [Act.put, List.setIfInBounds_toArray, List.set_cons_zero, List.set_cons_succ]
    refine wpD_takeP 8 (v := ?_) rfl (by kernel_rfl) (by kernel_rfl) (by kernel_rfl) (by kernel_rfl) (fun _ _ _ h => h) (fun _ => hHeld) (yields_any (by rfl) ?_) ?_; rotate_left; (· intro wS; go_simp; try with_reducible rfl)
    try simp only [Act.put, List.setIfInBounds_toArray, List.set_cons_zero, List.set_cons_succ]
    refine wpD_takeP 9 (v := ?_) rfl (by kernel_rfl) (by kernel_rfl) (by kernel_rfl) (by kernel_rfl) (fun _ _ _ h => h) (fun _ => hHeld) (yields_any (by rfl) ?_) ?_; rotate_left; (· intro wS; go_simp; try with_reducible rfl)
    try simp only [Act.put, List.setIfInBounds_toArray, List.set_cons_zero, List.set_cons_succ]
    refine wpD_take 10 (v := ?_) rfl (by kernel_rfl) (by kernel_rfl) (by kernel_rfl) (by kernel_rfl) (by kernel_rfl) (fun _ _ _ h => h) hHeld (yields_if (by rfl) ?_) ?_; rotate_left; (· intro wS hS; (try dsimp only at hS); go_simp; try with_reducible rfl)
    try simp only [Act.put, List.setIfInBounds_toArray, List.set_cons_zero, List.set_cons_succ]
    refine wpD_takeP 11 (v := ?_) rfl (by kernel_rfl) (by kernel_rfl) (by kernel_rfl) (by kernel_rfl) (fun _ _ _ h => h) (fun _ => hHeld) (yields_any (by rfl) ?_) ?_; rotate_left; (· intro wS; go_simp; try with_reducible rfl)
    try simp only [Act.put, List.setIfInBounds_toArray, List.set_cons_zero, List.set_cons_succ]
    refine wpD_takeP 12 (v := ?_) rfl (by kernel_rfl) (by kernel_rfl) (by kernel_rfl) (by kernel_rfl) (fun _ _ _ h => h) (fun _ => hHeld) (yields_any (by rfl) ?_) ?_; rotate_left; (· intro wS; go_simp; try with_reducible rfl)
    try simp only [Act.put, List.setIfInBounds_toArray, List.set_cons_zero, List.set_cons_succ]
    refine wpD_takeP 13 (v := ?_) rfl (by kernel_rfl) (by kernel_rfl) (by kernel_rfl) (by kernel_rfl) (fun _ _ _ h => h) (fun _ => hHeld) (yields_any (by rfl) ?_) ?_; rotate_left; (· intro wS; go_simp; try with_reducible rfl)
    try simp only [Act.put, List.setIfInBounds_toArray, List.set_cons_zero, List.set_cons_succ]
    refine wpD_takeP 14 (v := ?_) rfl (by kernel_rfl) (by kernel_rfl) (by kernel_rfl) (by kernel_rfl) (fun _ _ _ h => h) (fun _ => hHeld) (yields_any (by rfl) ?_) ?_; rotate_left; (· intro wS; go_simp; try with_reducible rfl)
    try simp only [Act.put, List.setIfInBounds_toArray, List.set_cons_zero, List.set_cons_succ]
    refine wpD_takeP 15 (v := ?_) rfl (by kernel_rfl) (by kernel_rfl) (by kernel_rfl) (by kernel_rfl) (fun _ _ _ h => h) (fun _ => hHeld) (yields_any (by rfl) ?_) ?_; rotate_left; (· intro wS; go_simp; try with_reducible rfl)
    try simp only [Act.put, List.setIfInBounds_toArray, List.set_cons_zero, List.set_cons_succ]
    refine wpD_takeP 16 (v := ?_) rfl (by kernel_rfl) (by kernel_rfl) (by kernel_rfl) (by kernel_rfl) (fun _ _ _ h => h) (fun _ => hHeld) (yields_any (by rfl) ?_) ?_; rotate_left; (· intro wS; go_simp; try with_reducible rfl)
    try simp only [Act.put, List.setIfInBounds_toArray, List.set_cons_zero, List.set_cons_succ]
    refine wpD_take 17 (v := ?_) rfl (by kernel_rfl) (by kernel_rfl) (by kernel_rfl) (by kernel_rfl) (by kernel_rfl) (fun _ _ _ h => h) hHeld (yields_if (by rfl) ?_) ?_; rotate_left; (· intro wS hS; (try dsimp only at hS); go_simp; try with_reducible rfl)
    try simp only [Act.put, List.setIfInBounds_toArray, List.set_cons_zero, List.set_cons_succ]
    refine wpD_ready [18, 22] (by kernel_rfl) (by simp) ?_
    refine AllD.cons 18 rfl (fun K' hK => ?_) ?_
    · go_simp
      refine (hard _).mono ?_
      rintro e w2 ⟨rfl, hk2⟩
      have hkx : Kp none_ wA w2 := Kp.then_ (by with_reducible repeat (first | exact Kp.refl _ _ | apply Kp.drew | apply Kp.drewN | apply Kp.alloc)) hk2
      have hgx := hbA.kp hkx (fun h => h)
      have d0 := hgx.cell 0
      have d1 := hgx.cell 1
      have d2 := hgx.cell 2
      simp [ClkD.cells] at d0 d1 d2
      clear hgx
      try (have hfr : Blk w2 wA.heap.size 28 #[.int .i64 0, .int .i64 0] := Blk.kp (S := none_) (Blk.drew (Blk.new' _ 28 #[.int .i64 0, .int .i64 0] _ rfl)) hk2 (fun h => h); have k0 : w2.cell? ⟨wA.heap.size, 0, none⟩ = some (.int .i64 0) := hfr.cell 0; have k1 : w2.cell? ⟨wA.heap.size, 1, none⟩ = some (.int .i64 0) := hfr.cell 1; have l0 := hfr.frozen 0; have l1 := hfr.frozen 1)
      go_wp2_with fail
      refine hold_step hK ?_ (fun hHeld => ?_)
      · try dsimp only
        first | go_keep | (refine ⟨?_, ?_, ?_⟩ <;> assumption)
      clear hK K'
      try simp only [Act.put, List.setIfInBounds_toArray, List.set_cons_zero, List.set_cons_succ]
      refine wpD_takeP 19 (v := ?_) rfl (by kernel_rfl) (by kernel_rfl) (by kernel_rfl) (by kernel_rfl) (fun _ _ _ h => h) (fun _ => hHeld) (yields_any (by rfl) ?_) ?_; rotate_left; (· intro wS; go_simp; try with_reducible rfl)
      try simp only [Act.put, List.setIfInBounds_toArray, List.set_cons_zero, List.set_cons_succ]
      refine wpD_takeP 20 (v := ?_) rfl (by kernel_rfl) (by kernel_rfl) (by kernel_rfl) (by kernel_rfl) (fun _ _ _ h => h) (fun _ => hHeld) (yields_any (by rfl) ?_) ?_; rotate_left; (· intro wS; go_simp; try with_reducible rfl)
      try simp only [Act.put, List.setIfInBounds_toArray, List.set_cons_zero, List.set_cons_succ]
      refine wpD_takeP 21 (v := ?_) rfl (by kernel_rfl) (by kernel_rfl) (by kernel_rfl) (by kernel_rfl) (fun _ _ _ h => h) (fun _ => hHeld) (yields_any (by rfl) ?_) ?_; rotate_left; (· intro wS; go_simp; try with_reducible rfl)
      try simp only [Act.put, List.setIfInBounds_toArray, List.set_cons_zero, List.set_cons_succ]
      refine wpD_ready [22] (by kernel_rfl) (by simp) ?_
      refine AllD.cons 22 rfl (fun K' hK => ?_) AllD.nil
      go_simp
      refine hold_step hK ?_ (fun hHeld => ?_)
      · try dsimp only
        first | go_keep | (refine ⟨?_, ?_, ?_⟩ <;> assumption)
      clear hK K'
      try simp only [Act.put, List.setIfInBounds_toArray, List.set_cons_zero, List.set_cons_succ]
      refine wpD_ready [23] (by kernel_rfl) (by simp) ?_
      refine AllD.cons 23 rfl (fun K' hK => ?_) AllD.nil
      go_simp
      (try go_wp2_with fail)
      refine hold_step hK ?_ (fun hHeld => ?_)
      · try dsimp only
        first | go_keep | (refine ⟨?_, ?_, ?_⟩ <;> assumption)
      clear hK K'
      try simp only [Act.put, List.setIfInBounds_toArray, List.set_cons_zero, List.set_cons_succ]
      refine wpD_takeP 24 (v := ?_) rfl (by kernel_rfl) (by kernel_rfl) (by kernel_rfl) (by kernel_rfl) (fun _ _ _ h => h) (fun _ => hHeld) (yields_any (by rfl) ?_) ?_; rotate_left; (· intro wS; go_simp; try with_reducible rfl)
      try simp only [Act.put, List.setIfInBounds_toArray, List.set_cons_zero, List.set_cons_succ]
      refine wpD_done (by kernel_rfl) ?_ _
      refine np_intro ?_
      go_wp2_with fail
      go_meet
      first
        | exact ⟨_, rfl, hkx.size, hkx.alloc _, Blk.new _ _ _⟩
        | exact ⟨_, rfl, Nat.le_refl _, (hkx.setCell (p := ⟨wA.heap.size, 0, none⟩) _ (.inr (Nat.le_refl _))).setCell (p := ⟨wA.heap.size, 1, none⟩) _ (.inr (Nat.le_refl _)), (hfr.set 0 _).set 1 _⟩
    refine AllD.cons 22 rfl (fun K' hK => ?_) AllD.nil
    go_simp
    refine hold_step hK ?_ (fun hHeld => ?_)
    · try dsimp only
      first | go_keep | (refine ⟨?_, ?_, ?_⟩ <;> assumption)
    clear hK K'
    try simp only [Act.put, List.setIfInBounds_toArray, List.set_cons_zero, List.set_cons_succ]
    refine wpD_ready [18] (by kernel_rfl) (by simp) ?_
    refine AllD.cons 18 rfl (fun K' hK => ?_) AllD.nil
    go_simp
    refine (hard _).mono ?_
    rintro e w2 ⟨rfl, hk2⟩
    have hkx : Kp none_ wA w2 := Kp.then_ (by with_reducible repeat (first | exact Kp.refl _ _ | apply Kp.drew | apply Kp.drewN | apply Kp.alloc)) hk2
    have hgx := hbA.kp hkx (fun h => h)
    have d0 := hgx.cell 0
    have d1 := hgx.cell 1
    have d2 := hgx.cell 2
    simp [ClkD.cells] at d0 d1 d2
    clear hgx
    try (have hfr : Blk w2 wA.heap.size 28 #[.int .i64 0, .int .i64 0] := Blk.kp (S := none_) (Blk.drew (Blk.new' _ 28 #[.int .i64 0, .int .i64 0] _ rfl)) hk2 (fun h => h); have k0 : w2.cell? ⟨wA.heap.size, 0, none⟩ = some (.int .i64 0) := hfr.cell 0; have k1 : w2.cell? ⟨wA.heap.size, 1, none⟩ = some (.int .i64 0) := hfr.cell 1; have l0 := hfr.frozen 0; have l1 := hfr.frozen 1)
    go_wp2_with fail
    refine hold_step hK ?_ (fun hHeld => ?_)
    · try dsimp only
      first | go_keep | (refine ⟨?_, ?_, ?_⟩ <;> assumption)
    clear hK K'
    try simp only [Act.put, List.setIfInBounds_toArray, List.set_cons_zero, List.set_cons_succ]
    refine wpD_takeP 19 (v := ?_) rfl (by kernel_rfl) (by kernel_rfl) (by kernel_rfl) (by kernel_rfl) (fun _ _ _ h => h) (fun _ => hHeld) (yields_any (by rfl) ?_) ?_; rotate_left; (· intro wS; go_simp; try with_reducible rfl)
    try simp only [Act.put, List.setIfInBounds_toArray, List.set_cons_zero, List.set_cons_succ]
    refine wpD_takeP 20 (v := ?_) rfl (by kernel_rfl) (by kernel_rfl) (by kernel_rfl) (by kernel_rfl) (fun _ _ _ h => h) (fun _ => hHeld) (yields_any (by rfl) ?_) ?_; rotate_left; (· intro wS; go_simp; try with_reducible rfl)
    try simp only [Act.put, List.setIfInBounds_toArray, List.set_cons_zero, List.set_cons_succ]
    refine wpD_takeP 21 (v := ?_) rfl (by kernel_rfl) (by kernel_rfl) (by kernel_rfl) (by kernel_rfl) (fun _ _ _ h => h) (fun _ => hHeld) (yields_any (by rfl) ?_) ?_; rotate_left; (· intro wS; go_simp; try with_reducible rfl)
    try simp only [Act.put, List.setIfInBounds_toArray, List.set_cons_zero, List.set_cons_succ]
    refine wpD_ready [23] (by kernel_rfl) (by simp) ?_
    refine AllD.cons 23 rfl (fun K' hK => ?_) AllD.nil
    go_simp
    (try go_wp2_with fail)
    refine hold_step hK ?_ (fun hHeld => ?_)
    · try dsimp only
      first | go_keep | (refine ⟨?_, ?_, ?_⟩ <;> assumption)
    clear hK K'
    try simp only [Act.put, List.setIfInBounds_toArray, List.set_cons_zero, List.set_cons_succ]
    refine wpD_takeP 24 (v := ?_) rfl (by kernel_rfl) (by kernel_rfl) (by kernel_rfl) (by kernel_rfl) (fun _ _ _ h => h) (fun _ => hHeld) (yields_any (by rfl) ?_) ?_; rotate_left; (· intro wS; go_simp; try with_reducible rfl)
    try simp only [Act.put, List.setIfInBounds_toArray, List.set_cons_zero, List.set_cons_succ]
    refine wpD_done (by kernel_rfl) ?_ _
    refine np_intro ?_
    go_wp2_with fail
    go_meet
    first
      | exact ⟨_, rfl, hkx.size, hkx.alloc _, Blk.new _ _ _⟩
      | exact ⟨_, rfl, Nat.le_refl _, (hkx.setCell (p := ⟨wA.heap.size, 0, none⟩) _ (.inr (Nat.le_refl _))).setCell (p := ⟨wA.heap.size, 1, none⟩) _ (.inr (Nat.le_refl _)), (hfr.set 0 _).set 1 _⟩
  case rest =>
    obtain ⟨gS, rfl, hgS, hkc, hbS⟩ := hcut
    have hbc := hbA.kp hkc (fun h => h)
    have nS : gS ≠ g := Nat.ne_of_gt (by have := hbA.lt; omega)
    clear r0 r1 r2
    have r0 := hbc.cell 0
    have r4 := hbc.cell 4
    have s0 := hbS.cell 0
    have s1 := hbS.cell 1
    simp [ClkD.cells] at r0 r4 s0 s1
    clear hard sm2
    go_upto_region 10 with fail
    go_cut [] (fun wx => Kp none_ wA wx ∧ Blk wx gS 28 #[.int .i64 L2, .int .i64 H2])
    case first =>
      refine wp_region_D [16] (fun w' => w'.cell? ⟨g, 0, none⟩ = some (.int .i64 at_) ∧ w'.cell? ⟨g, 4, none⟩ = some (.float .f64 rate) ∧ w'.cell? ⟨gS, 0, none⟩ = some (.int .i64 L1) ∧ w'.cell? ⟨gS, 1, none⟩ = some (.int .i64 H1)) (by kernel_rfl) ?_ (fun hHeld => ?_)
      · try dsimp only
        first | go_keep | (refine ⟨?_, ?_, ?_, ?_⟩ <;> assumption)
      refine wpD_take 0 (v := ?_) rfl (by kernel_rfl) (by kernel_rfl) (by kernel_rfl) (by kernel_rfl) (by kernel_rfl) (fun _ _ _ h => h) hHeld (yields_if (by rfl) ?_) ?_; rotate_left; (· intro wS hS; (try dsimp only at hS); go_simp; try with_reducible rfl)
      try simp only [Act.put, List.setIfInBounds_toArray, List.set_cons_zero, List.set_cons_succ]
      refine wpD_takeP 1 (v := ?_) rfl (by kernel_rfl) (by kernel_rfl) (by kernel_rfl) (by kernel_rfl) (fun _ _ _ h => h) (fun _ => hHeld) (yields_any (by rfl) ?_) ?_; rotate_left; (· intro wS; go_simp; try with_reducible rfl)
      try simp only [Act.put, List.setIfInBounds_toArray, List.set_cons_zero, List.set_cons_succ]
      refine wpD_takeP 2 (v := ?_) rfl (by kernel_rfl) (by kernel_rfl) (by kernel_rfl) (by kernel_rfl) (fun _ _ _ h => h) (fun _ => hHeld) (yields_any (by rfl) ?_) ?_; rotate_left; (· intro wS; go_simp; try with_reducible rfl)
      try simp only [Act.put, List.setIfInBounds_toArray, List.set_cons_zero, List.set_cons_succ]
      refine wpD_takeP 3 (v := ?_) rfl (by kernel_rfl) (by kernel_rfl) (by kernel_rfl) (by kernel_rfl) (fun _ _ _ h => h) (fun _ => hHeld) (yields_any (by rfl) ?_) ?_; rotate_left; (· intro wS; go_simp; try with_reducible rfl)
      try simp only [Act.put, List.setIfInBounds_toArray, List.set_cons_zero, List.set_cons_succ]
      refine wpD_takeP 4 (v := ?_) rfl (by kernel_rfl) (by kernel_rfl) (by kernel_rfl) (by kernel_rfl) (fun _ _ _ h => h) (fun _ => hHeld) (yields_any (by rfl) ?_) ?_; rotate_left; (· intro wS; go_simp; try with_reducible rfl)
      try simp only [Act.put, List.setIfInBounds_toArray, List.set_cons_zero, List.set_cons_succ]
      refine wpD_takeP 5 (v := ?_) rfl (by kernel_rfl) (by kernel_rfl) (by kernel_rfl) (by kernel_rfl) (fun _ _ _ h => h) (fun _ => hHeld) (yields_any (by rfl) ?_) ?_; rotate_left; (· intro wS; go_simp; try with_reducible rfl)
      try simp only [Act.put, List.setIfInBounds_toArray, List.set_cons_zero, List.set_cons_succ]
      refine wpD_take 6 (v := ?_) rfl (by kernel_rfl) (by kernel_rfl) (by kernel_rfl) (by kernel_rfl) (by kernel_rfl) (fun _ _ _ h => h) hHeld (yields_if (by rfl) ?_) ?_; rotate_left; (· intro wS hS; (try dsimp only at hS); go_simp; try with_reducible rfl)
      try simp only [Act.put, List.setIfInBounds_toArray, List.set_cons_zero, List.set_cons_succ]
      refine wpD_takeP 7 (v := ?_) rfl (by kernel_rfl) (by kernel_rfl) (by kernel_rfl) (by kernel_rfl) (fun _ _ _ h => h) (fun _ => hHeld) (yields_any (by rfl) ?_) ?_; rotate_left; (· intro wS; go_simp; try with_reducible rfl)
      try simp only [Act.put, List.setIfInBounds_toArray, List.set_cons_zero, List.set_cons_succ]
      refine wpD_takeP 8 (v := ?_) rfl (by kernel_rfl) (by kernel_rfl) (by kernel_rfl) (by kernel_rfl) (fun _ _ _ h => h) (fun _ => hHeld) (yields_any (by rfl) ?_) ?_; rotate_left; (· intro wS; go_simp; try with_reducible rfl)
      try simp only [Act.put, List.setIfInBounds_toArray, List.set_cons_zero, List.set_cons_succ]
      refine wpD_takeP 9 (v := ?_) rfl (by kernel_rfl) (by kernel_rfl) (by kernel_rfl) (by kernel_rfl) (fun _ _ _ h => h) (fun _ => hHeld) (yields_any (by rfl) ?_) ?_; rotate_left; (· intro wS; go_simp; try with_reducible rfl)
      try simp only [Act.put, List.setIfInBounds_toArray, List.set_cons_zero, List.set_cons_succ]
      refine wpD_takeP 10 (v := ?_) rfl (by kernel_rfl) (by kernel_rfl) (by kernel_rfl) (by kernel_rfl) (fun _ _ _ h => h) (fun _ => hHeld) (yields_any (by rfl) ?_) ?_; rotate_left; (· intro wS; go_simp; try with_reducible rfl)
      try simp only [Act.put, List.setIfInBounds_toArray, List.set_cons_zero, List.set_cons_succ]
      refine wpD_take 11 (v := ?_) rfl (by kernel_rfl) (by kernel_rfl) (by kernel_rfl) (by kernel_rfl) (by kernel_rfl) (fun _ _ _ h => h) hHeld (yields_if (by rfl) ?_) ?_; rotate_left; (· intro wS hS; (try dsimp only at hS); go_simp; try with_reducible rfl)
      try simp only [Act.put, List.setIfInBounds_toArray, List.set_cons_zero, List.set_cons_succ]
      refine wpD_ready [12] (by kernel_rfl) (by simp) ?_
      refine AllD.cons 12 rfl (fun K' hK => ?_) AllD.nil
      go_simp
      refine (hdr _).mono ?_
      rintro e w2 ⟨rfl, hk2⟩
      have hkx : Kp none_ wA w2 := Kp.then_ (by with_reducible repeat (first | exact hkc | apply Kp.drew | apply Kp.drewN | apply Kp.alloc)) hk2
      have hsx : Blk w2 gS 28 #[.int .i64 L1, .int .i64 H1] := Blk.kp (S := none_) (by with_reducible repeat (first | exact hbS | apply Blk.drew | apply Blk.drewN | apply Blk.alloc)) hk2 (fun h => h)
      have hgx := hbA.kp hkx (fun h => h)
      have e0 := hgx.cell 0
      have e1 := hgx.cell 4
      have d0 := hsx.cell 0
      have d1 := hsx.cell 1
      have f0 := hsx.frozen 0
      have f1 := hsx.frozen 1
      simp [ClkD.cells] at d0 d1 e0 e1
      clear hgx
      go_wp2_with fail
      refine hold_step hK ?_ (fun hHeld => ?_)
      · try dsimp only
        first | go_keep | (refine ⟨?_, ?_, ?_, ?_⟩ <;> assumption)
      clear hK K'
      try simp only [Act.put, List.setIfInBounds_toArray, List.set_cons_zero, List.set_cons_succ]
      refine wpD_takeP 13 (v := ?_) rfl (by kernel_rfl) (by kernel_rfl) (by kernel_rfl) (by kernel_rfl) (fun _ _ _ h => h) (fun _ => hHeld) (yields_any (by rfl) ?_) ?_; rotate_left; (· intro wS; go_simp; try with_reducible rfl)
      try simp only [Act.put, List.setIfInBounds_toArray, List.set_cons_zero, List.set_cons_succ]
      refine wpD_takeP 14 (v := ?_) rfl (by kernel_rfl) (by kernel_rfl) (by kernel_rfl) (by kernel_rfl) (fun _ _ _ h => h) (fun _ => hHeld) (yields_any (by rfl) ?_) ?_; rotate_left; (· intro wS; go_simp; try with_reducible rfl)
      try simp only [Act.put, List.setIfInBounds_toArray, List.set_cons_zero, List.set_cons_succ]
      refine wpD_takeP 15 (v := ?_) rfl (by kernel_rfl) (by kernel_rfl) (by kernel_rfl) (by kernel_rfl) (fun _ _ _ h => h) (fun _ => hHeld) (yields_any (by rfl) ?_) ?_; rotate_left; (· intro wS; go_simp; try with_reducible rfl)
      try simp only [Act.put, List.setIfInBounds_toArray, List.set_cons_zero, List.set_cons_succ]
      refine wpD_ready [16] (by kernel_rfl) (by simp) ?_
      refine AllD.cons 16 rfl (fun K' hK => ?_) AllD.nil
      go_simp
      (try go_wp2_with fail)
      refine late_step hK (by kernel_rfl) ?_
      clear hK K'
      try simp only [Act.put, List.setIfInBounds_toArray, List.set_cons_zero, List.set_cons_succ]
      refine wpD_done (by kernel_rfl) ?_ _
      refine np_intro ?_
      go_wp2_with fail
      go_meet
      exact ⟨(hkx.setCell (p := ⟨gS, 0, none⟩) _ (.inr hgS)).setCell (p := ⟨gS, 1, none⟩) _ (.inr hgS), (hsx.set 0 _).set 1 _⟩
    case rest =>
      obtain ⟨hkd, hbd⟩ := hcut
      have hbe := hbA.kp hkd (fun h => h)
      clear r0 r4 s0 s1
      have s0 := hbd.cell 0
      have s1 := hbd.cell 1
      have s2 := hbd.frozen 0
      have s3 := hbd.frozen 1
      have r6 := hbe.cell 6
      simp [ClkD.cells] at s0 s1 r6
      go_upto_region 11 with fail
      refine wp_region_D [8] (fun w' => w'.cell? ⟨g, 6, none⟩ = some (.int .i64 floor) ∧ w'.cell? ⟨gS, 0, none⟩ = some (.int .i64 L2)) (by kernel_rfl) ?_ (fun hHeld => ?_)
      · try dsimp only
        first | go_keep | (refine ⟨?_, ?_⟩ <;> assumption)
      refine wpD_takeP 0 (v := ?_) rfl (by kernel_rfl) (by kernel_rfl) (by kernel_rfl) (by kernel_rfl) (fun _ _ _ h => h) (fun _ => hHeld) (yields_any (by rfl) ?_) ?_; rotate_left; (· intro wS; go_simp; try with_reducible rfl)
      try simp only [Act.put, List.setIfInBounds_toArray, List.set_cons_zero, List.set_cons_succ]
      refine wpD_take 1 (v := ?_) rfl (by kernel_rfl) (by kernel_rfl) (by kernel_rfl) (by kernel_rfl) (by kernel_rfl) (fun _ _ _ h => h) hHeld (yields_if (by rfl) ?_) ?_; rotate_left; (· intro wS hS; (try dsimp only at hS); go_simp; try with_reducible rfl)
      try simp only [Act.put, List.setIfInBounds_toArray, List.set_cons_zero, List.set_cons_succ]
      refine wpD_takeP 2 (v := ?_) rfl (by kernel_rfl) (by kernel_rfl) (by kernel_rfl) (by kernel_rfl) (fun _ _ _ h => h) (fun _ => hHeld) (yields_any (by rfl) ?_) ?_; rotate_left; (· intro wS; go_simp; try with_reducible rfl)
      try simp only [Act.put, List.setIfInBounds_toArray, List.set_cons_zero, List.set_cons_succ]
      refine wpD_takeP 3 (v := ?_) rfl (by kernel_rfl) (by kernel_rfl) (by kernel_rfl) (by kernel_rfl) (fun _ _ _ h => h) (fun _ => hHeld) (yields_any (by rfl) ?_) ?_; rotate_left; (· intro wS; go_simp; try with_reducible rfl)
      try simp only [Act.put, List.setIfInBounds_toArray, List.set_cons_zero, List.set_cons_succ]
      refine wpD_takeP 4 (v := ?_) rfl (by kernel_rfl) (by kernel_rfl) (by kernel_rfl) (by kernel_rfl) (fun _ _ _ h => h) (fun _ => hHeld) (yields_any (by rfl) ?_) ?_; rotate_left; (· intro wS; go_simp; try with_reducible rfl)
      try simp only [Act.put, List.setIfInBounds_toArray, List.set_cons_zero, List.set_cons_succ]
      refine wpD_take 5 (v := ?_) rfl (by kernel_rfl) (by kernel_rfl) (by kernel_rfl) (by kernel_rfl) (by kernel_rfl) (fun _ _ _ h => h) hHeld (yields_if (by rfl) ?_) ?_; rotate_left; (· intro wS hS; (try dsimp only at hS); go_simp; try with_reducible rfl)
      try simp only [Act.put, List.setIfInBounds_toArray, List.set_cons_zero, List.set_cons_succ]
      refine wpD_ready [6] (by kernel_rfl) (by simp) ?_
      refine AllD.cons 6 rfl (fun K' hK => ?_) AllD.nil
      go_simp
      (try go_wp2_with fail)
      refine hold_step hK ?_ (fun hHeld => ?_)
      · try dsimp only
        first | go_keep | (refine ⟨?_, ?_⟩ <;> assumption)
      clear hK K'
      try simp only [Act.put, List.setIfInBounds_toArray, List.set_cons_zero, List.set_cons_succ]
      refine wpD_takeP 7 (v := ?_) rfl (by kernel_rfl) (by kernel_rfl) (by kernel_rfl) (by kernel_rfl) (fun _ _ _ h => h) (fun _ => hHeld) (yields_any (by rfl) ?_) ?_; rotate_left; (· intro wS; go_simp; try with_reducible rfl)
      try simp only [Act.put, List.setIfInBounds_toArray, List.set_cons_zero, List.set_cons_succ]
      refine wpD_ready [8] (by kernel_rfl) (by simp) ?_
      refine AllD.cons 8 rfl (fun K' hK => ?_) AllD.nil
      go_simp
      (try go_wp2_with fail)
      refine late_step hK (by kernel_rfl) ?_
      clear hK K'
      try simp only [Act.put, List.setIfInBounds_toArray, List.set_cons_zero, List.set_cons_succ]
      refine wpD_done (by kernel_rfl) ?_ _
      refine np_intro ?_
      go_wp2_with fail
      rw [← hlo, ← hhi]
      clear hlo hhi r6 s0 s1 s2 s3
      have hbf : Blk ((wc.setCell ⟨gS, 0, none⟩ (.int .i64 LO)).setCell ⟨gS, 1, none⟩ (.int .i64 HI)) gS 28 #[.int .i64 LO, .int .i64 HI] := (hbd.set 0 _).set 1 _
      have hkf : Kp none_ wA ((wc.setCell ⟨gS, 0, none⟩ (.int .i64 LO)).setCell ⟨gS, 1, none⟩ (.int .i64 HI)) := (hkd.setCell (p := ⟨gS, 0, none⟩) _ (.inr hgS)).setCell (p := ⟨gS, 1, none⟩) _ (.inr hgS)
      generalize (wc.setCell ⟨gS, 0, none⟩ (.int .i64 LO)).setCell ⟨gS, 1, none⟩ (.int .i64 HI) = wB at *
      have hbg := hbA.kp hkf (fun h => h)
      have hrB := hrA.kp hkf (fun h => h)
      clear hbd hkd hbe
      have s0 := hbf.cell 0
      have s1 := hbf.cell 1
      have g5 := hbg.cell 5
      have g6 := hbg.frozen 5
      have g8 := hbg.cell 6
      have g7 := hbg.frozen 6
      have q0 := hrB.cell 0
      have q1 := hrB.cell 1
      have q2 := hrB.frozen 0
      have q3 := hrB.frozen 1
      have nW : w.heap.size ≠ g := Nat.ne_of_gt zb
      have nW' : gS ≠ w.heap.size := by have := ZA.out; omega
      have nW'' : g ≠ w.heap.size := Nat.ne_of_lt zb
      have nS' : g ≠ gS := Ne.symm nS
      simp [ClkD.cells] at s0 s1 g5 g8 q0 q1
      refine wp_region_D [10] (fun w' => w'.cell? ⟨gS, 0, none⟩ = some (.int .i64 LO)) (by kernel_rfl) ?_ (fun hHeld => ?_)
      · try dsimp only
        (first | go_keep | assumption | (trace_state; fail))
      refine wpD_takeP 0 (v := ?_) rfl (by kernel_rfl) (by kernel_rfl) (by kernel_rfl) (by kernel_rfl) (fun _ _ _ h => h) (fun _ => hHeld) (yields_any (by rfl) ?_) ?_; rotate_left; (· intro wS; go_simp; try with_reducible rfl)
      try simp only [Act.put, List.setIfInBounds_toArray, List.set_cons_zero, List.set_cons_succ]
      refine wpD_takeP 1 (v := ?_) rfl (by kernel_rfl) (by kernel_rfl) (by kernel_rfl) (by kernel_rfl) (fun _ _ _ h => h) (fun _ => hHeld) (yields_any (by rfl) ?_) ?_; rotate_left; (· intro wS; go_simp; try with_reducible rfl)
      try simp only [Act.put, List.setIfInBounds_toArray, List.set_cons_zero, List.set_cons_succ]
      refine wpD_takeP 2 (v := ?_) rfl (by kernel_rfl) (by kernel_rfl) (by kernel_rfl) (by kernel_rfl) (fun _ _ _ h => h) (fun _ => hHeld) (yields_any (by rfl) ?_) ?_; rotate_left; (· intro wS; go_simp; try with_reducible rfl)
      try simp only [Act.put, List.setIfInBounds_toArray, List.set_cons_zero, List.set_cons_succ]
      refine wpD_takeP 3 (v := ?_) rfl (by kernel_rfl) (by kernel_rfl) (by kernel_rfl) (by kernel_rfl) (fun _ _ _ h => h) (fun _ => hHeld) (yields_any (by rfl) ?_) ?_; rotate_left; (· intro wS; go_simp; try with_reducible rfl)
      try simp only [Act.put, List.setIfInBounds_toArray, List.set_cons_zero, List.set_cons_succ]
      refine wpD_take 4 (v := ?_) rfl (by kernel_rfl) (by kernel_rfl) (by kernel_rfl) (by kernel_rfl) (by kernel_rfl) (fun _ _ _ h => h) hHeld (yields_if (by rfl) ?_) ?_; rotate_left; (· intro wS hS; (try dsimp only at hS); go_simp; try with_reducible rfl)
      try simp only [Act.put, List.setIfInBounds_toArray, List.set_cons_zero, List.set_cons_succ]
      refine wpD_takeP 5 (v := ?_) rfl (by kernel_rfl) (by kernel_rfl) (by kernel_rfl) (by kernel_rfl) (fun _ _ _ h => h) (fun _ => hHeld) (yields_any (by rfl) ?_) ?_; rotate_left; (· intro wS; go_simp; try with_reducible rfl)
      try simp only [Act.put, List.setIfInBounds_toArray, List.set_cons_zero, List.set_cons_succ]
      refine wpD_takeP 6 (v := ?_) rfl (by kernel_rfl) (by kernel_rfl) (by kernel_rfl) (by kernel_rfl) (fun _ _ _ h => h) (fun _ => hHeld) (yields_any (by rfl) ?_) ?_; rotate_left; (· intro wS; go_simp; try with_reducible rfl)
      try simp only [Act.put, List.setIfInBounds_toArray, List.set_cons_zero, List.set_cons_succ]
      refine wpD_ready [7] (by kernel_rfl) (by simp) ?_
      refine AllD.cons 7 rfl (fun K' hK => ?_) AllD.nil
      go_simp
      (try go_wp2_with fail)
      refine hold_step hK ?_ (fun hHeld => ?_)
      · try dsimp only
        (first | go_keep | assumption | (trace_state; fail))
      clear hK K'
      try simp only [Act.put, List.setIfInBounds_toArray, List.set_cons_zero, List.set_cons_succ]
      refine wpD_takeP 8 (v := ?_) rfl (by kernel_rfl) (by kernel_rfl) (by kernel_rfl) (by kernel_rfl) (fun _ _ _ h => h) (fun _ => hHeld) (yields_any (by rfl) ?_) ?_; rotate_left; (· intro wS; go_simp; try with_reducible rfl)
      try simp only [Act.put, List.setIfInBounds_toArray, List.set_cons_zero, List.set_cons_succ]
      refine wpD_takeP 9 (v := ?_) rfl (by kernel_rfl) (by kernel_rfl) (by kernel_rfl) (by kernel_rfl) (fun _ _ _ h => h) (fun _ => hHeld) (yields_any (by rfl) ?_) ?_; rotate_left; (· intro wS; go_simp; try with_reducible rfl)
      try simp only [Act.put, List.setIfInBounds_toArray, List.set_cons_zero, List.set_cons_succ]
      refine wpD_ready [10] (by kernel_rfl) (by simp) ?_
      refine AllD.cons 10 rfl (fun K' hK => ?_) AllD.nil
      go_simp
      (try go_wp2_with fail)
      refine late_step hK (by kernel_rfl) ?_
      clear hK K'
      try simp only [Act.put, List.setIfInBounds_toArray, List.set_cons_zero, List.set_cons_succ]
      refine wpD_done (by kernel_rfl) ?_ _
      refine np_intro ?_
      go_wp2_with fail
      have hz := ((((hrB.far (p := ⟨g, 5, none⟩) nW (.int .i64 h)).far (p := ⟨g, 6, none⟩) nW (.int .i64 LO)).set 0 (.int .i64 LO)).set 1 (.int .i64 HI))
      have e0 := hz.cell 0
      have e1 := hz.cell 1
      simp at e0 e1
      have hkw : Kp (only g) w wB := (hkA.then_ hkf).mono (fun _ _ h => h.elim)
      exact bodyPost_ret (v := .tuple #[.agg #[.int .i64 LO, .int .i64 HI], .int .i64 0]) (by simp [results, Try.results24, go_sem, e0, e1]) rfl
        ⟨rfl, ((((((hkw.setCell (p := ⟨g, 5, none⟩) _ (.inl rfl)).setCell (p := ⟨g, 6, none⟩) _ (.inl rfl)).setCell (p := ⟨w.heap.size, 0, none⟩) _ (.inr (Nat.le_refl _))).setCell (p := ⟨w.heap.size, 1, none⟩) _ (.inr (Nat.le_refl _)))).drew).drew,
          (((hbg.set 5 _).set 6 _).far (p := ⟨w.heap.size, 0, none⟩) nW'' _).far (p := ⟨w.heap.size, 1, none⟩) nW'' _⟩
end Go.Proofs.Ytjgbandmjamcaaa

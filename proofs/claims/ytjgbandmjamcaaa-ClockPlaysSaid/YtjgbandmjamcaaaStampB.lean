/- Contracts: the reference's Keep and Next: the list of stamps grows. -/
import Derived.Test.YtjgbandmjamcaaaStampA
import Derived.Test.YtjgbandmjamcaaaAppSl
namespace Go.Proofs.Ytjgbandmjamcaaa
open Go.RowKit

theorem owns_ge {w : World} {base e size n : Nat} {v : Value} {xs : List Value} (h : w.ownsRow base e size v n xs) (k : Nat) (hk : v.ownBlock = some k) : base ≤ k ∧ k < w.heap.size := by
  rcases h.2 with ⟨rfl, _⟩ | ⟨g, cap, cur, rfl, hb, hg, _⟩
  · simp [Value.ownBlock] at hk
  · have : g = k := by simpa [Value.ownBlock] using hk
    subst this
    exact ⟨hb, (Array.getElem?_eq_some_iff.1 hg).1⟩
theorem ints_snoc (l : List Int) (t : Int) : ints l ++ [Value.int .i64 t] = ints (l ++ [t]) := by simp [ints]
theorem ints_append (l m : List Int) : ints l ++ ints m = ints (l ++ m) := by simp [ints]
theorem Il.of_own {ok : Nat → Prop} {w : World} {base n : Nat} {v : Value} {xs : List Int} (h : w.ownsRow base 2 1 v n (ints xs)) (hn : n = xs.length) (hok : ∀ k, base ≤ k → ok k) : Il ok w v xs := by
  subst hn
  exact Sl.of_own h hok
def keepRef (l : List Int) (t : Int) : List Int := if isStamp t = true then l ++ [t] else l
/-- An answer: a list in memory, and a number. -/
def keepOut (ok : Nat → Prop) (l : List Int) (t : Int) (w : World) (e : Ending) (w' : World) : Prop :=
  ∃ v, e = .returned (.tuple #[v, .int .i64 (keepErr t)]) ∧ Kp none_ w w' ∧ Il (fun k => ok k ∨ w.heap.size ≤ k) w' v (keepRef l t)
set_option maxHeartbeats 1000000 in
theorem ref_Keep (ok : Nat → Prop) (v : Value) (l : List Int) (t : Int) (w : World) (hv : Il ok w v l) (hl : l.length ≤ 1000000) :
    Calls Try.prog 14 #[v, .int .i64 t] w (keepOut ok l t w) := by
  obtain ⟨i0, hi, hz0, hz1, hz2⟩ := info_parts info_int64
  by_cases hs : isStamp t = true
  · have he : keepErr t = 0 := by simp [keepErr, hs]
    have hr : keepRef l t = l ++ [t] := by simp [keepRef, hs]
    unfold keepOut
    rw [he, hr]
    go_enter Try.func14, Try.ntmps14
    go_wp2_with fail
    refine (ref_IsStamp _ _).mono ?_; rintro e w1 ⟨rfl, rfl⟩
    rw [hs]
    have ho := owns_empty w w.heap.size 2 1 (Nat.le_refl _)
    go_wp2_with (at_builtin; refine wpList_append_sl _ rfl (.tmp 10) (.tmp 11) 26 rfl w.heap.size 2 i0 (.int .i64 0) 1 8 Try.underlying26 hi hz0 hz1 hz2 rfl (by decide) _ 0 [] rfl ho ok v l.length (ints l) rfl ?ca ?cb ?cc ?cd ?ce ?_)
    case ca => exact hv.alloc _
    case cb => exact ints_one l
    case cc => unfold maxLen; omega
    case cd => omega
    case ce => simp
    intro v1 w2 ho1 hg1 hat1
    have ho2 := owns_alloc ho1 (.cells #[.int .i64 t] 2)
    have hb2 : Blk (w2.alloc (.cells #[.int .i64 t] 2)) w2.heap.size 2 #[.int .i64 t] := Blk.new _ _ _
    have hk2 : Kp none_ w w2 := ((Kp.refl none_ w).alloc _).grown hg1 (fun k hk => .inr (by cases hk; simp))
    go_wp2_with (at_builtin; refine wpList_append_sl _ rfl (.tmp 12) (.tmp 14) 26 rfl w.heap.size 2 i0 (.int .i64 0) 1 8 Try.underlying26 hi hz0 hz1 hz2 rfl (by decide) v1 l.length (ints l) rfl ho2 (fun k => w.heap.size ≤ k) (.slice (some ⟨w2.heap.size, 0, none⟩) 1 1) 1 [.int .i64 t] rfl ?ca ?cb ?cc ?cd ?ce ?_)
    case ca => exact Sl.one hb2 hk2.size
    case cb => simp [Value.oneCell']
    case cc => unfold maxLen; omega
    case cd => omega
    case ce => have := hk2.size; simp; omega
    intro v3 w3 ho3 hg3 hat3
    go_wp2_with fail
    go_ret2
    have hk3 : Kp none_ w w3 := (hk2.alloc _).grown hg3 (fun k hk => .inr (owns_ge ho2 k hk).1)
    rw [ints_snoc] at ho3
    exact ⟨v3, rfl, hk3, Il.of_own ho3 (by simp) (fun _ h => .inr h)⟩
  · have he : keepErr t = 100 := by simp [keepErr, hs]
    have hr : keepRef l t = l := by simp [keepRef, hs]
    have hs' : isStamp t = false := by simpa using hs
    unfold keepOut
    rw [he, hr]
    go_enter Try.func14, Try.ntmps14
    go_wp2_with fail
    refine (ref_IsStamp _ _).mono ?_; rintro e w1 ⟨rfl, rfl⟩
    rw [hs']
    go_wp2_with fail
    go_ret2
    exact ⟨v, rfl, Kp.refl _ _, hv.mono (fun _ _ h => .inl h)⟩

def nextRef (l : List Int) (lo hi : Int) (xs : List Int) : List Int × Int × Int :=
  if isSpan lo hi = true then
    if mxl 0 (l ++ [hi] ++ xs) > 1125899906842623 then (l, 0, 101)
    else (l ++ [mxl 0 (l ++ [hi] ++ xs) + 1], mxl 0 (l ++ [hi] ++ xs) + 1, 0)
  else (l, 0, 100)
def nextRefOut (ok : Nat → Prop) (r : List Int × Int × Int) (w : World) (e : Ending) (w' : World) : Prop :=
  ∃ v, e = .returned (.tuple #[v, .int .i64 r.2.1, .int .i64 r.2.2]) ∧ Kp none_ w w' ∧ Il (fun k => ok k ∨ w.heap.size ≤ k) w' v r.1
set_option maxRecDepth 100000 in
set_option maxHeartbeats 1000000 in
theorem ref_Next (ok : Nat → Prop) (v y : Value) (l xs : List Int) (lo hi : Int) (w : World) (hv : Il ok w v l) (hy : Il ok w y xs) (hl : l.length ≤ 1000000) (hx : xs.length ≤ 1000000) :
    Calls Try.prog 13 #[v, .agg #[.int .i64 lo, .int .i64 hi], y] w (nextRefOut ok (nextRef l lo hi xs) w) := by
  obtain ⟨i0, hi0, hz0, hz1, hz2⟩ := info_parts info_int64
  by_cases hs : isSpan lo hi = true
  case neg =>
    have hr : nextRef l lo hi xs = (l, 0, 100) := by simp [nextRef, hs]
    have hs' : isSpan lo hi = false := by simpa using hs
    rw [hr]
    go_enter Try.func13, Try.ntmps13
    go_wp2_with fail
    refine (ref_Is _ _ _).mono ?_; rintro e w1 ⟨rfl, hk1⟩
    rw [hs']
    go_wp2_with fail
    go_ret3
    exact ⟨v, rfl, ((Kp.refl _ _).alloc _).then_ hk1, ((hv.alloc _).then_ hk1).mono (fun _ _ h => .inl h)⟩
  obtain ⟨r, hr⟩ : ∃ r, r = nextRef l lo hi xs := ⟨_, rfl⟩
  rw [← hr]
  obtain ⟨zs, hzs⟩ : ∃ zs, zs = l ++ [hi] ++ xs := ⟨_, rfl⟩
  have HR : Hid (r = if mxl 0 zs > 1125899906842623 then (l, 0, 101) else (l ++ [mxl 0 zs + 1], mxl 0 zs + 1, 0)) := Lib.hid (by rw [hr, nextRef, if_pos hs, hzs])
  have HZ := Lib.hid hzs
  clear hr hzs
  go_enter Try.func13, Try.ntmps13
  go_wp2_with fail
  refine (ref_Is _ _ _).mono ?_; rintro e w1 ⟨rfl, hk1⟩
  rw [hs]
  have hv1 := (hv.alloc _).then_ hk1
  have hy1 := (hy.alloc _).then_ hk1
  have hp1 := (Blk.new w 28 #[.int .i64 lo, .int .i64 hi]).kp hk1 (fun h => h)
  have hk0 := ((Kp.refl none_ w).alloc _).then_ hk1
  have c1 := hp1.cell 1
  simp at c1
  have z1 := hp1.lt
  have hy0 := hy
  clear hk1 hv hy
  go_upto_region 3 with fail
  go_cut [9] (fun s9 wx => Kp none_ w1 wx ∧ wx.ownsRow w1.heap.size 2 1 s9 (l.length + 1 + xs.length) (ints (l ++ [hi] ++ xs)))
  case first =>
    go_region_held3 (fun w' => w'.cell? ⟨w.heap.size, 1, none⟩ = some (.int .i64 hi)) (first | go_keep | assumption) (first
      | ((with_reducible refine gate_step 18 rfl ?_); refine step_append_sl _ (by rfl) (.tmp 16) (.tmp 17) 26 (by rfl) w1.heap.size 2 i0 (.int .i64 0) 1 8 Try.underlying26 hi0 hz0 hz1 hz2 rfl (by decide) (.slice (some ⟨_, 0, none⟩) 0 0) 0 [] rfl ?_ ok v l.length (ints l) (by rfl) ?_ ?_ ?_ ?_ ?_ ?_; (· ((with_reducible repeat (first | apply owns_drew | refine owns_empty' _ _ _ _ _ ?_ ?_ | apply owns_alloc)); (all_goals first | (simp; done) | (have := hk0.size; omega)))); (· exact hv1.then_ (by with_reducible repeat (first | exact Kp.refl _ _ | apply Kp.drew | apply Kp.drewN | apply Kp.alloc))); (· exact ints_one l); (· unfold maxLen; omega); (· omega); (· (first | (simp; done) | (simp; omega) | omega)); intro v2 w2 ho2 hg2 hat2; rw [Nat.zero_add, List.nil_append] at ho2; have hk2 : Kp none_ w1 w2 := Kp.grown (by with_reducible repeat (first | exact Kp.refl _ _ | apply Kp.drew | apply Kp.drewN | apply Kp.alloc)) hg2 (fun k hk => .inr (by cases hk; simp)); have hy2 := hy1.then_ hk2; have c2 := (hp1.kp hk2 (fun h => h)).cell 1; simp at c2; (first | (refine (fun (hq : Blk w2 w1.heap.size 2 #[.int .i64 hi]) => ?_) ?_; rotate_left; (· refine Blk.grown_ ?_ hg2 ?_; (focus ((with_reducible repeat (first | refine Blk.new' _ _ _ _ ?_ | apply Blk.drew | apply Blk.alloc)); simp; done)); simp [Value.ownBlock])) | (refine (fun (hq : Blk w2 (w1.heap.size + 1) 2 #[.int .i64 hi]) => ?_) ?_; rotate_left; (· refine Blk.grown_ ?_ hg2 ?_; (focus ((with_reducible repeat (first | refine Blk.new' _ _ _ _ ?_ | apply Blk.drew | apply Blk.alloc)); simp; done)); simp [Value.ownBlock])) | skip))
      | ((with_reducible refine gate_step 22 rfl ?_); refine step_append_sl _ (by rfl) (.tmp 18) (.tmp 21) 26 (by rfl) w1.heap.size 2 i0 (.int .i64 0) 1 8 Try.underlying26 hi0 hz0 hz1 hz2 rfl (by decide) v2 l.length (ints l) (by rfl) ?_ (fun _ => True) (.slice (some ⟨_, 0, none⟩) 1 1) 1 [.int .i64 hi] rfl ?_ ?_ ?_ ?_ ?_ ?_; (· (with_reducible repeat (first | exact ho2 | apply owns_drew | apply owns_alloc))); (· refine Sl.one (t := 2) ?_ trivial; first | ((with_reducible repeat (first | refine Blk.new' _ _ _ _ ?_ | apply Blk.drew | apply Blk.alloc)); simp; done) | (with_reducible repeat (first | exact hq | apply Blk.drew | apply Blk.alloc))); (· simp [Value.oneCell']); (· unfold maxLen; omega); (· omega); (· have := hk2.size; (first | (simp; done) | (simp; omega) | omega)); intro v3 w3 ho3 hg3 hat3; rw [ints_snoc] at ho3; have hk3 : Kp none_ w1 w3 := Kp.grown (hk2.then_ (by with_reducible repeat (first | exact Kp.refl _ _ | apply Kp.drew | apply Kp.drewN | apply Kp.alloc))) hg3 (fun k hk => .inr (owns_ge ho2 k hk).1); have hy3 := hy1.then_ hk3; have c3 := (hp1.kp hk3 (fun h => h)).cell 1; simp at c3)
      | ((with_reducible refine gate_step 24 rfl ?_); refine step_append_sl _ (by rfl) (.tmp 22) (.tmp 23) 26 (by rfl) w1.heap.size 2 i0 (.int .i64 0) 1 8 Try.underlying26 hi0 hz0 hz1 hz2 rfl (by decide) v3 (l.length + 1) (ints (l ++ [hi])) (by rfl) ?_ ok y xs.length (ints xs) (by rfl) ?_ ?_ ?_ ?_ ?_ ?_; (· exact ho3); (· exact hy3); (· exact ints_one xs); (· unfold maxLen; omega); (· omega); (· exact hk3.size); intro v4 w4 ho4 hg4 hat4; rw [ints_append] at ho4; have hk4 : Kp none_ w1 w4 := hk3.grown hg4 (fun k hk => .inr (owns_ge ho3 k hk).1); have c4 := (hp1.kp hk4 (fun h => h)).cell 1; simp at c4))
    all_goals (go_wp2_with fail; go_meet; exact ⟨hk4, ho4⟩)
  case rest =>
    obtain ⟨hkc, hoc⟩ := hcut
    have hyc := hy1.then_ hkc
    have hs9 : Il (fun _ => True) wc u9 (l ++ [hi] ++ xs) := Il.of_own hoc (by simp; omega) (fun _ _ => trivial)
    rw [← HZ.out] at hs9
    have hge : 0 ≤ mxl 0 zs := mxl_ge _ _
    clear hoc
    obtain ⟨A9, c9, rfl, hc9, hm9⟩ := hs9.form
    unfold maxLen at hm9
    have hvc := hv1.then_ hkc
    have hkw := hk0.then_ hkc
    clear c1 z1 hp1 hk0 hkc hv1 hy1 hyc hy0
    go_wp2_with fail
    go_loop [10, 11] (fun t i => ∃ j : Nat, j ≤ zs.length ∧ i = .int .i64 j ∧ t = .int .i64 (mxl 0 (zs.take j))) (fun _ i => zs.length - (intOf i).toNat)
    case atStart => exact ⟨0, by omega, rfl, rfl⟩
    case round =>
      obtain ⟨j, hj, rfl, rfl⟩ := hrel
      by_cases hlt : j < zs.length
      · obtain ⟨ba, off, rfl, _, _, hcl⟩ := hs9.cells (by omega)
        have hcj := hcl j _ (ints_get hlt)
        clear hcl
        have hm := Lib.hid (mxl_take 0 zs j hlt)
        have hg : Hid (zs[j]?.getD 0 = zs[j]) := Lib.hid (by simp [hlt])
        go_wp2
        all_goals go_round
        case rel =>
          have h : mxl 0 (zs.take j) < zs[j] := by assumption
          exact ⟨j + 1, hlt, by go_num, by rw [hm.out, hg.out, Int.max_eq_right (by omega)]⟩
        case rel =>
          have h : zs[j] ≤ mxl 0 (zs.take j) := by assumption
          exact ⟨j + 1, hlt, by go_num, by rw [hm.out, hg.out, Int.max_eq_left (by omega)]⟩
        all_goals (simp [intOf]; omega)
      · obtain rfl : j = zs.length := by omega
        rw [List.take_length]
        by_cases hf : mxl 0 zs > 1125899906842623
        · go_wp2_with fail
          go_ret3
          rw [HR.out, if_pos (by omega)]
          exact ⟨v, rfl, hkw, hvc.mono (fun _ _ h => .inl h)⟩
        · have ho := owns_empty wc w.heap.size 2 1 hkw.size
          go_wp2_with ((with_reducible refine gate_list 46 rfl ?_); refine wpList_append_sl _ rfl (.tmp 44) (.tmp 45) 26 rfl w.heap.size 2 i0 (.int .i64 0) 1 8 Try.underlying26 hi0 hz0 hz1 hz2 rfl (by decide) _ 0 [] rfl ho ok v l.length (ints l) rfl ?_ ?_ ?_ ?_ ?_ ?_)
          · exact hvc.alloc _
          · exact ints_one l
          · unfold maxLen; omega
          · omega
          · have := hkw.size; (first | (simp; done) | (simp; omega) | omega)
          intro v1 w2 ho1 hg1 hat1
          have hk2 : Kp none_ w w2 := (hkw.alloc _).grown hg1 (fun k hk => .inr (by cases hk; exact hkw.size))
          have ho2 := owns_alloc ho1 (.cells #[.int .i64 (mxl 0 zs + 1)] 2)
          have hb2 : Blk (w2.alloc (.cells #[.int .i64 (mxl 0 zs + 1)] 2)) w2.heap.size 2 #[.int .i64 (mxl 0 zs + 1)] := Blk.new _ _ _
          go_wp2_with ((with_reducible refine gate_list 50 rfl ?_); refine wpList_append_sl _ rfl (.tmp 46) (.tmp 49) 26 rfl w.heap.size 2 i0 (.int .i64 0) 1 8 Try.underlying26 hi0 hz0 hz1 hz2 rfl (by decide) v1 l.length (ints l) rfl ho2 (fun k => w.heap.size ≤ k) (.slice (some ⟨w2.heap.size, 0, none⟩) 1 1) 1 [.int .i64 (mxl 0 zs + 1)] rfl ?_ ?_ ?_ ?_ ?_ ?_)
          · exact Sl.one hb2 hk2.size
          · simp [Value.oneCell']
          · unfold maxLen; omega
          · omega
          · have := hk2.size; (first | (simp; done) | (simp; omega) | omega)
          intro v3 w3 ho3 hg3 hat3
          go_wp2_with fail
          go_ret3
          have hk3 : Kp none_ w w3 := (hk2.alloc _).grown hg3 (fun k hk => .inr (owns_ge ho2 k hk).1)
          rw [ints_snoc] at ho3
          rw [HR.out, if_neg (by omega)]
          exact ⟨v3, rfl, hk3, Il.of_own ho3 (by simp) (fun _ h => .inr h)⟩
end Go.Proofs.Ytjgbandmjamcaaa

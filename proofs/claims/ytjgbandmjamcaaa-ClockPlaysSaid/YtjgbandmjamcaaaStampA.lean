/- Contracts: times, spans, the stamp source, and the reference's list of stamps. -/
import Derived.Test.YtjgbandmjamcaaaBase
namespace Go.Proofs.Ytjgbandmjamcaaa
open Go.RowKit

def isTime (n : Int) : Bool := decide (0 ≤ n ∧ n ≤ 1125899906842624)
theorem isTime_iff {n : Int} : isTime n = true ↔ 0 ≤ n ∧ n ≤ 1125899906842624 := by simp [isTime]
def isSpan (lo hi : Int) : Bool := isTime lo && isTime hi && decide (lo ≤ hi)
theorem isSpan_iff {lo hi : Int} : isSpan lo hi = true ↔ 0 ≤ lo ∧ lo ≤ hi ∧ hi ≤ 1125899906842624 := by
  simp [isSpan, isTime]
  omega
/-- The greatest of a list and a number. -/
def mxl (t : Int) (l : List Int) : Int := l.foldl max t
theorem mxl_snoc (t : Int) (l : List Int) (x : Int) : mxl t (l ++ [x]) = max (mxl t l) x := by simp [mxl, List.foldl_append]
theorem mxl_append (t : Int) (l m : List Int) : mxl t (l ++ m) = mxl (mxl t l) m := by simp [mxl, List.foldl_append]
theorem mxl_take (t : Int) (l : List Int) (k : Nat) (h : k < l.length) : mxl t (l.take (k + 1)) = max (mxl t (l.take k)) (l[k]?.getD 0) := by
  rw [List.take_succ_eq_append_getElem h, mxl_snoc, List.getElem?_eq_getElem h]
  rfl
theorem mxl_ge (t : Int) (l : List Int) : t ≤ mxl t l := by
  induction l generalizing t with
  | nil => exact Int.le_refl _
  | cons x l ih => exact Int.le_trans (Int.le_max_left t x) (ih (max t x))

set_option maxHeartbeats 400000 in
theorem span_in (a : Int) (w : World) :
    Calls Try.prog 56 #[.int .i64 a] w fun e w' => e = .returned (.bool (isTime a)) ∧ w = w' := by
  go_enter Try.func56, Try.ntmps56
  go_wp2
  all_goals go_ret
  · have h : 0 ≤ a := by assumption
    refine ⟨?_, rfl⟩
    simp [isTime, h]
  · have h : a < 0 := by assumption
    refine ⟨?_, rfl⟩
    have : ¬ 0 ≤ a := by omega
    simp [isTime, this]

def checkSpan (lo hi : Int) : Int := if isSpan lo hi = true then 0 else 50
set_option maxHeartbeats 400000 in
theorem span_Check (lo hi : Int) (w : World) :
    Calls Try.prog 42 #[.agg #[.int .i64 lo, .int .i64 hi]] w (Ret (.int .i64 (checkSpan lo hi)) (Kp none_ w)) := by
  go_enter Try.func42, Try.ntmps42
  go_wp2_with (go_at_call 56; refine (span_in _ _).mono ?_; rintro e w' ⟨rfl, rfl⟩)
  all_goals go_ret
  all_goals (refine ⟨?_, (Kp.refl _ _).alloc _⟩; simp [checkSpan, isSpan, *])

/-- The closure that raises a captured number: block c holds it. -/
theorem raise_ (c : Nat) (top n : Int) (w : World) (hc : Blk w c 2 #[.int .i64 top]) :
    Calls Try.prog 43 #[.int .i64 n, .pointer (some ⟨c, 0, none⟩)] w (Ret (.tuple #[]) fun w' => w' = w.setCell ⟨c, 0, none⟩ (.int .i64 (max top n))) := by
  have h0 := hc.cell 0
  have hf := hc.frozen 0
  simp at h0
  go_enter Try.func43, Try.ntmps43
  go_wp2
  · have h : top < n := by assumption
    rw [Int.max_eq_right (by omega)]
    go_end0
    exact ⟨rfl, rfl⟩
  · have h : n ≤ top := by assumption
    rw [Int.max_eq_left (by omega)]
    go_end0
    exact ⟨rfl, rfl⟩
/-- What Next answers: nothing new where it fails. -/
def nextOut (b : Nat) (last lo hi : Int) (xs : List Int) (w : World) (e : Ending) (w' : World) : Prop :=
  if isSpan lo hi = true then
    if mxl (max last hi) xs ≥ 1125899906842624 then e = .returned (.tuple #[.int .i64 0, .int .i64 101]) ∧ Kp none_ w w'
    else e = .returned (.tuple #[.int .i64 (mxl (max last hi) xs + 1), .int .i64 0]) ∧ Kp (only b) w w' ∧ Blk w' b 102 #[.int .i64 (mxl (max last hi) xs + 1)]
  else e = .returned (.tuple #[.int .i64 0, .int .i64 100]) ∧ Kp none_ w w'
set_option maxHeartbeats 1000000 in
theorem stamp_Next (b : Nat) (last lo hi : Int) (av : Value) (xs : List Int) (w : World) (hb : Blk w b 102 #[.int .i64 last]) (ha : Il (fun k => k ≠ b) w av xs) :
    Calls Try.prog 12 #[.pointer (some ⟨b, 0, none⟩), .agg #[.int .i64 lo, .int .i64 hi], av] w (nextOut b last lo hi xs w) := by
  obtain ⟨A, cap, rfl, hcap, hmax⟩ := ha.form
  by_cases hs : isSpan lo hi = true
  case neg =>
    have hs' : checkSpan lo hi = 50 := by simp [checkSpan, hs]
    go_enter Try.func12, Try.ntmps12
    go_wp2_with fail
    refine (span_Check _ _ _).mono ?_; rintro e w1 ⟨rfl, hk1⟩
    rw [hs']
    go_wp2_with fail
    go_ret2
    rw [nextOut, if_neg hs]
    exact ⟨rfl, ((Kp.refl _ _).alloc _).then_ hk1⟩
  have hs' : checkSpan lo hi = 0 := by simp [checkSpan, hs]
  go_enter Try.func12, Try.ntmps12
  go_wp2_with fail
  refine (span_Check _ _ _).mono ?_; rintro e w1 ⟨rfl, hk1⟩
  rw [hs']
  have hb1 := (hb.alloc _).kp hk1 (fun h => h)
  have ha1 := (ha.alloc _).then_ hk1
  have hp1 := (Blk.new w 28 #[.int .i64 lo, .int .i64 hi]).kp hk1 (fun h => h)
  have hk0 := ((Kp.refl none_ w).alloc _).then_ hk1
  have c0 := hb1.cell 0
  have c1 := hp1.cell 0
  have c2 := hp1.cell 1
  have z1 := hb1.lt
  have z2 := hp1.lt
  simp at c0 c1 c2
  go_wp2_with fail
  refine (raise_ _ _ _ _ (Blk.new _ _ _)).mono ?_; rintro e w2 ⟨rfl, rfl⟩
  go_wp2_with fail
  have ha2 := ha1.alloc (.cells #[.int .i64 (max last hi)] 2)
  go_loopg [26] xs.length (fun gk i wr => ∃ j : Nat, j ≤ xs.length ∧ gk = xs.length - j ∧ i = .int .i64 j ∧ wr = w1.alloc (.cells #[.int .i64 (mxl (max last hi) (xs.take j))] 2))
  case atStart => exact ⟨0, by omega, rfl, rfl, rfl⟩
  case round =>
    obtain ⟨j, hj, rfl, rfl, rfl⟩ := hrel
    unfold maxLen at hmax
    by_cases hlt : j < xs.length
    · obtain ⟨ba, off, rfl, hne, hbl, hcl⟩ := (ha1.alloc (.cells #[.int .i64 (mxl (max last hi) (xs.take j))] 2)).cells (by omega)
      have hcj := hcl j _ (ints_get hlt)
      go_wp2_with fail
      refine (raise_ _ _ _ _ (Blk.new _ _ _)).mono ?_; rintro e w2 ⟨rfl, rfl⟩
      go_wp2_with fail
      go_roundg (xs.length - (j + 1))
      case measure => omega
      case rel => exact ⟨j + 1, hlt, rfl, by go_num, by rw [mxl_take _ _ _ hlt]; simp [hlt]⟩
    · obtain rfl : j = xs.length := by omega
      rw [List.take_length]
      have hge : 0 ≤ mxl (max last hi) xs := Int.le_trans (by have := isSpan_iff.1 hs; omega) (mxl_ge _ _)
      by_cases hf : mxl (max last hi) xs ≥ 1125899906842624
      · go_wp2_with fail
        go_ret2
        rw [nextOut, if_pos hs, if_pos hf]
        exact ⟨rfl, hk0.alloc _⟩
      · have hfr := hb1.frozen 0
        go_wp2_with fail
        go_ret2
        rw [nextOut, if_pos hs, if_neg (by omega)]
        exact ⟨rfl, ((hk0.mono (T := only b) (fun _ _ h => h.elim)).setCell (p := ⟨b, 0, none⟩) _ (.inl rfl)).alloc _, (hb1.set 0 _).alloc _⟩

set_option maxHeartbeats 400000 in
theorem stamp_New (w : World) : Calls Try.prog 10 #[] w (Ret (.pointer (some ⟨w.heap.size, 0, none⟩)) fun w' => w' = w.alloc (.cells #[.int .i64 0] 102)) := by
  go_enter Try.func10, Try.ntmps10
  go_wp2
  go_ret
  exact ⟨rfl, rfl⟩
def isStamp (t : Int) : Bool := decide (1 ≤ t ∧ t ≤ 1125899906842624)
theorem isStamp_iff {n : Int} : isStamp n = true ↔ 1 ≤ n ∧ n ≤ 1125899906842624 := by simp [isStamp]
set_option maxHeartbeats 400000 in
theorem stamp_is (a : Int) (w : World) :
    Calls Try.prog 46 #[.int .i64 a] w fun e w' => e = .returned (.bool (isStamp a)) ∧ w = w' := by
  go_enter Try.func46, Try.ntmps46
  go_wp2
  all_goals go_ret
  · have h : 1 ≤ a := by assumption
    refine ⟨?_, rfl⟩
    simp [isStamp, h]
  · have h : a < 1 := by assumption
    refine ⟨?_, rfl⟩
    have : ¬ 1 ≤ a := by omega
    simp [isStamp, this]
def keepErr (t : Int) : Int := if isStamp t = true then 0 else 100
def keepVal (last t : Int) : Int := if isStamp t = true then max last t else last
set_option maxHeartbeats 400000 in
theorem stamp_Keep (b : Nat) (last t : Int) (w : World) (hb : Blk w b 102 #[.int .i64 last]) :
    Calls Try.prog 15 #[.pointer (some ⟨b, 0, none⟩), .int .i64 t] w (Ret (.int .i64 (keepErr t)) fun w' => Kp (only b) w w' ∧ Blk w' b 102 #[.int .i64 (keepVal last t)]) := by
  have c0 := hb.cell 0
  have f0 := hb.frozen 0
  simp at c0
  by_cases hs : isStamp t = true
  · have he : keepErr t = 0 := by simp [keepErr, hs]
    have hv : keepVal last t = max last t := by simp [keepVal, hs]
    rw [he, hv]
    go_enter Try.func15, Try.ntmps15
    go_wp2_with fail
    refine (stamp_is _ _).mono ?_; rintro e w1 ⟨rfl, rfl⟩
    rw [hs]
    go_wp2_with fail
    all_goals go_ret
    · have h : last < t := by assumption
      rw [Int.max_eq_right (by omega)]
      exact ⟨rfl, (Kp.refl _ _).setCell (p := ⟨b, 0, none⟩) _ (.inl rfl), hb.set 0 _⟩
    · have h : t ≤ last := by assumption
      rw [Int.max_eq_left (by omega)]
      exact ⟨rfl, (Kp.refl _ _).setCell (p := ⟨b, 0, none⟩) _ (.inl rfl), hb.set 0 _⟩
  · have he : keepErr t = 100 := by simp [keepErr, hs]
    have hv : keepVal last t = last := by simp [keepVal, hs]
    rw [he, hv]
    go_enter Try.func15, Try.ntmps15
    go_wp2_with fail
    refine (stamp_is _ _).mono ?_; rintro e w1 ⟨rfl, rfl⟩
    have hs' : isStamp t = false := by simpa using hs
    rw [hs']
    go_wp2_with fail
    go_ret
    exact ⟨rfl, Kp.refl _ _, hb⟩
set_option maxHeartbeats 400000 in
theorem stamp_Last (b : Nat) (last : Int) (w : World) (hb : Blk w b 102 #[.int .i64 last]) :
    Calls Try.prog 16 #[.pointer (some ⟨b, 0, none⟩)] w (Ret (.int .i64 last) fun w' => w = w') := by
  have c0 := hb.cell 0
  simp at c0
  go_enter Try.func16, Try.ntmps16
  go_wp2
  go_ret
  exact ⟨rfl, rfl⟩

/-! the reference -/
set_option maxHeartbeats 400000 in
theorem ref_Time (a : Int) (w : World) :
    Calls Try.prog 49 #[.int .i64 a] w fun e w' => e = .returned (.bool (isTime a)) ∧ w = w' := by
  go_enter Try.func49, Try.ntmps49
  go_wp2
  all_goals go_ret
  · have h : 0 ≤ a := by assumption
    refine ⟨?_, rfl⟩
    simp [isTime, h]
  · have h : a < 0 := by assumption
    refine ⟨?_, rfl⟩
    have : ¬ 0 ≤ a := by omega
    simp [isTime, this]
set_option maxHeartbeats 400000 in
theorem ref_Is (lo hi : Int) (w : World) :
    Calls Try.prog 44 #[.agg #[.int .i64 lo, .int .i64 hi]] w (Ret (.bool (isSpan lo hi)) (Kp none_ w)) := by
  go_enter Try.func44, Try.ntmps44
  go_wp2_with (go_at_call 49; refine (ref_Time _ _).mono ?_; rintro e w' ⟨rfl, rfl⟩)
  all_goals go_ret
  all_goals (refine ⟨?_, (Kp.refl _ _).alloc _⟩; simp [isSpan, *])
set_option maxHeartbeats 400000 in
theorem ref_IsStamp (a : Int) (w : World) :
    Calls Try.prog 45 #[.int .i64 a] w fun e w' => e = .returned (.bool (isStamp a)) ∧ w = w' := by
  go_enter Try.func45, Try.ntmps45
  go_wp2_with (go_at_call 49; refine (ref_Time _ _).mono ?_; rintro e w' ⟨rfl, rfl⟩)
  all_goals go_ret
  · have h : 0 < a := by assumption
    refine ⟨?_, rfl⟩
    have h1 : 1 ≤ a := by omega
    have h0 : 0 ≤ a := by omega
    simp [isStamp, isTime, h1, h0]
  · have h : a ≤ 0 := by assumption
    refine ⟨?_, rfl⟩
    have : ¬ 1 ≤ a := by omega
    simp [isStamp, this]
set_option maxHeartbeats 400000 in
theorem ref_Last (v : Value) (xs : List Int) (ok : Nat → Prop) (w : World) (hv : Il ok w v xs) :
    Calls Try.prog 17 #[v] w (Ret (.int .i64 (mxl 0 xs)) fun w' => w = w') := by
  obtain ⟨A, cap, rfl, hcap, hmax⟩ := hv.form
  unfold maxLen at hmax
  go_enter Try.func17, Try.ntmps17
  go_wp2
  go_loop [3, 4] (fun t i => ∃ j : Nat, j ≤ xs.length ∧ i = .int .i64 j ∧ t = .int .i64 (mxl 0 (xs.take j))) (fun _ i => xs.length - (intOf i).toNat)
  case atStart => exact ⟨0, by omega, rfl, rfl⟩
  case round =>
    obtain ⟨j, hj, rfl, rfl⟩ := hrel
    by_cases hlt : j < xs.length
    · obtain ⟨ba, off, rfl, _, _, hcl⟩ := hv.cells (by omega)
      have hcj := hcl j _ (ints_get hlt)
      clear hcl
      have hm := Lib.hid (mxl_take 0 xs j hlt)
      have hg : Hid (xs[j]?.getD 0 = xs[j]) := Lib.hid (by simp [hlt])
      go_wp2
      all_goals go_round
      case rel => 
        have h : mxl 0 (xs.take j) < xs[j] := by assumption
        exact ⟨j + 1, hlt, by go_num, by rw [hm.out, hg.out, Int.max_eq_right (by omega)]⟩
      case rel => 
        have h : xs[j] ≤ mxl 0 (xs.take j) := by assumption
        exact ⟨j + 1, hlt, by go_num, by rw [hm.out, hg.out, Int.max_eq_left (by omega)]⟩
      all_goals (simp [intOf]; omega)
    · obtain rfl : j = xs.length := by omega
      rw [List.take_length]
      go_wp2
      go_ret
      exact ⟨rfl, rfl⟩
end Go.Proofs.Ytjgbandmjamcaaa

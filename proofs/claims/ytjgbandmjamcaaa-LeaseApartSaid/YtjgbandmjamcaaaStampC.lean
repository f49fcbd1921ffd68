/- The chapter's example of stamps: 'awake' answers true; and Wait. -/
import Derived.Test.YtjgbandmjamcaaaStampB
namespace Go.Proofs.Ytjgbandmjamcaaa
open Go.RowKit

theorem nextOut_ok {b : Nat} {last lo hi : Int} {xs : List Int} {w : World} {e : Ending} {w' : World} (h : nextOut b last lo hi xs w e w') (n : Int) (hs : isSpan lo hi = true) (hm : mxl (max last hi) xs = n) (hn : n < 1125899906842624) :
    e = .returned (.tuple #[.int .i64 (n + 1), .int .i64 0]) ∧ Kp (only b) w w' ∧ Blk w' b 102 #[.int .i64 (n + 1)] := by
  unfold nextOut at h
  rw [if_pos hs, hm, if_neg (by omega)] at h
  exact h
def waitVal (t lo hi : Int) : Int := if isStamp t = true ∧ isSpan lo hi = true then max (t + 1 - lo) 0 else 0
def waitErr (t lo hi : Int) : Int := if isStamp t = true ∧ isSpan lo hi = true then 0 else 100
set_option maxHeartbeats 1000000 in
theorem stamp_Wait (t lo hi : Int) (w : World) :
    Calls Try.prog 41 #[.int .i64 t, .agg #[.int .i64 lo, .int .i64 hi]] w (Ret (.tuple #[.int .i64 (waitVal t lo hi), .int .i64 (waitErr t lo hi)]) (Kp none_ w)) := by
  by_cases h1 : isStamp t = true
  · by_cases h2 : isSpan lo hi = true
    · have hv : waitVal t lo hi = max (t + 1 - lo) 0 := by simp [waitVal, h1, h2]
      have he : waitErr t lo hi = 0 := by simp [waitErr, h1, h2]
      have hc : checkSpan lo hi = 0 := by simp [checkSpan, h2]
      have b1 := isStamp_iff.1 h1
      have b2 := isSpan_iff.1 h2
      obtain ⟨b11, b12⟩ := b1
      obtain ⟨b21, b22, b23⟩ := b2
      rw [hv, he]
      go_enter Try.func41, Try.ntmps41
      go_wp2_with fail
      refine (stamp_is _ _).mono ?_; rintro e w1 ⟨rfl, rfl⟩
      rw [h1]
      go_wp2_with fail
      refine (span_Check _ _ _).mono ?_; rintro e w1 ⟨rfl, hk1⟩
      rw [hc]
      have hp1 := (Blk.new w 28 #[.int .i64 lo, .int .i64 hi]).kp hk1 (fun h => h)
      have c0 := hp1.cell 0
      simp at c0
      have hk0 := ((Kp.refl none_ w).alloc _).then_ hk1
      go_wp2_with fail
      all_goals go_ret2
      · have h : t + 1 - lo < 0 := by assumption
        rw [Int.max_eq_right (by omega)]
        exact ⟨rfl, hk0⟩
      · have h : 0 ≤ t + 1 - lo := by assumption
        rw [Int.max_eq_left (by omega)]
        exact ⟨rfl, hk0⟩
    · have hv : waitVal t lo hi = 0 := by simp [waitVal, h2]
      have he : waitErr t lo hi = 100 := by simp [waitErr, h2]
      have hc : checkSpan lo hi = 50 := by simp [checkSpan, h2]
      rw [hv, he]
      go_enter Try.func41, Try.ntmps41
      go_wp2_with fail
      refine (stamp_is _ _).mono ?_; rintro e w1 ⟨rfl, rfl⟩
      rw [h1]
      go_wp2_with fail
      refine (span_Check _ _ _).mono ?_; rintro e w1 ⟨rfl, hk1⟩
      rw [hc]
      go_wp2_with fail
      go_ret2
      exact ⟨rfl, ((Kp.refl none_ w).alloc _).then_ hk1⟩
  · have hv : waitVal t lo hi = 0 := by simp [waitVal, h1]
    have he : waitErr t lo hi = 100 := by simp [waitErr, h1]
    have h1' : isStamp t = false := by simpa using h1
    rw [hv, he]
    go_enter Try.func41, Try.ntmps41
    go_wp2_with fail
    refine (stamp_is _ _).mono ?_; rintro e w1 ⟨rfl, rfl⟩
    rw [h1']
    go_wp2_with fail
    go_ret2
    exact ⟨rfl, (Kp.refl none_ w).alloc _⟩

set_option maxRecDepth 100000 in
set_option maxHeartbeats 2000000 in
theorem stamp_awake (w : World) : Calls Try.prog 11 #[] w (Ret (.bool true) (Kp none_ w)) := by
  go_enter Try.func11, Try.ntmps11
  go_wp2_with fail
  refine (stamp_New _).mono ?_; rintro e w1 ⟨rfl, rfl⟩
  have hb := Blk.new w 102 #[.int .i64 0]
  have hk : Kp none_ w (w.alloc (.cells #[.int .i64 0] 102)) := (Kp.refl none_ w).alloc _
  go_wp2_with fail
  refine (stamp_Next w.heap.size 0 5 9 (.slice none 0 0) [] _ hb (Sl.nil _ _ _)).mono ?_
  intro e w2 h
  obtain ⟨rfl, hk2, hb2⟩ := nextOut_ok h 9 (by decide) (by decide) (by decide)
  clear h
  have hkw2 : Kp none_ w w2 := hk.trans hk2 (fun i hi h => by cases h; omega)
  go_wp2_with fail
  refine (stamp_Next w.heap.size 10 1 2 _ [20, 3] _ (hb2.alloc _) (Sl.of_blk (Blk.new _ 2 #[.int .i64 20, .int .i64 3]) (fun h => by have := hb2.lt; omega) 2 1 rfl (by unfold maxLen; omega))).mono ?_
  intro e w3 h
  obtain ⟨rfl, hk3, hb3⟩ := nextOut_ok h 20 (by decide) (by decide) (by decide)
  clear h
  have hkw3 : Kp none_ w w3 := (hkw2.alloc _).trans hk3 (fun i hi h => by cases h; omega)
  go_wp2_with fail
  refine (stamp_Keep w.heap.size 21 30 _ hb3).mono ?_; rintro e w4 ⟨rfl, hk4, hb4⟩
  rw [show keepVal 21 30 = 30 from by decide] at hb4
  rw [show keepErr 30 = 0 from by decide]
  have hkw4 : Kp none_ w w4 := hkw3.trans hk4 (fun i hi h => by cases h; omega)
  go_wp2_with fail
  refine (stamp_Keep w.heap.size 30 25 _ hb4).mono ?_; rintro e w5 ⟨rfl, hk5, hb5⟩
  rw [show keepVal 30 25 = 30 from by decide] at hb5
  rw [show keepErr 25 = 0 from by decide]
  have hkw5 : Kp none_ w w5 := hkw4.trans hk5 (fun i hi h => by cases h; omega)
  go_wp2_with fail
  refine (stamp_Wait 10 5 9 _).mono ?_; rintro e w6 ⟨rfl, hk6⟩
  rw [show waitVal 10 5 9 = 6 from by decide, show waitErr 10 5 9 = 0 from by decide]
  have hb6 := hb5.kp hk6 (fun h => h)
  have hkw6 : Kp none_ w w6 := hkw5.then_ hk6
  go_wp2_with fail
  refine (stamp_Last w.heap.size 30 _ hb6).mono ?_; rintro e w7 ⟨rfl, rfl⟩
  go_wp2_with fail
  go_ret
  exact ⟨rfl, hkw6⟩
/-- What a source answers, and its last stamp then. -/
def nextP (last lo hi : Int) (xs : List Int) : Int × Int × Int :=
  if isSpan lo hi = true then
    if mxl (max last hi) xs ≥ 1125899906842624 then (0, 101, last) else (mxl (max last hi) xs + 1, 0, mxl (max last hi) xs + 1)
  else (0, 100, last)
theorem stamp_Next' (b : Nat) (last lo hi : Int) (av : Value) (xs : List Int) (w : World) (hb : Blk w b 102 #[.int .i64 last]) (ha : Il (fun k => k ≠ b) w av xs) :
    Calls Try.prog 12 #[.pointer (some ⟨b, 0, none⟩), .agg #[.int .i64 lo, .int .i64 hi], av] w (Ret (.tuple #[.int .i64 (nextP last lo hi xs).1, .int .i64 (nextP last lo hi xs).2.1]) fun w' => Kp (only b) w w' ∧ Blk w' b 102 #[.int .i64 (nextP last lo hi xs).2.2]) := by
  refine (stamp_Next b last lo hi av xs w hb ha).mono fun e w' h => ?_
  unfold nextOut at h
  unfold nextP
  by_cases hs : isSpan lo hi = true
  · rw [if_pos hs] at h ⊢
    by_cases hm : mxl (max last hi) xs ≥ 1125899906842624
    · rw [if_pos hm] at h ⊢
      exact ⟨h.1, h.2.mono (fun _ _ h => h.elim), hb.kp h.2 (fun h => h)⟩
    · rw [if_neg hm] at h ⊢
      exact h
  · rw [if_neg hs] at h ⊢
    exact ⟨h.1, h.2.mono (fun _ _ h => h.elim), hb.kp h.2 (fun h => h)⟩
theorem mxl_max (a : Int) (l : List Int) (h : 0 ≤ a) : mxl a l = max a (mxl 0 l) := by
  have key : ∀ (l : List Int) (a b : Int), mxl (max a b) l = max a (mxl b l) := by
    intro l
    induction l with
    | nil => intro a b; rfl
    | cons x l ih =>
      intro a b
      show mxl (max (max a b) x) l = max a (mxl (max b x) l)
      rw [Int.max_assoc, ih]
  have := key l a 0
  rwa [Int.max_eq_left h] at this
/-- The source and the document's list answer alike, and stay alike. -/
theorem next_alike (ms : List Int) (lo hi : Int) (xs : List Int) : nextP (mxl 0 ms) lo hi xs = ((nextRef ms lo hi xs).2.1, (nextRef ms lo hi xs).2.2, mxl 0 (nextRef ms lo hi xs).1) := by
  have h1 : mxl 0 (ms ++ [hi] ++ xs) = mxl (max (mxl 0 ms) hi) xs := by rw [mxl_append, mxl_snoc]
  unfold nextP nextRef
  rw [h1]
  by_cases hs : isSpan lo hi = true
  · rw [if_pos hs, if_pos hs]
    by_cases hm : mxl (max (mxl 0 ms) hi) xs ≥ 1125899906842624
    · rw [if_pos hm, if_pos (by omega)]
    · rw [if_neg hm, if_neg (by omega)]
      have h2 := mxl_ge (max (mxl 0 ms) hi) xs
      have h3 : mxl 0 ms ≤ max (mxl 0 ms) hi := Int.le_max_left _ _
      rw [mxl_snoc, Int.max_eq_right (a := mxl 0 ms) (b := mxl (max (mxl 0 ms) hi) xs + 1) (by omega)]
  · rw [if_neg hs, if_neg hs]
theorem nextRef_len (ms : List Int) (lo hi : Int) (xs : List Int) : (nextRef ms lo hi xs).1.length ≤ ms.length + 1 := by
  unfold nextRef
  repeat' split
  all_goals simp
theorem keep_alike (ms : List Int) (t : Int) : keepVal (mxl 0 ms) t = mxl 0 (keepRef ms t) := by
  unfold keepVal keepRef
  split
  · rw [mxl_snoc]
  · rfl
theorem keepRef_len (ms : List Int) (t : Int) : (keepRef ms t).length ≤ ms.length + 1 := by
  unfold keepRef
  split <;> simp

end Go.Proofs.Ytjgbandmjamcaaa

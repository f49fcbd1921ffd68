/- Insertion sort of few int64 in place: slices.Sort at most 12 long. -/
import Derived.Test.YtjgbandmjamcaaaAppSl
import Derived.BigRegion
import Derived.Test.YtjgbandmjamcaaaShelf
namespace Go.Proofs.Ytjgbandmjamcaaa
open Go.RowKit

set_option maxHeartbeats 400000 in
theorem cmp_isNaN (a : Int) (w : World) : Calls Try.prog 98 #[.int .i64 a] w fun e w' => e = .returned (.bool false) ∧ w = w' := by
  go_enter Try.func98, Try.ntmps98
  go_wp2
  go_ret
  exact ⟨by simp, rfl⟩
def lessB (a b : Int) : Bool := decide (a < b)
set_option maxHeartbeats 400000 in
theorem cmp_Less (a b : Int) (w : World) : Calls Try.prog 84 #[.int .i64 a, .int .i64 b] w fun e w' => e = .returned (.bool (lessB a b)) ∧ w' = w := by
  go_enter Try.func84, Try.ntmps84
  go_wp2_with (go_at_call 98; refine (cmp_isNaN _ _).mono ?_; rintro e w' ⟨rfl, rfl⟩)
  go_ret
  exact ⟨rfl, rfl⟩

/-- s with x set in at place j, and the rest. -/
def setIn (s : List Int) (x : Int) (rest : List Int) (j : Nat) : List Int := s.take j ++ x :: (s.drop j ++ rest)
theorem setIn_len (s : List Int) (x : Int) (rest : List Int) (j : Nat) (hj : j ≤ s.length) : (setIn s x rest j).length = s.length + 1 + rest.length := by
  simp [setIn]
  omega
theorem setIn_at (s : List Int) (x : Int) (rest : List Int) (j : Nat) (hj : j ≤ s.length) : (setIn s x rest j)[j]? = some x := by
  unfold setIn
  rw [List.getElem?_append_right (by simp; omega)]
  simp [Nat.min_eq_left hj]
theorem setIn_ahead (s : List Int) (x : Int) (rest : List Int) (j : Nat) (h0 : 0 < j) (hj : j ≤ s.length) : (setIn s x rest j)[j - 1]? = s[j - 1]? := by
  unfold setIn
  rw [List.getElem?_append_left (by simp; omega), List.getElem?_take, if_pos (by omega)]
theorem setIn_swap (s : List Int) (x y : Int) (rest : List Int) (j : Nat) (h0 : 0 < j) (hj : j ≤ s.length) (hy : s[j - 1]? = some y) : ((setIn s x rest j).set j y).set (j - 1) x = setIn s x rest (j - 1) := by
  obtain ⟨k, rfl⟩ : ∃ k, j = k + 1 := ⟨j - 1, by omega⟩
  simp only [Nat.add_sub_cancel] at hy ⊢
  have hk : k < s.length := by omega
  have hyk : s[k] = y := by rw [List.getElem?_eq_getElem hk] at hy; exact Option.some.inj hy
  have e1 : s.take (k + 1) = s.take k ++ [y] := by rw [List.take_succ_eq_append_getElem hk, hyk]
  have e2 : s.drop k = y :: s.drop (k + 1) := by rw [List.drop_eq_getElem_cons hk, hyk]
  have l1 : (s.take k).length = k := by simp; omega
  unfold setIn
  rw [e1, e2, List.append_assoc, List.singleton_append]
  generalize s.take k = A at *
  subst l1
  rw [List.set_append_right _ _ (by omega), Nat.add_sub_cancel_left]
  show (A ++ y :: y :: (s.drop (A.length + 1) ++ rest)).set A.length x = _
  rw [List.set_append_right _ _ (by omega), Nat.sub_self]
  rfl
def Sorted (l : List Int) : Prop := l.Pairwise (· ≤ ·)
theorem setIn_sorted (s : List Int) (x : Int) (j : Nat) (hs : Sorted s) (hlt : ∀ y ∈ s.drop j, x ≤ y) (hge : ∀ y ∈ s.take j, y ≤ x) : Sorted (setIn s x [] j) := by
  unfold setIn Sorted
  rw [List.append_nil, List.pairwise_append]
  refine ⟨List.Pairwise.sublist (List.take_sublist _ _) hs, List.pairwise_cons.2 ⟨hlt, List.Pairwise.sublist (List.drop_sublist _ _) hs⟩, fun a ha b hb => ?_⟩
  rcases List.mem_cons.1 hb with rfl | hb
  · exact hge a ha
  · have h := hs
    unfold Sorted at h
    rw [← List.take_append_drop j s, List.pairwise_append] at h
    exact h.2.2 a ha b hb
theorem setIn_perm (s : List Int) (x : Int) (j : Nat) : (setIn s x [] j).Perm (s ++ [x]) := by
  unfold setIn
  rw [List.append_nil]
  refine List.perm_middle.trans ?_
  rw [List.take_append_drop]
  exact (List.perm_append_singleton x s).symm

/-- What the sort leaves: the first n in order, the rest as it was. -/
def SortOf (xs ys : List Int) (n : Nat) : Prop := ∃ s, ys = s ++ xs.drop n ∧ s.length = n ∧ Sorted s ∧ s.Perm (xs.take n)

theorem ints_set (l : List Int) (i : Nat) (v : Int) : (ints l).toArray.setIfInBounds i (.int .i64 v) = (ints (l.set i v)).toArray := by
  simp [ints, List.map_set]
theorem setIn_rest (s : List Int) (x : Int) (rest : List Int) (j : Nat) : setIn s x rest j = setIn s x [] j ++ rest := by simp [setIn]
theorem sorted_take_le {s : List Int} {m : Nat} {x y : Int} (hs : Sorted s) (hy : s[m]? = some y) (hxy : y ≤ x) : ∀ z ∈ s.take (m + 1), z ≤ x := by
  intro z hz
  have hm : m < s.length := (List.getElem?_eq_some_iff.1 hy).1
  have hym : s[m] = y := by rw [List.getElem?_eq_getElem hm] at hy; exact Option.some.inj hy
  rw [List.take_succ_eq_append_getElem hm, hym] at hz
  rcases List.mem_append.1 hz with h | h
  · have hp := hs
    unfold Sorted at hp
    rw [← List.take_append_drop m s, List.pairwise_append] at hp
    have := hp.2.2 z h y (by rw [List.drop_eq_getElem_cons hm, hym]; exact List.mem_cons_self)
    omega
  · have : z = y := by simpa using h
    omega
/-- What the round of the outer loop hands on. -/
theorem sort_round {xs s rest : List Int} {x : Int} {k j : Nat} (hxr : xs.drop k = x :: rest) (hk : k < xs.length) (hsl : s.length = k) (hss : Sorted s) (hsp : s.Perm (xs.take k)) (hlt : ∀ y ∈ s.drop j, x ≤ y) (hge : ∀ y ∈ s.take j, y ≤ x) (hj : j ≤ k) :
    (setIn s x [] j).length = k + 1 ∧ Sorted (setIn s x [] j) ∧ (setIn s x [] j).Perm (xs.take (k + 1)) ∧ setIn s x rest j = setIn s x [] j ++ xs.drop (k + 1) := by
  have h1 : xs[k] = x ∧ xs.drop (k + 1) = rest := by
    rw [List.drop_eq_getElem_cons hk] at hxr
    injection hxr with h1 h2
    exact ⟨h1, h2⟩
  refine ⟨by rw [setIn_len _ _ _ _ (by omega)]; simp; omega, setIn_sorted s x j hss hlt hge, ?_, by rw [setIn_rest, h1.2]⟩
  rw [List.take_succ_eq_append_getElem hk, h1.1]
  exact (setIn_perm s x j).trans (List.Perm.append_right [x] hsp)
set_option maxRecDepth 100000 in
set_option maxHeartbeats 2000000 in
theorem insertion_sort (g T cap n : Nat) (xs : List Int) (w : World) (hb : Blk w g T (ints xs).toArray) (hn : n ≤ xs.length) (hcap : n ≤ cap) (hx : xs.length ≤ 1000) :
    Calls Try.prog 78 #[.slice (some ⟨g, 0, none⟩) n cap, .int .i64 0, .int .i64 n] w (RetEx fun v w' => v = .tuple #[] ∧ ∃ ys, SortOf xs ys n ∧ Kp (only g) w w' ∧ Blk w' g T (ints ys).toArray) := by
  go_enter Try.func78, Try.ntmps78
  go_wp2_with fail
  by_cases h0 : n = 0
  · subst h0
    refine wp_loop_rounds 1 ?_; rw [rounds_succ]
    go_wp2_with fail
    go_end0
    exact ⟨_, rfl, rfl, xs, ⟨[], rfl, rfl, List.Pairwise.nil, List.Perm.refl _⟩, Kp.refl _ _, hb⟩
  go_loopg [6] (n - 1) (fun gk i wr => ∃ (k : Nat) (s : List Int), 1 ≤ k ∧ k ≤ n ∧ gk = n - k ∧ i = .int .i64 k ∧ s.length = k ∧ Sorted s ∧ s.Perm (xs.take k) ∧ Kp (only g) w wr ∧ Blk wr g T (ints (s ++ xs.drop k)).toArray)
  case atStart =>
    have h1 : (xs.take 1).length = 1 := by simp; omega
    refine ⟨1, xs.take 1, by omega, by omega, rfl, rfl, h1, ?_, List.Perm.refl _, Kp.refl _ _, ?_⟩
    · obtain ⟨a, ha⟩ := List.length_eq_one_iff.1 h1
      rw [ha]
      exact List.pairwise_singleton _ _
    · rw [List.take_append_drop]
      exact hb
  case round =>
    clear hb
    obtain ⟨k, s, hk1, hkn, rfl, rfl, hsl, hss, hsp, hkp, hb⟩ := hrel
    by_cases hlt : k < n
    case neg =>
      obtain rfl : k = n := by omega
      go_wp2_with fail
      go_end0
      exact ⟨_, rfl, rfl, _, ⟨s, rfl, hsl, hss, hsp⟩, hkp, hb⟩
    obtain ⟨x, rest, hxr⟩ : ∃ x rest, xs.drop k = x :: rest := ⟨xs[k], xs.drop (k + 1), List.drop_eq_getElem_cons (by omega)⟩
    rw [hxr] at hb
    have HX := Lib.hid hxr
    clear hxr
    go_wp2_with fail
    go_loopg [7] k (fun gj jv w2 => ∃ (j : Nat), j ≤ k ∧ gj = j ∧ jv = .int .i64 j ∧ (∀ y ∈ s.drop j, x ≤ y) ∧ Kp (only g) w w2 ∧ Blk w2 g T (ints (setIn s x rest j)).toArray)
    case atStart =>
      refine ⟨k, Nat.le_refl _, rfl, rfl, ?_, hkp, ?_⟩
      · rw [List.drop_of_length_le (by omega)]
        simp
      · unfold setIn
        rw [List.take_of_length_le (by omega), List.drop_of_length_le (by omega)]
        exact hb
    case round =>
      clear hb hkp
      rename World => w2
      obtain ⟨j, hjk, rfl, rfl, hgt, hkp, hb⟩ := hrel
      cases gk with
      | zero =>
        obtain ⟨q1, q2, q3, q4⟩ := sort_round HX.out (by omega) hsl hss hsp hgt (by simp) hjk
        have HB : Blk w2 g T (ints (setIn s x [] 0 ++ xs.drop (k + 1))).toArray := by rw [← q4]; exact hb
        clear hb q4
        go_wp2_with fail
        go_quiet (fail)
        go_wp2_with fail
        go_roundg (n - (k + 1))
        case measure => omega
        case rel => exact ⟨k + 1, _, by omega, by omega, rfl, by go_num, q1, q2, q3, hkp.drewN _, HB.drewN _⟩
      | succ m =>
        obtain ⟨y, hy⟩ : ∃ y, s[m]? = some y := ⟨_, List.getElem?_eq_getElem (by omega)⟩
        have hlen : (setIn s x rest (m + 1)).length = s.length + 1 + rest.length := setIn_len _ _ _ _ (by omega)
        have c1 := hb.cell (m + 1)
        have c0 := hb.cell m
        have f0 := hb.frozen m
        have f1 := hb.frozen (m + 1)
        rw [List.getElem?_toArray, ints, List.getElem?_map, setIn_at _ _ _ _ (by omega)] at c1
        have e0 := setIn_ahead s x rest (m + 1) (by omega) (by omega)
        rw [Nat.add_sub_cancel] at e0
        rw [List.getElem?_toArray, ints, List.getElem?_map, e0, hy] at c0
        simp only [Option.map_some] at c0 c1
        have HY := Lib.hid hy
        clear hy e0
        by_cases hxy : x < y
        · have hl : lessB x y = true := by simp [lessB, hxy]
          have hsw := Lib.hid (setIn_swap s x y rest (m + 1) (by omega) (by omega) HY.out)
          go_wp2_with fail
          go_quiet ((go_at_call 84; exact Calls.quiet_of_same (cmp_Less _ _ _)))
          go_wp2_with fail
          go_region
          all_goals go_wp2_with fail
          go_roundg m
          case measure => omega
          case rel =>
            refine ⟨m, by omega, rfl, rfl, ?_, ((hkp.drewN _).setCell (p := ⟨g, m + 1, none⟩) _ (.inl rfl)).setCell (p := ⟨g, m, none⟩) _ (.inl rfl), ?_⟩
            · intro z hz
              have hm : m < s.length := by omega
              have hym : s[m] = y := by have := HY.out; rw [List.getElem?_eq_getElem hm] at this; exact Option.some.inj this
              rw [List.drop_eq_getElem_cons hm, hym] at hz
              rcases List.mem_cons.1 hz with h | h
              · omega
              · exact hgt z h
            · have h1 := ((hb.drewN (nq + 1)).set (m + 1) (.int .i64 y)).set m (.int .i64 x)
              have h2 := hsw.out
              rw [Nat.add_sub_cancel] at h2
              rw [ints_set, ints_set, h2] at h1
              exact h1
        · have hl : lessB x y = false := by simp [lessB]; omega
          obtain ⟨q1, q2, q3, q4⟩ := sort_round HX.out (by omega) hsl hss hsp hgt (sorted_take_le hss HY.out (by omega)) hjk
          have HB : Blk w2 g T (ints (setIn s x [] (m + 1) ++ xs.drop (k + 1))).toArray := by rw [← q4]; exact hb
          clear hb q4
          go_wp2_with fail
          go_quiet ((go_at_call 84; exact Calls.quiet_of_same (cmp_Less _ _ _)))
          go_wp2_with fail
          go_roundg (n - (k + 1))
          case measure => omega
          case rel => exact ⟨k + 1, _, by omega, by omega, rfl, by go_num, q1, q2, q3, hkp.drewN _, HB.drewN _⟩

set_option maxRecDepth 100000 in
set_option maxHeartbeats 2000000 in
theorem pdq_small (g T cap n : Nat) (lim : Int) (xs : List Int) (w : World) (hb : Blk w g T (ints xs).toArray) (hn : n ≤ xs.length) (hcap : n ≤ cap) (hx : xs.length ≤ 1000) (h12 : n ≤ 12) :
    Calls Try.prog 67 #[.slice (some ⟨g, 0, none⟩) n cap, .int .i64 0, .int .i64 n, .int .i64 lim] w (RetEx fun v w' => v = .tuple #[] ∧ ∃ ys, SortOf xs ys n ∧ Kp (only g) w w' ∧ Blk w' g T (ints ys).toArray) := by
  go_enter Try.func67, Try.ntmps67
  go_wp2_with fail
  refine wp_loop_rounds 1 ?_; rw [rounds_succ]
  go_wp2_with fail
  refine (insertion_sort g T cap n xs _ hb hn hcap hx).mono ?_
  rintro e w1 ⟨_, rfl, rfl, hq⟩
  go_wp2_with fail
  go_end0
  exact ⟨_, rfl, rfl, hq⟩
set_option maxRecDepth 100000 in
set_option maxHeartbeats 2000000 in
theorem sort_small (g T cap n : Nat) (xs : List Int) (w : World) (hb : Blk w g T (ints xs).toArray) (hn : n ≤ xs.length) (hcap : n ≤ cap) (hx : xs.length ≤ 1000) (h12 : n ≤ 12) :
    Calls Try.prog 54 #[.slice (some ⟨g, 0, none⟩) n cap] w (RetEx fun v w' => v = .tuple #[] ∧ ∃ ys, SortOf xs ys n ∧ Kp (only g) w w' ∧ Blk w' g T (ints ys).toArray) := by
  go_enter Try.func54, Try.ntmps54
  go_wp2_with fail
  refine (Try.bits_Len n _ (by omega) (by omega)).mono ?_
  rintro e w1 ⟨rfl, rfl⟩
  go_wp2_with fail
  refine (pdq_small g T cap n _ xs _ hb hn hcap hx h12).mono ?_
  rintro e w1 ⟨_, rfl, rfl, hq⟩
  go_wp2_with fail
  go_end0
  exact ⟨_, rfl, rfl, hq⟩
end Go.Proofs.Ytjgbandmjamcaaa

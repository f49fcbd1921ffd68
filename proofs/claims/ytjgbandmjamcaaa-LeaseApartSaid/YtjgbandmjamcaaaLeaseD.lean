/- Contracts: the document's Stamp under a lease; where program and document answer alike; the chapter's example. -/
import Derived.Test.YtjgbandmjamcaaaLeaseC
namespace Go.Proofs.Ytjgbandmjamcaaa
open Go.RowKit

/-- The document's stamp under a lease: the list, the stamp, the error. -/
def stampR (hs ms : List Int) (lo hi : Int) (xs : List Int) : List Int × Int × Int :=
  if isSpan lo hi = true then
    if holdsR hs lo hi = true then
      if (nextRef ms lo hi xs).2.2 ≠ 0 ∨ untilR hs ≤ (nextRef ms lo hi xs).2.1 then (ms, 0, 244) else ((nextRef ms lo hi xs).1, (nextRef ms lo hi xs).2.1, 0)
    else (ms, 0, 243)
  else (ms, 0, 240)
set_option maxRecDepth 100000 in
set_option maxHeartbeats 8000000 in
theorem ref_Stamp (okh ok : Nat → Prop) (hv lv av : Value) (hs ms xs : List Int) (lo hi : Int) (w : World) (hh : Il okh w hv hs) (hl : Il ok w lv ms) (ha : Il ok w av xs) (h1 : hs.length ≤ 1000) (h2 : ms.length ≤ 1000000) (h3 : xs.length ≤ 1000000) :
    Calls Try.prog 29 #[hv, .agg #[.int .i64 lo, .int .i64 hi], lv, av] w (nextRefOut ok (stampR hs ms lo hi xs) w) := by
  obtain ⟨r, hr⟩ : ∃ r, r = stampR hs ms lo hi xs := ⟨_, rfl⟩
  rw [← hr]
  have HR := Lib.hid hr
  clear hr
  have hp := Blk.new w 28 #[.int .i64 lo, .int .i64 hi]
  by_cases hs1 : isSpan lo hi = true
  case neg =>
    have hs2 : isSpan lo hi = false := by simpa using hs1
    go_enter Try.func29, Try.ntmps29
    go_wp2_with fail
    refine (ref_Is _ _ _).mono ?_; rintro e w1 ⟨rfl, hk1⟩
    rw [hs2]
    go_wp2_with fail
    go_ret3
    rw [HR.out, stampR, if_neg hs1]
    have hk := ((Kp.refl none_ w).alloc _).then_ hk1
    exact ⟨_, rfl, hk, (hl.then_ hk).mono (fun _ _ h => .inl h)⟩
  go_enter Try.func29, Try.ntmps29
  go_wp2_with fail
  refine (ref_Is _ _ _).mono ?_; rintro e w1 ⟨rfl, hk1⟩
  rw [hs1]
  have hkw := ((Kp.refl none_ w).alloc _).then_ hk1
  have hp1 := hp.kp hk1 (fun h => h)
  have c0 := hp1.cell 0
  have c1 := hp1.cell 1
  simp at c0 c1
  go_wp2_with fail
  refine (ref_Holds okh hv hs lo hi _ (hh.then_ hkw) h1).mono ?_; rintro e w2 ⟨rfl, hk2⟩
  have hkw2 := hkw.then_ hk2
  have hp2 := hp1.kp hk2 (fun h => h)
  clear c0 c1
  have c0 := hp2.cell 0
  have c1 := hp2.cell 1
  simp at c0 c1
  by_cases hH : holdsR hs lo hi = true
  case neg =>
    have hH' : holdsR hs lo hi = false := by simpa using hH
    rw [hH']
    go_wp2_with fail
    go_ret3
    rw [HR.out, stampR, if_pos hs1, if_neg hH]
    exact ⟨_, rfl, hkw2, (hl.then_ hkw2).mono (fun _ _ h => .inl h)⟩
  rw [hH]
  have hr2 : r = if (nextRef ms lo hi xs).2.2 ≠ 0 ∨ untilR hs ≤ (nextRef ms lo hi xs).2.1 then (ms, 0, 244) else ((nextRef ms lo hi xs).1, (nextRef ms lo hi xs).2.1, 0) := by rw [HR.out, stampR, if_pos hs1, if_pos hH]
  have HR2 := Lib.hid hr2
  clear hr2 hp1 hkw
  go_wp2_with fail
  refine (ref_Next ok lv av ms xs lo hi _ (hl.then_ hkw2) (ha.then_ hkw2) h2 h3).mono ?_
  rintro e w3 ⟨v', rfl, hk3, hm3⟩
  have hkw3 := hkw2.then_ hk3
  have hh3 := hh.then_ hkw3
  have hm4 : Il (fun k => ok k ∨ w.heap.size ≤ k) w3 v' (nextRef ms lo hi xs).1 := hm3.mono (fun k _ h => by have := hkw2.size; rcases h with h | h; exact .inl h; exact .inr (by omega))
  clear hm3
  generalize nextRef ms lo hi xs = q at *
  obtain ⟨ms', t', e'⟩ := q
  dsimp only at *
  by_cases he : e' = 0
  case neg =>
    have he' : (e' != 0) = true := by simp [he]
    have HE := Lib.hid he
    clear he
    go_wp2_with fail
    go_ret3
    rw [HR2.out, if_pos (.inl HE.out)]
    exact ⟨_, rfl, hkw3, (hl.then_ hkw3).mono (fun _ _ h => .inl h)⟩
  subst he
  go_wp2_with fail
  refine (ref_Until okh hv hs _ hh3 h1).mono ?_; rintro e w4 ⟨rfl, nq, rfl⟩
  by_cases ht : untilR hs ≤ t'
  · go_wp2_with fail
    go_ret3
    rw [HR2.out, if_pos (.inr ht)]
    exact ⟨_, rfl, hkw3.drewN _, ((hl.then_ hkw3).mono (fun _ _ h => .inl h)).drewN _⟩
  · go_wp2_with fail
    go_ret3
    rw [HR2.out, if_neg (by omega)]
    exact ⟨_, rfl, hkw3.drewN _, hm4.drewN _⟩

/-! the middle one is the document's Until -/
theorem foldl_step_ge (hs : List Int) : ∀ (l : List Int) (o : Int), o ≤ l.foldl (untilStep hs) o := by
  intro l
  induction l with
  | nil => intro o; exact Int.le_refl _
  | cons x l ih =>
    intro o
    refine Int.le_trans ?_ (ih _)
    unfold untilStep
    split
    · omega
    · exact Int.le_refl _
theorem foldl_step_le (hs : List Int) (u : Int) : ∀ (l : List Int) (o : Int), o ≤ u → (∀ x ∈ l, u < x → 2 * atLeast hs x ≤ hs.length) → l.foldl (untilStep hs) o ≤ u := by
  intro l
  induction l with
  | nil => intro o ho _; exact ho
  | cons x l ih =>
    intro o ho hx
    refine ih _ ?_ (fun y hy => hx y (List.mem_cons_of_mem _ hy))
    unfold untilStep
    split
    · rename_i h
      rcases Int.lt_or_le u x with h1 | h1
      · have := hx x (by simp) h1
        omega
      · exact h1
    · exact ho
theorem foldl_step_mem (hs : List Int) : ∀ (l : List Int) (o x : Int), x ∈ l → 2 * atLeast hs x > hs.length → x ≤ l.foldl (untilStep hs) o := by
  intro l
  induction l with
  | nil => intro o x hx; cases hx
  | cons y l ih =>
    intro o x hx h2
    rcases List.mem_cons.1 hx with rfl | hx
    · refine Int.le_trans ?_ (foldl_step_ge hs l _)
      unfold untilStep
      split
      · exact Int.le_refl _
      · rename_i h
        have : ¬ x > o := fun h3 => h ⟨h2, h3⟩
        omega
    · exact ih _ x hx h2
theorem atLeast_perm {a b : List Int} (h : a.Perm b) (x : Int) : atLeast a x = atLeast b x := h.countP_eq _
theorem sorted_get_le {s : List Int} (hs : Sorted s) {i j : Nat} {a b : Int} (hij : i ≤ j) (ha : s[i]? = some a) (hb : s[j]? = some b) : a ≤ b := by
  obtain ⟨hi, rfl⟩ := List.getElem?_eq_some_iff.1 ha
  obtain ⟨hj, rfl⟩ := List.getElem?_eq_some_iff.1 hb
  rcases Nat.lt_or_eq_of_le hij with h | h
  · exact List.pairwise_iff_getElem.1 hs i j hi hj h
  · subst h; exact Int.le_refl _
/-- Of a row in order, from place m on all are at least what stands there. -/
theorem atLeast_sorted_ge {s : List Int} (hs : Sorted s) {m : Nat} {u : Int} (hm : s[m]? = some u) : s.length - m ≤ atLeast s u := by
  unfold atLeast
  have h1 : (s.drop m).countP (fun y => decide (u ≤ y)) = (s.drop m).length := by
    rw [List.countP_eq_length]
    intro y hy
    obtain ⟨k, hk⟩ := List.getElem?_of_mem hy
    rw [List.getElem?_drop] at hk
    simpa using sorted_get_le hs (by omega) hm hk
  have h2 : (s.drop m).countP (fun y => decide (u ≤ y)) ≤ s.countP (fun y => decide (u ≤ y)) := (List.drop_sublist m s).countP_le
  rw [h1, List.length_drop] at h2
  exact h2
theorem atLeast_sorted_lt {s : List Int} (hs : Sorted s) {m : Nat} {u x : Int} (hm : s[m]? = some u) (hx : u < x) : atLeast s x ≤ s.length - (m + 1) := by
  have hml : m < s.length := (List.getElem?_eq_some_iff.1 hm).1
  unfold atLeast
  rw [← List.take_append_drop (m + 1) s, List.countP_append]
  have h1 : (s.take (m + 1)).countP (fun y => decide (x ≤ y)) = 0 := by
    rw [List.countP_eq_zero]
    intro y hy
    obtain ⟨k, hk⟩ := List.getElem?_of_mem hy
    rw [List.getElem?_take] at hk
    split at hk
    · have := sorted_get_le hs (by omega) hk hm
      simp
      omega
    · cases hk
  rw [h1, Nat.zero_add, List.take_append_drop]
  refine Nat.le_trans List.countP_le_length ?_
  rw [List.length_drop]
  exact Nat.le_refl _
theorem until_alike (hs : List Int) (h0 : 1 ≤ hs.length) (hp : ∀ x ∈ hs, 0 ≤ x) : untilF hs.length hs = untilR hs := by
  obtain ⟨s, hsdef⟩ : ∃ s, s = hs.mergeSort (fun a b => decide (a ≤ b)) := ⟨_, rfl⟩
  have hperm : s.Perm hs := by rw [hsdef]; exact List.mergeSort_perm _ _
  have hsort : Sorted s := by
    have h1 := List.pairwise_mergeSort (le := fun a b : Int => decide (a ≤ b)) (fun a b c h1 h2 => by simp at *; omega) (fun a b => by simp; omega) hs
    rw [hsdef]
    exact h1.imp (fun h => by simpa using h)
  have hlen : s.length = hs.length := hperm.length_eq
  have hm : (hs.length - 1) / 2 < s.length := by omega
  have hu : untilF hs.length hs = s[(hs.length - 1) / 2] := by
    unfold untilF
    rw [List.take_length, ← hsdef, List.getElem?_eq_getElem hm]
    rfl
  have hget : s[(hs.length - 1) / 2]? = some (untilF hs.length hs) := by rw [hu, List.getElem?_eq_getElem hm]
  have hmem : untilF hs.length hs ∈ hs := by rw [hu]; exact hperm.mem_iff.1 (List.getElem_mem hm)
  generalize untilF hs.length hs = u at *
  apply Int.le_antisymm
  · refine foldl_step_mem hs hs 0 u hmem ?_
    have := atLeast_sorted_ge hsort hget
    rw [atLeast_perm hperm] at this
    omega
  · refine foldl_step_le hs u hs 0 (hp u hmem) (fun x _ hx => ?_)
    have := atLeast_sorted_lt hsort hget hx
    rw [atLeast_perm hperm] at this
    omega
theorem mxl_ge_iff (c : Int) : ∀ (l : List Int) (a : Int), (c ≤ mxl a l) ↔ c ≤ a ∨ ∃ x ∈ l, c ≤ x := by
  intro l
  induction l with
  | nil => intro a; simp [mxl]
  | cons x l ih =>
    intro a
    show c ≤ mxl (max a x) l ↔ _
    rw [ih]
    constructor
    · rintro (h | ⟨y, hy, h⟩)
      · rcases Int.le_total a x with h1 | h1
        · rw [Int.max_eq_right h1] at h; exact .inr ⟨x, by simp, h⟩
        · rw [Int.max_eq_left h1] at h; exact .inl h
      · exact .inr ⟨y, by simp [hy], h⟩
    · rintro (h | ⟨y, hy, h⟩)
      · exact .inl (Int.le_trans h (Int.le_max_left _ _))
      · rcases List.mem_cons.1 hy with rfl | hy
        · exact .inl (Int.le_trans h (Int.le_max_right _ _))
        · exact .inr ⟨y, hy, h⟩
theorem stamp_alike (n : Nat) (us hs ms : List Int) (lo hi : Int) (xs : List Int) (hu : untilF n us = untilR hs) (hM : untilR hs ≤ 1125899906842624) :
    stampP n us (mxl 0 ms) lo hi xs = ((stampR hs ms lo hi xs).2.1, (stampR hs ms lo hi xs).2.2, mxl 0 (stampR hs ms lo hi xs).1) := by
  have hh : holdsB n us lo hi = holdsR hs lo hi := by unfold holdsB holdsR; rw [hu]
  unfold stampP stampR
  rw [hh, hu]
  by_cases h1 : isSpan lo hi = true
  · rw [if_pos h1, if_pos h1]
    by_cases h2 : holdsR hs lo hi = true
    · rw [if_pos h2, if_pos h2]
      have hn := next_alike ms lo hi xs
      have hex : (∃ x ∈ mxl 0 ms :: hi :: xs, untilR hs - 1 ≤ x) ↔ untilR hs - 1 ≤ mxl (max (mxl 0 ms) hi) xs := by
        rw [mxl_ge_iff]
        simp only [List.mem_cons, exists_eq_or_imp]
        constructor
        · rintro (h | h | h)
          · exact .inl (Int.le_trans h (Int.le_max_left _ _))
          · exact .inl (Int.le_trans h (Int.le_max_right _ _))
          · exact .inr h
        · rintro (h | h)
          · rcases Int.le_total (mxl 0 ms) hi with h3 | h3
            · rw [Int.max_eq_right h3] at h; exact .inr (.inl h)
            · rw [Int.max_eq_left h3] at h; exact .inl h
          · exact .inr (.inr h)
      have hcond : (∃ x ∈ mxl 0 ms :: hi :: xs, untilR hs - 1 ≤ x) ↔ ((nextRef ms lo hi xs).2.2 ≠ 0 ∨ untilR hs ≤ (nextRef ms lo hi xs).2.1) := by
        rw [hex]
        have e1 : (nextRef ms lo hi xs).2.1 = (nextP (mxl 0 ms) lo hi xs).1 := by rw [hn]
        have e2 : (nextRef ms lo hi xs).2.2 = (nextP (mxl 0 ms) lo hi xs).2.1 := by rw [hn]
        rw [e1, e2]
        unfold nextP
        rw [if_pos h1]
        by_cases h3 : mxl (max (mxl 0 ms) hi) xs ≥ 1125899906842624
        · rw [if_pos h3]
          simp
          omega
        · rw [if_neg h3]
          simp
          omega
      by_cases hc : ∃ x ∈ mxl 0 ms :: hi :: xs, untilR hs - 1 ≤ x
      · rw [if_pos hc, if_pos (hcond.1 hc)]
      · rw [if_neg hc, if_neg (fun h => hc (hcond.2 h)), hn]
        have h4 : (nextRef ms lo hi xs).2.2 = 0 := by
          rcases Classical.em ((nextRef ms lo hi xs).2.2 = 0) with h | h
          · exact h
          · exact absurd (hcond.2 (.inl h)) hc
        rw [h4]
    · rw [if_neg h2, if_neg h2]
  · rw [if_neg h1, if_neg h1]

theorem untilF_R (n : Nat) (us : List Int) (h1 : 1 ≤ n) (hn : n ≤ us.length) (hp : ∀ x ∈ us, 0 ≤ x) : untilF n us = untilR (us.take n) := by
  have hl : (us.take n).length = n := by rw [List.length_take]; omega
  have h2 := until_alike (us.take n) (by omega) (fun x hx => hp x (List.mem_of_mem_take hx))
  rw [← h2, hl]
  unfold untilF
  rw [List.take_take, Nat.min_self]
theorem until_bd (n : Nat) (us : List Int) (h1 : 1 ≤ n) (hn : n ≤ us.length) (hp : ∀ x ∈ us, 0 ≤ x ∧ x ≤ 1125899906842624) : 0 ≤ untilF n us ∧ untilF n us ≤ 1125899906842624 := by
  rw [untilF_R n us h1 hn (fun x hx => (hp x hx).1)]
  refine ⟨foldl_step_ge _ _ _, foldl_step_le _ _ _ _ (by omega) (fun x hx h => ?_)⟩
  have := hp x (List.mem_of_mem_take hx)
  omega
end Go.Proofs.Ytjgbandmjamcaaa

/- Digits to the base two, the lowest first: plain laws. -/
import Derived.Test.YtjgbandmjamcaaaClkC
namespace Go.Proofs.Ytjgbandmjamcaaa
open Go.RowKit

def val (xs : List Nat) : Nat := xs.foldr (fun d a => d + 2 * a) 0
def Bits (xs : List Nat) : Prop := ∀ x ∈ xs, x ≤ 1
theorem val_nil : val [] = 0 := rfl
theorem val_cons (x : Nat) (xs : List Nat) : val (x :: xs) = x + 2 * val xs := rfl
theorem val_append (xs ys : List Nat) : val (xs ++ ys) = val xs + 2 ^ xs.length * val ys := by
  induction xs with
  | nil => simp [val_nil]
  | cons x xs ih =>
    rw [List.cons_append, val_cons, val_cons, ih, List.length_cons, Nat.pow_succ, Nat.mul_add, Nat.mul_comm (2 ^ xs.length) 2, Nat.mul_assoc]
    omega
theorem val_lt {xs : List Nat} (h : Bits xs) : val xs < 2 ^ xs.length := by
  induction xs with
  | nil => decide
  | cons x xs ih =>
    have h1 := h x (List.mem_cons_self ..)
    have h2 := ih (fun y hy => h y (List.mem_cons_of_mem _ hy))
    rw [val_cons, List.length_cons, Nat.pow_succ]
    omega
theorem val_zeros (n : Nat) : val (List.replicate n 0) = 0 := by
  induction n with
  | zero => rfl
  | succ n ih => rw [List.replicate_succ, val_cons, ih]
theorem val_set : ∀ (xs : List Nat) (p d : Nat), p < xs.length → val (xs.set p d) + 2 ^ p * xs[p]?.getD 0 = val xs + 2 ^ p * d := by
  intro xs
  induction xs with
  | nil => intro p d h; simp at h
  | cons x xs ih =>
    intro p d h
    cases p with
    | zero => simp [val_cons]; omega
    | succ p =>
      have := ih p d (by simpa using h)
      rw [List.set_cons_succ, val_cons, val_cons, List.getElem?_cons_succ, Nat.pow_succ, Nat.mul_comm (2 ^ p) 2, Nat.mul_assoc, Nat.mul_assoc]
      omega
theorem bits_set {xs : List Nat} (h : Bits xs) (p : Nat) {d : Nat} (hd : d ≤ 1) : Bits (xs.set p d) := fun x hx => by
  rcases List.mem_or_eq_of_mem_set hx with hx | hx
  · exact h x hx
  · omega
theorem bits_get {xs : List Nat} (h : Bits xs) (p : Nat) : xs[p]?.getD 0 ≤ 1 := by
  cases hp : xs[p]? with
  | none => simp
  | some y => exact h y (List.mem_of_getElem? hp)
theorem bits_append {xs ys : List Nat} (h : Bits xs) (k : Bits ys) : Bits (xs ++ ys) := fun x hx => by
  rcases List.mem_append.1 hx with hx | hx
  · exact h x hx
  · exact k x hx
theorem bits_drop {xs : List Nat} (h : Bits xs) (k : Nat) : Bits (xs.drop k) := fun x hx => h x (List.mem_of_mem_drop hx)
theorem bits_take {xs : List Nat} (h : Bits xs) (k : Nat) : Bits (xs.take k) := fun x hx => h x (List.mem_of_mem_take hx)
theorem bits_zeros (n : Nat) : Bits (List.replicate n 0) := fun x hx => by rw [List.eq_of_mem_replicate hx]; omega
theorem val_take_succ (xs : List Nat) (k : Nat) (h : k < xs.length) : val (xs.take (k + 1)) = val (xs.take k) + 2 ^ k * xs[k]?.getD 0 := by
  rw [List.take_succ_eq_append_getElem h, val_append, List.length_take, Nat.min_eq_left (by omega), List.getElem?_eq_getElem h]
  simp [val]
theorem val_drop (xs : List Nat) (h : Bits xs) (k : Nat) : val (xs.drop k) = val xs / 2 ^ k ∧ val (xs.take k) = val xs % 2 ^ k := by
  have e : val xs = val (xs.take k) + 2 ^ (xs.take k).length * val (xs.drop k) := by rw [← val_append, List.take_append_drop]
  have hl := val_lt (bits_take h k)
  by_cases hk : k ≤ xs.length
  · rw [List.length_take, Nat.min_eq_left hk] at e hl
    have h1 : val xs / 2 ^ k = val (xs.drop k) := by
      rw [e, Nat.add_mul_div_left _ _ (Nat.two_pow_pos k), Nat.div_eq_of_lt hl, Nat.zero_add]
    have h2 : val xs % 2 ^ k = val (xs.take k) := by
      rw [e, Nat.add_mul_mod_self_left, Nat.mod_eq_of_lt hl]
    exact ⟨h1.symm, h2.symm⟩
  · have hx := val_lt h
    have hp : 2 ^ xs.length ≤ 2 ^ k := Nat.pow_le_pow_right (by decide) (by omega)
    rw [List.drop_eq_nil_of_le (by omega), List.take_of_length_le (by omega), Nat.div_eq_of_lt (by omega), Nat.mod_eq_of_lt (by omega)]
    exact ⟨rfl, rfl⟩
theorem mod_succ_bit (v k : Nat) : v % 2 ^ (k + 1) = v % 2 ^ k + 2 ^ k * (v / 2 ^ k % 2) := by
  rw [Nat.pow_succ, Nat.mod_mul]
theorem val_head (xs : List Nat) (h : Bits xs) (hl : 0 < xs.length) : xs[0]?.getD 0 = val xs % 2 := by
  cases xs with
  | nil => simp at hl
  | cons x xs =>
    have := h x (List.mem_cons_self ..)
    rw [val_cons]
    simp
    omega
theorem drop_head (xs : List Nat) (h : Bits xs) (k : Nat) (hk : k < xs.length) : xs[k]?.getD 0 = val xs / 2 ^ k % 2 := by
  rw [← (val_drop xs h k).1, ← val_head _ (bits_drop h k) (by rw [List.length_drop]; omega), List.getElem?_drop, Nat.add_zero]

theorem val_drop_succ (xs : List Nat) (k : Nat) (hk : k < xs.length) : val (xs.drop k) = xs[k]?.getD 0 + 2 * val (xs.drop (k + 1)) := by
  rw [List.drop_eq_getElem_cons hk, val_cons, List.getElem?_eq_getElem hk]
  rfl
theorem val_drop_le (xs : List Nat) (h : Bits xs) (k : Nat) : val (xs.drop k) ≤ val xs := by
  rw [(val_drop xs h k).1]
  exact Nat.div_le_self _ _
/-! what a rate widens by, as the document reckons it -/
def refExp (b : Nat) : Nat := if b / 4503599627370496 % 2048 = 0 then 1 else b / 4503599627370496 % 2048
def refPart (b : Nat) : Nat := if b / 4503599627370496 % 2048 = 0 then b % 4503599627370496 else b % 4503599627370496 + 4503599627370496
def ceilDiv (a q : Nat) : Nat := if a % q = 0 then a / q else a / q + 1
theorem neg_ceil (a q : Nat) (hq : 0 < q) : -((-(a : Int)) / (q : Int)) = (ceilDiv a q : Nat) := by
  unfold ceilDiv
  by_cases h : a % q = 0
  · rw [if_pos h, neg_div_whole a q hq h]; omega
  · rw [if_neg h, neg_div_rest a q hq h]; omega
theorem grow_ref (n b : Nat) (hb : isRateC b) : grow n b = (ceilDiv (n * refPart b) (2 ^ (1075 - refExp b)) : Nat) := by
  by_cases hz : b = 0 ∨ b = 9223372036854775808
  · have hp : refPart b = 0 := by rcases hz with rfl | rfl <;> decide
    unfold grow timesF
    rw [if_pos hz, hp, Nat.mul_zero]
    unfold ceilDiv
    simp
  have hb' : 0 < b ∧ b ≤ 4576918229304087675 := by rcases hb with h | h | h; exact absurd (.inl h) hz; exact absurd (.inr h) hz; exact h
  unfold grow timesF
  rw [if_neg hz]
  by_cases hs : b < 4503599627370496
  · have he : b / 4503599627370496 % 2048 = 0 := by omega
    have h1 : refPart b = b := by unfold refPart; rw [if_pos he]; omega
    have h2 : refExp b = 1 := by unfold refExp; rw [if_pos he]
    obtain ⟨K, hK⟩ : ∃ K : Nat, 1075 - 1 = K := ⟨_, rfl⟩
    rw [h1, h2, hK, ← neg_ceil _ _ (Nat.two_pow_pos _)]
    have hl : b.log2 < 52 := (Nat.log2_lt (by omega)).2 (by omega)
    have hlb : 2 ^ b.log2 ≤ b := Nat.log2_self_le (by omega)
    have h3 : 4503599627370496 + fP b = b * 2 ^ (52 - b.log2) := by
      unfold fP
      rw [if_pos hs]
      have : 2 ^ b.log2 * 2 ^ (52 - b.log2) ≤ b * 2 ^ (52 - b.log2) := Nat.mul_le_mul_right _ hlb
      rw [← Nat.pow_add, show b.log2 + (52 - b.log2) = 52 from by omega] at this
      have e52 : (2 : Nat) ^ 52 = 4503599627370496 := by decide
      omega
    have h4 : fK b = K + (52 - b.log2) := by
      unfold fK fX
      rw [if_pos hs]
      omega
    rw [h3, h4, Nat.pow_add]
    have e : (-(n : Int)) * ((b * 2 ^ (52 - b.log2) : Nat) : Int) = (-((n * b : Nat) : Int)) * ((2 ^ (52 - b.log2) : Nat) : Int) := by
      rw [Int.natCast_mul, Int.natCast_mul, ← Int.mul_assoc, Int.neg_mul, Int.neg_mul]
    rw [e, Int.natCast_mul (2 ^ K), Int.mul_ediv_mul_of_pos_left _ _ (by have := Nat.two_pow_pos (52 - b.log2); omega)]
  · have he : b / 4503599627370496 % 2048 = b / 4503599627370496 := by omega
    have he0 : ¬ b / 4503599627370496 = 0 := by omega
    have h1 : refPart b = b % 4503599627370496 + 4503599627370496 := by unfold refPart; rw [he, if_neg he0]
    have h2 : refExp b = b / 4503599627370496 := by unfold refExp; rw [he, if_neg he0]
    have h3 : 4503599627370496 + fP b = b % 4503599627370496 + 4503599627370496 := by unfold fP; rw [if_neg hs]; omega
    have h4 : fK b = 1075 - b / 4503599627370496 := by unfold fK fX; rw [if_neg hs]; omega
    rw [h1, h2, h3, h4, ← neg_ceil _ _ (Nat.two_pow_pos _), Int.natCast_mul, Int.neg_mul]
theorem ref_bounds (b : Nat) (hb : isRateC b) : 1 ≤ refExp b ∧ refExp b ≤ 1022 ∧ refPart b < 9007199254740992 ∧ refPart b * 2 ≤ 2 ^ (1075 - refExp b) := by
  by_cases hz : b = 0 ∨ b = 9223372036854775808
  · have hp : refPart b = 0 := by rcases hz with rfl | rfl <;> decide
    have he : refExp b = 1 := by rcases hz with rfl | rfl <;> decide
    rw [hp, Nat.zero_mul]
    exact ⟨by omega, by omega, by decide, Nat.zero_le _⟩
  have hb' : 0 < b ∧ b ≤ 4576918229304087675 := by rcases hb with h | h | h; exact absurd (.inl h) hz; exact absurd (.inr h) hz; exact h
  have h1 : refPart b < 9007199254740992 := by unfold refPart; split <;> omega
  have h2 : refExp b ≤ 1016 := by unfold refExp; split <;> omega
  refine ⟨by unfold refExp; split <;> omega, by omega, h1, ?_⟩
  have : 2 ^ 59 ≤ 2 ^ (1075 - refExp b) := Nat.pow_le_pow_right (by decide) (by omega)
  have e : (2 : Nat) ^ 59 = 576460752303423488 := by decide
  omega
end Go.Proofs.Ytjgbandmjamcaaa

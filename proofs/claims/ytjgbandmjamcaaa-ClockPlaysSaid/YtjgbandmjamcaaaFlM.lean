/- Plain laws of 64-bit floats: order by keys, the few products, the cut to an integer. No program in sight. -/
import Ieee.Arith
import Derived.Laws.FloatArith
namespace Go.Proofs.Ytjgbandmjamcaaa
open Ieee

/-- The mantissa and the place (above 2^-1074) of a rung. -/
def fM (r : Nat) : Nat := if r < 4503599627370496 then r else 4503599627370496 + r % 4503599627370496
def fU (r : Nat) : Nat := if r < 4503599627370496 then 0 else r / 4503599627370496 - 1
def sv (r : Nat) : Nat := fM r * 2 ^ fU r
theorem read_num (b : Nat) (h : b % 9223372036854775808 < 9218868437227405312) :
    double.read b = .number (b / 9223372036854775808 % 2 == 1) (fM (b % 9223372036854775808)) (-1074 + (fU (b % 9223372036854775808) : Int)) := by
  unfold Format.read
  rw [show double.signWeight = 9223372036854775808 from by decide, show double.binade = 4503599627370496 from by decide, show double.infRung = 9218868437227405312 from by decide, show double.leastPlace = -1074 from by decide]
  dsimp only
  unfold fM fU
  by_cases h1 : b % 9223372036854775808 < 4503599627370496
  · rw [if_pos h1, if_pos h1, if_pos h1]; simp
  · rw [if_neg h1, if_pos h, if_neg h1, if_neg h1]
theorem read_inf (b : Nat) (h : b % 9223372036854775808 = 9218868437227405312) : double.read b = .infinity (b / 9223372036854775808 % 2 == 1) := by
  unfold Format.read
  rw [show double.signWeight = 9223372036854775808 from by decide, show double.binade = 4503599627370496 from by decide, show double.infRung = 9218868437227405312 from by decide]
  dsimp only
  rw [if_neg (by omega), if_neg (by omega), if_pos h]
theorem read_nan (b : Nat) (h : 9218868437227405312 < b % 9223372036854775808) : double.read b = .nan (b / 9223372036854775808 % 2 == 1) (b % 9223372036854775808 - 9218868437227405312) := by
  unfold Format.read
  rw [show double.signWeight = 9223372036854775808 from by decide, show double.binade = 4503599627370496 from by decide, show double.infRung = 9218868437227405312 from by decide]
  dsimp only
  rw [if_neg (by omega), if_neg (by omega), if_neg (by omega)]
theorem sv_mono {r s : Nat} (h : r < s) : sv r < sv s := by
  unfold sv fM fU
  by_cases h1 : r < 4503599627370496
  · rw [if_pos h1, if_pos h1]
    by_cases h2 : s < 4503599627370496
    · rw [if_pos h2, if_pos h2]; omega
    · rw [if_neg h2, if_neg h2]
      have : 1 ≤ 2 ^ (s / 4503599627370496 - 1) := Nat.one_le_two_pow
      have h3 : (4503599627370496 + s % 4503599627370496) * 1 ≤ (4503599627370496 + s % 4503599627370496) * 2 ^ (s / 4503599627370496 - 1) := Nat.mul_le_mul_left _ this
      omega
  · have h2 : ¬ s < 4503599627370496 := by omega
    rw [if_neg h1, if_neg h1, if_neg h2, if_neg h2]
    have hq : r / 4503599627370496 ≤ s / 4503599627370496 := by omega
    by_cases he : r / 4503599627370496 = s / 4503599627370496
    · rw [he]
      have : 1 ≤ 2 ^ (s / 4503599627370496 - 1) := Nat.one_le_two_pow
      exact Nat.mul_lt_mul_of_pos_right (by omega) (by omega)
    · obtain ⟨d, hd⟩ : ∃ d, s / 4503599627370496 - 1 = (r / 4503599627370496 - 1) + 1 + d := ⟨s / 4503599627370496 - 1 - ((r / 4503599627370496 - 1) + 1), by omega⟩
      rw [hd, Nat.pow_add, Nat.pow_add]
      have hA : 1 ≤ 2 ^ (r / 4503599627370496 - 1) := Nat.one_le_two_pow
      have hD : 1 ≤ 2 ^ d := Nat.one_le_two_pow
      generalize 2 ^ (r / 4503599627370496 - 1) = A at *
      generalize 2 ^ d = D at *
      have h4 : (4503599627370496 + r % 4503599627370496) * A < (2 * 4503599627370496) * A := Nat.mul_lt_mul_of_pos_right (by omega) (by omega)
      have h5 : 4503599627370496 * (A * 2 ^ 1 * D) ≤ (4503599627370496 + s % 4503599627370496) * (A * 2 ^ 1 * D) := Nat.mul_le_mul_right _ (by omega)
      have h6 : 4503599627370496 * (A * 2 ^ 1 * 1) ≤ 4503599627370496 * (A * 2 ^ 1 * D) := Nat.mul_le_mul_left _ (Nat.mul_le_mul_left _ hD)
      omega
theorem sv_lt_iff {r s : Nat} : sv r < sv s ↔ r < s := by
  constructor
  · intro h
    rcases Nat.lt_trichotomy r s with h1 | h1 | h1
    · exact h1
    · subst h1; omega
    · have := sv_mono h1; omega
  · exact sv_mono
theorem sv_eq_iff {r s : Nat} : sv r = sv s ↔ r = s := by
  constructor
  · intro h
    rcases Nat.lt_trichotomy r s with h1 | h1 | h1
    · have := sv_mono h1; omega
    · exact h1
    · have := sv_mono h1; omega
  · rintro rfl; rfl
theorem sv_zero : sv 0 = 0 := by decide

/-- A word's place in the order. -/
def fkey (b : Nat) : Int := if b / 9223372036854775808 % 2 == 1 then -((b % 9223372036854775808 : Nat) : Int) else ((b % 9223372036854775808 : Nat) : Int)
theorem cmp_alike {a b c d : Int} (h1 : a < b ↔ c < d) (h2 : a = b ↔ c = d) : compare a b = compare c d := by
  simp only [compare, compareOfLessAndEq, h1, h2]
theorem cmp_lt {a b : Int} (h : a < b) : compare a b = .lt := by simp [compare, compareOfLessAndEq, h]
theorem cmp_gt {a b : Int} (h : b < a) : compare a b = .gt := by
  simp only [compare, compareOfLessAndEq]
  rw [if_neg (by omega), if_neg (by omega)]
theorem cmp_mul (a b : Int) (c : Nat) (hc : 0 < c) : compare a b = compare (a * c) (b * c) := by
  have hc' : (0 : Int) < c := by omega
  refine cmp_alike ⟨fun h => Int.mul_lt_mul_of_pos_right h hc', fun h => Int.lt_of_mul_lt_mul_right h (by omega)⟩ ⟨fun h => by rw [h], fun h => Int.eq_of_mul_eq_mul_right (by omega) h⟩
def sgn (neg : Bool) (n : Nat) : Int := if neg then -(n : Int) else n
theorem signed_sgn (neg : Bool) (m u : Nat) : Ieee.signed neg m u = sgn neg (m * 2 ^ u) := by
  unfold Ieee.signed sgn
  rw [Nat.shiftLeft_eq]
theorem sgn_mul (neg : Bool) (m c : Nat) : sgn neg m * c = sgn neg (m * c) := by
  unfold sgn
  cases neg <;> simp [Int.neg_mul]
theorem order_num (s t : Bool) (m n : Nat) (u v : Nat) : Datum.order (.number s m (-1074 + (u : Int))) (.number t n (-1074 + (v : Int))) = some (compare (sgn s (m * 2 ^ u)) (sgn t (n * 2 ^ v))) := by
  unfold Datum.order
  dsimp only
  rw [signed_sgn, signed_sgn]
  rcases Nat.le_total u v with h | h
  · rw [Int.min_eq_left (by omega), show (-1074 + (u : Int) - (-1074 + (u : Int))).toNat = 0 from by omega, show (-1074 + (v : Int) - (-1074 + (u : Int))).toNat = v - u from by omega]
    rw [cmp_mul _ _ (2 ^ u) (Nat.two_pow_pos _), sgn_mul, sgn_mul, Nat.pow_zero, Nat.mul_one, Nat.mul_assoc n, ← Nat.pow_add, Nat.sub_add_cancel h]
  · rw [Int.min_eq_right (by omega), show (-1074 + (v : Int) - (-1074 + (v : Int))).toNat = 0 from by omega, show (-1074 + (u : Int) - (-1074 + (v : Int))).toNat = u - v from by omega]
    rw [cmp_mul _ _ (2 ^ v) (Nat.two_pow_pos _), sgn_mul, sgn_mul, Nat.pow_zero, Nat.mul_one, Nat.mul_assoc m, ← Nat.pow_add, Nat.sub_add_cancel h]
theorem cmp_sgn (s t : Bool) (r q : Nat) : compare (sgn s (sv r)) (sgn t (sv q)) = compare (sgn s r) (sgn t q) := by
  have z := sv_zero
  have a1 := @sv_lt_iff r q
  have a2 := @sv_lt_iff q r
  have a3 := @sv_eq_iff r q
  have p1 := @sv_lt_iff 0 r
  have p2 := @sv_lt_iff 0 q
  have e1 := @sv_eq_iff 0 r
  have e2 := @sv_eq_iff 0 q
  rw [z] at p1 p2 e1 e2
  unfold sgn
  cases s <;> cases t <;> simp only [Bool.false_eq_true, if_false, if_true] <;> refine cmp_alike ?_ ?_ <;> omega
/-- Words that are numbers or infinities stand as their keys do. -/
theorem order_key (x y : Nat) (hx : x % 9223372036854775808 ≤ 9218868437227405312) (hy : y % 9223372036854775808 ≤ 9218868437227405312) : double.order x y = some (compare (fkey x) (fkey y)) := by
  unfold Format.order fkey
  change _ = some (compare (sgn _ _) (sgn _ _))
  generalize hs : (x / 9223372036854775808 % 2 == 1) = s
  generalize ht : (y / 9223372036854775808 % 2 == 1) = t
  rcases Nat.lt_or_eq_of_le hx with h1 | h1
  · rcases Nat.lt_or_eq_of_le hy with h2 | h2
    · rw [read_num x h1, read_num y h2, order_num, hs, ht]
      exact congrArg some (cmp_sgn _ _ _ _)
    · rw [read_num x h1, read_inf y h2, hs, ht, h2]
      unfold Datum.order sgn
      generalize x % 9223372036854775808 = r at *
      cases t
      · refine (congrArg some (cmp_lt ?_)).symm
        cases s <;> simp <;> omega
      · refine (congrArg some (cmp_gt ?_)).symm
        cases s <;> simp <;> omega
  · rcases Nat.lt_or_eq_of_le hy with h2 | h2
    · rw [read_inf x h1, read_num y h2, hs, ht, h1]
      unfold Datum.order sgn
      generalize y % 9223372036854775808 = r at *
      cases s
      · refine (congrArg some (cmp_gt ?_)).symm
        cases t <;> simp <;> omega
      · refine (congrArg some (cmp_lt ?_)).symm
        cases t <;> simp <;> omega
    · rw [read_inf x h1, read_inf y h2, hs, ht, h1, h2]
      unfold Datum.order sgn
      cases s <;> cases t <;> rfl
theorem order_nan_l (x y : Nat) (hx : 9218868437227405312 < x % 9223372036854775808) : double.order x y = none := by
  unfold Format.order
  rw [read_nan x hx]
  rfl
theorem order_nan_r (x y : Nat) (hy : 9218868437227405312 < y % 9223372036854775808) : double.order x y = none := by
  unfold Format.order
  rw [read_nan y hy]
  cases double.read x <;> rfl

/-! Products, normal forms, the cut to an integer. -/
theorem nearest_exact (neg : Bool) (mag : Nat) (place : Int) (k : Nat) (hm : mag ≠ 0) (hl : place + mag.log2 - 52 ≥ -1074) (hk : mag.log2 = 52 + k) (q : Nat) (hq : mag = q * 2 ^ k) (hi : (place + k + 1074).toNat * 4503599627370496 + q ≤ 9218868437227405312) :
    double.nearest neg mag place = double.word neg ((place + k + 1074).toNat * 4503599627370496 + q) := by
  unfold Format.nearest
  rw [if_neg hm, show (double.fractionBits : Int) = 52 from rfl, show double.leastPlace = -1074 from by decide, show double.binade = 4503599627370496 from by decide, show double.infRung = 9218868437227405312 from by decide]
  dsimp only
  rw [Int.max_eq_left (by omega), hk]
  rw [show (place - (place + ((52 + k : Nat) : Int) - 52)).toNat = 0 from by omega, show (place + ((52 + k : Nat) : Int) - 52 - place).toNat = k from by omega, Nat.shiftLeft_zero]
  have hc : Toward.even.cut neg mag k = q := by
    unfold Toward.cut
    dsimp only
    rw [hk, Nat.min_eq_left (by omega), Nat.one_shiftLeft, hq, Nat.mul_div_cancel _ (Nat.two_pow_pos _), Nat.mul_mod_left]
    have : 0 < 2 ^ k := Nat.two_pow_pos _
    simp
  rw [hc, show place + ((52 + k : Nat) : Int) - 52 - -1074 = place + k + 1074 from by omega, Nat.min_eq_left hi]
theorem log2_shift (b k : Nat) (hb : b ≠ 0) : (b * 2 ^ k).log2 = b.log2 + k := by
  have hp : 0 < 2 ^ k := Nat.two_pow_pos k
  refine (Nat.log2_eq_iff (by have := Nat.mul_ne_zero hb (by omega : 2 ^ k ≠ 0); exact this)).2 ⟨?_, ?_⟩
  · rw [Nat.pow_add]; exact Nat.mul_le_mul_right _ (Nat.log2_self_le hb)
  · rw [show b.log2 + k + 1 = (b.log2 + 1) + k from by omega, Nat.pow_add]; exact Nat.mul_lt_mul_of_pos_right Nat.lt_log2_self hp
theorem mul_eq (x y : Nat) (s t : Bool) (m n : Nat) (i j : Int) (hx : double.read x = .number s m i) (hy : double.read y = .number t n j) : floatBits .mul .f64 x y = some (double.nearest (s ^^ t) (m * n) (i + j)) := by
  unfold floatBits
  change Format.mul double x y = _
  unfold Format.mul
  rw [hx, hy]
  rfl
/-- A subnormal number made normal. -/
theorem mul_sub (b : Nat) (h0 : 0 < b) (h1 : b < 4503599627370496) : floatBits .mul .f64 b 4841369599423283200 = some (b.log2 * 4503599627370496 + b * 2 ^ (52 - b.log2)) := by
  have hl : b.log2 < 52 := (Nat.log2_lt (by omega)).2 h1
  have hb : double.read b = .number false b (-1074) := by
    rw [read_num b (by omega), show b % 9223372036854775808 = b from by omega, show b / 9223372036854775808 = 0 from by omega, fM, fU, if_pos h1, if_pos h1]; rfl
  rw [mul_eq b _ _ _ _ _ _ _ hb (show double.read 4841369599423283200 = .number false 4503599627370496 0 from by decide)]
  have hlog : (b * 4503599627370496).log2 = 52 + b.log2 := by
    rw [show (4503599627370496 : Nat) = 2 ^ 52 from by decide, log2_shift b 52 (by omega)]; omega
  have hq : b * 4503599627370496 = b * 2 ^ (52 - b.log2) * 2 ^ b.log2 := by
    rw [Nat.mul_assoc, ← Nat.pow_add, show 52 - b.log2 + b.log2 = 52 from by omega]
  have hq2 : b * 2 ^ (52 - b.log2) < 9007199254740992 := by
    have h2 : b < 2 ^ (b.log2 + 1) := Nat.lt_log2_self
    have h3 : b * 2 ^ (52 - b.log2) < 2 ^ (b.log2 + 1) * 2 ^ (52 - b.log2) := Nat.mul_lt_mul_of_pos_right h2 (Nat.two_pow_pos _)
    rw [← Nat.pow_add, show b.log2 + 1 + (52 - b.log2) = 53 from by omega] at h3
    exact h3
  rw [nearest_exact _ _ _ b.log2 (by omega) (by rw [hlog]; omega) hlog (b * 2 ^ (52 - b.log2)) hq (by omega)]
  rw [show (-1074 + 0 + (b.log2 : Int) + 1074).toNat = b.log2 from by omega]
  rfl
theorem sub_norm (b : Nat) (h0 : 0 < b) (h1 : b < 4503599627370496) : ∃ p, p < 4503599627370496 ∧ b * 2 ^ (52 - b.log2) = 4503599627370496 + p := by
  have hl : b.log2 < 52 := (Nat.log2_lt (by omega)).2 h1
  have h2 : b < 2 ^ (b.log2 + 1) := Nat.lt_log2_self
  have h3 : b * 2 ^ (52 - b.log2) < 2 ^ (b.log2 + 1) * 2 ^ (52 - b.log2) := Nat.mul_lt_mul_of_pos_right h2 (Nat.two_pow_pos _)
  have h4 : 2 ^ b.log2 * 2 ^ (52 - b.log2) ≤ b * 2 ^ (52 - b.log2) := Nat.mul_le_mul_right _ (Nat.log2_self_le (by omega))
  rw [← Nat.pow_add, show b.log2 + 1 + (52 - b.log2) = 53 from by omega] at h3
  rw [← Nat.pow_add, show b.log2 + (52 - b.log2) = 52 from by omega] at h4
  have e3 : (2 : Nat) ^ 53 = 9007199254740992 := by decide
  have e4 : (2 : Nat) ^ 52 = 4503599627370496 := by decide
  exact ⟨b * 2 ^ (52 - b.log2) - 4503599627370496, by omega, by omega⟩
/-- Times 1.0. -/
theorem mul_one_ (p : Nat) (hp : p < 4503599627370496) : floatBits .mul .f64 4607182418800017408 (4841369599423283200 + p) = some (4841369599423283200 + p) := by
  have hb : double.read (4841369599423283200 + p) = .number false (4503599627370496 + p) 0 := by
    rw [read_num _ (by omega), show (4841369599423283200 + p) % 9223372036854775808 = 4841369599423283200 + p from by omega, show (4841369599423283200 + p) / 9223372036854775808 = 0 from by omega, fM, fU, if_neg (by omega), if_neg (by omega),
      show (4841369599423283200 + p) % 4503599627370496 = p from by omega, show (4841369599423283200 + p) / 4503599627370496 = 1075 from by omega]; rfl
  rw [mul_eq _ _ _ _ _ _ _ _ (show double.read 4607182418800017408 = .number false 4503599627370496 (-52) from by decide) hb]
  have hlog : (4503599627370496 * (4503599627370496 + p)).log2 = 52 + 52 := by
    rw [Nat.log2_eq_iff (by omega)]
    have e1 : (2 : Nat) ^ (52 + 52) = 20282409603651670423947251286016 := by decide
    have e2 : (2 : Nat) ^ (52 + 52 + 1) = 40564819207303340847894502572032 := by decide
    omega
  rw [nearest_exact _ _ _ 52 (by omega) (by rw [hlog]; decide) hlog (4503599627370496 + p) (by rw [show (2 : Nat) ^ 52 = 4503599627370496 from by decide, Nat.mul_comm]) (by rw [show (-52 + 0 + ((52 : Nat) : Int) + 1074).toNat = 1074 from by decide]; omega)]
  rw [show (-52 + 0 + ((52 : Nat) : Int) + 1074).toNat = 1074 from by decide]
  unfold Format.word
  rw [if_neg (by decide)]
  congr 1
  omega
/-- An integer again. -/
theorem toInt_ (p : Nat) (hp : p < 4503599627370496) : floatToIntVal .f64 (4841369599423283200 + p) .i64 = some ((4503599627370496 + p : Nat) : Int) := by
  have hb : double.read (4841369599423283200 + p) = .number false (4503599627370496 + p) 0 := by
    rw [read_num _ (by omega), show (4841369599423283200 + p) % 9223372036854775808 = 4841369599423283200 + p from by omega, show (4841369599423283200 + p) / 9223372036854775808 = 0 from by omega, fM, fU, if_neg (by omega), if_neg (by omega),
      show (4841369599423283200 + p) % 4503599627370496 = p from by omega, show (4841369599423283200 + p) / 4503599627370496 = 1075 from by omega]; rfl
  have hi : (Datum.number false (4503599627370496 + p) 0).toInt .zero = some ((4503599627370496 + p : Nat) : Int) := by
    unfold Datum.toInt Datum.integral Toward.cut
    simp [Ieee.signed]
  unfold floatToIntVal
  change (match (double.read (4841369599423283200 + p)).toInt .zero with | some n => if IntKind.min .i64 ≤ n ∧ n ≤ IntKind.max .i64 then some n else none | none => none) = _
  rw [hb, hi]
  dsimp only
  rw [if_pos ⟨by rw [show IntKind.min .i64 = -9223372036854775808 from by decide]; omega, by rw [show IntKind.max .i64 = 9223372036854775807 from by decide]; omega⟩]
theorem toInt_zero : floatToIntVal .f64 0 .i64 = some 0 := by decide
theorem toInt_nzero : floatToIntVal .f64 9223372036854775808 .i64 = some 0 := by decide
end Go.Proofs.Ytjgbandmjamcaaa

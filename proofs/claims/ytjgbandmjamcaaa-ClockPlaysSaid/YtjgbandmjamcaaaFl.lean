/- Contracts: floats' small functions: their bits, what they are, taken apart and put together. -/
import Derived.Test.YtjgbandmjamcaaaFlM
import Derived.Test.YtjgbandmjamcaaaBase
import Derived.Laws.Externs
import GoSem.Extern.MathFloatBits
import Derived.WalkLawsBesides
import Derived.Laws.BitsAllLaws
namespace Go.Proofs.Ytjgbandmjamcaaa
open Go.RowKit

theorem bit_abs (b : Nat) (hb : b < 18446744073709551616) : bits .andNot .u64 (b : Int) 9223372036854775808 = ((b % 9223372036854775808 : Nat) : Int) := by
  have h := u64_andNot_nat b 9223372036854775808 hb (by decide)
  rw [show ((9223372036854775808 : Nat) : Int) = 9223372036854775808 from rfl] at h
  rw [h, show 18446744073709551615 - 9223372036854775808 = 2 ^ 63 - 1 from by decide, Nat.and_two_pow_sub_one_eq_mod]
theorem bit_clear (b : Nat) (hb : b < 9223372036854775808) : bits .andNot .u64 (b : Int) 9218868437227405312 = ((b % 4503599627370496 : Nat) : Int) := by
  have h := u64_andNot_nat b 9218868437227405312 (by omega) (by decide)
  rw [show ((9218868437227405312 : Nat) : Int) = 9218868437227405312 from rfl] at h
  rw [h, show 18446744073709551615 - 9218868437227405312 = 2 ^ 63 + (2 ^ 52 - 1) from by decide, ← nat_join 63 (2 ^ 63) (2 ^ 52 - 1) (by decide) (by decide), Nat.and_or_distrib_left, nat_bit, Nat.and_two_pow_sub_one_eq_mod,
    show b / 2 ^ 63 = 0 from by omega]
  simp
theorem bit_2047 (b : Nat) (hb : b < 18446744073709551616) : bits .and .u64 (b : Int) 2047 = ((b % 2048 : Nat) : Int) := by
  have h := u64_and_nat b 2047 hb (by decide)
  rw [show ((2047 : Nat) : Int) = 2047 from rfl] at h
  rw [h, show 2047 = 2 ^ 11 - 1 from by decide, Nat.and_two_pow_sub_one_eq_mod]
theorem bit_join (p c : Nat) (hp : p < 4503599627370496) (hc : c < 4096) : bits .or .u64 (p : Int) ((c * 4503599627370496 : Nat) : Int) = ((c * 4503599627370496 + p : Nat) : Int) := by
  have h := u64_or_nat p (c * 4503599627370496) (by omega) (by omega)
  rw [h, Nat.or_comm, nat_join 52 (c * 4503599627370496) p (by omega) (by omega)]
theorem xor_low (b : Nat) (h : b < 9223372036854775808) : b ^^^ 2 ^ 63 = b + 9223372036854775808 := by
  have h1 : b ||| 2 ^ 63 = b + 9223372036854775808 := by
    rw [Nat.or_comm, nat_join 63 (2 ^ 63) b (by decide) (by omega)]; omega
  rw [← h1]
  apply Nat.eq_of_testBit_eq
  intro i
  rw [Nat.testBit_xor, Nat.testBit_or]
  by_cases hi : i = 63
  · subst hi
    rw [Nat.testBit_lt_two_pow (by omega)]; simp
  · rw [Nat.testBit_two_pow_of_ne (Ne.symm hi)]; simp
theorem neg_pos_ (b : Nat) (h : b < 9223372036854775808) : Op.negFloat .f64 b = b + 9223372036854775808 := by
  show b ^^^ 2 ^ 63 = _
  exact xor_low b h
theorem neg_neg_ (b : Nat) (h : 9223372036854775808 ≤ b) (hb : b < 18446744073709551616) : Op.negFloat .f64 b = b - 9223372036854775808 := by
  show b ^^^ 2 ^ 63 = _
  obtain ⟨c, rfl⟩ : ∃ c, b = c + 9223372036854775808 := ⟨b - 9223372036854775808, by omega⟩
  rw [← xor_low c (by omega), Nat.xor_assoc, Nat.xor_self, Nat.xor_zero, xor_low c (by omega)]
  omega
theorem run_neg_float (b : Nat) (w : World) : (Op.unary .neg (.float .f64 b)).run Try.prog w = .ok (.float .f64 (Op.negFloat .f64 b)) w := rfl
theorem bits_of (b : Nat) (w : World) : (callFunc 57 #[.float .f64 b]).run Try.prog w = .ok (.value (.int .u64 b)) w := by
  rw [run_callFunc_extern (e := Extern.MathFloatBits.float64bits) Try.func57 (by kernel_rfl) (by kernel_rfl) (by kernel_rfl) (by kernel_rfl)]
  rfl
theorem of_bits (n : Int) (w : World) : (callFunc 88 #[.int .u64 n]).run Try.prog w = .ok (.value (.float .f64 n.toNat)) w := by
  rw [run_callFunc_extern (e := Extern.MathFloatBits.float64frombits) Try.func88 (by kernel_rfl) (by kernel_rfl) (by kernel_rfl) (by kernel_rfl)]
  rfl
attribute [local go_sem] bits_of of_bits
theorem fl_Abs (b : Nat) (hb : b < 18446744073709551616) (w : World) : Calls Try.prog 69 #[.float .f64 b] w (Ret (.float .f64 (b % 9223372036854775808)) (· = w)) := by
  go_enter Try.func69, Try.ntmps69
  go_wp2_with fail
  rw [bit_abs b hb, Int.toNat_natCast]
  go_ret
  exact ⟨rfl, rfl⟩
theorem fl_IsNaN (b : Nat) (w : World) : Calls Try.prog 99 #[.float .f64 b] w (Ret (.bool (Ieee.double.order b b != some .eq)) (· = w)) := by
  go_enter Try.func99, Try.ntmps99
  go_wp2_with fail
  go_ret
  exact ⟨rfl, rfl⟩
theorem f64_order (x y : Nat) : FloatKind.f64.format.order x y = Ieee.double.order x y := rfl
theorem fl_IsInf (b : Nat) (hb : b < 18446744073709551616) (hn : b % 9223372036854775808 ≤ 9218868437227405312) (w : World) : Calls Try.prog 58 #[.float .f64 b, .int .i64 0] w (Ret (.bool (b % 9223372036854775808 == 9218868437227405312)) (· = w)) := by
  go_enter Try.func58, Try.ntmps58
  go_wp2_with fail
  refine (fl_Abs b hb w).mono ?_; rintro e w1 ⟨rfl, rfl⟩
  go_wp2_with fail
  rw [f64_order, order_key _ _ (by omega) (by decide), show fkey 9218868437227405311 = 9218868437227405311 from by decide, fkey, show b % 9223372036854775808 / 9223372036854775808 = 0 from by omega, Nat.mod_mod]
  generalize b % 9223372036854775808 = r at *
  go_ret
  refine ⟨?_, rfl⟩
  by_cases h : r = 9218868437227405312
  · subst h; rfl
  · have h1 : (r == 9218868437227405312) = false := by simpa using h
    rw [h1]
    rcases Nat.lt_or_eq_of_le (show r ≤ 9218868437227405311 by omega) with h2 | h2
    · rw [cmp_lt (by simp; omega)]; rfl
    · subst h2; rfl
theorem fl_IsInfN (b : Nat) (hb : b < 18446744073709551616) (hn : b % 9223372036854775808 ≤ 9218868437227405312) (w : World) : Calls Try.prog 58 #[.float .f64 b, .int .i64 (-1)] w (Ret (.bool (b == 18442240474082181120)) (· = w)) := by
  have hneg := fun W => run_neg_float b W
  go_enter Try.func58, Try.ntmps58
  go_wp2_with fail
  go_ret
  refine ⟨?_, rfl⟩
  rw [f64_order]
  rcases Nat.lt_or_ge b 9223372036854775808 with h | h
  · rw [neg_pos_ b h, order_key _ _ (by omega) (by decide), show fkey 9218868437227405311 = 9218868437227405311 from by decide, fkey, show (b + 9223372036854775808) / 9223372036854775808 = 1 from by omega, cmp_lt (by simp; omega)]
    have h1 : (b == 18442240474082181120) = false := by simp; omega
    rw [h1]; rfl
  · rw [neg_neg_ b h hb, order_key _ _ (by omega) (by decide), show fkey 9218868437227405311 = 9218868437227405311 from by decide, fkey, show (b - 9223372036854775808) / 9223372036854775808 = 0 from by omega, show (b - 9223372036854775808) % 9223372036854775808 = b - 9223372036854775808 from by omega]
    by_cases h2 : b = 18442240474082181120
    · subst h2; rfl
    · have h1 : (b == 18442240474082181120) = false := by simpa using h2
      rw [h1]
      rcases Nat.lt_or_eq_of_le (show b ≤ 18442240474082181119 by omega) with h3 | h3
      · rw [cmp_lt (by simp; omega)]; rfl
      · subst h3; rfl
theorem fl_IsInfP (b : Nat) (hb : b < 18446744073709551616) (hn : b % 9223372036854775808 ≤ 9218868437227405312) (w : World) : Calls Try.prog 58 #[.float .f64 b, .int .i64 1] w (Ret (.bool (b == 9218868437227405312)) (· = w)) := by
  go_enter Try.func58, Try.ntmps58
  go_wp2_with fail
  go_ret
  refine ⟨?_, rfl⟩
  rw [f64_order, order_key _ _ (by omega) (by decide), show fkey 9218868437227405311 = 9218868437227405311 from by decide, fkey]
  by_cases h2 : b = 9218868437227405312
  · subst h2; rfl
  · have h1 : (b == 9218868437227405312) = false := by simpa using h2
    rw [h1]
    by_cases h3 : b = 9218868437227405311
    · subst h3; rfl
    · rw [cmp_lt (by split <;> simp_all <;> omega)]; rfl
/-- What a float is. -/
def classOf (b : Nat) : Int :=
  if 9218868437227405312 < b % 9223372036854775808 then 0
  else if b = 0 then 4
  else if b = 9223372036854775808 then 3
  else if b = 18442240474082181120 then 1
  else if b = 9218868437227405312 then 6
  else if 9223372036854775808 ≤ b then 2 else 5
theorem fl_Class (b : Nat) (hb : b < 18446744073709551616) (w : World) : Calls Try.prog 47 #[.float .f64 b] w (Ret (.int .i64 (classOf b)) (· = w)) := by
  by_cases hn : 9218868437227405312 < b % 9223372036854775808
  · have hc : classOf b = 0 := by rw [classOf, if_pos hn]
    rw [hc]
    have ho := order_nan_l b b hn
    rw [← f64_order] at ho
    go_enter Try.func47, Try.ntmps47
    go_wp2_with fail
    go_ret
    exact ⟨rfl, rfl⟩
  have hn' : b % 9223372036854775808 ≤ 9218868437227405312 := by omega
  have ho : FloatKind.f64.format.order b b = some .eq := by
    rw [f64_order, order_key b b hn' hn']; simp [compare, compareOfLessAndEq]
  by_cases h0 : b = 0
  · subst h0
    go_enter Try.func47, Try.ntmps47
    go_wp2_with fail
    go_ret
    exact ⟨rfl, rfl⟩
  have h0' : ((b : Int) == 0) = false := by simp; omega
  by_cases h1 : b = 9223372036854775808
  · subst h1
    go_enter Try.func47, Try.ntmps47
    go_wp2_with fail
    go_ret
    exact ⟨rfl, rfl⟩
  have h1' : ((b : Int) == 9223372036854775808) = false := by simp; omega
  by_cases h2 : b = 18442240474082181120
  · subst h2
    go_enter Try.func47, Try.ntmps47
    go_wp2_with fail
    refine (fl_IsInfN _ hb hn' w).mono ?_; rintro e w1 ⟨rfl, rfl⟩
    go_wp2_with fail
    go_ret
    exact ⟨rfl, rfl⟩
  have h2' : (b == 18442240474082181120) = false := by simpa using h2
  by_cases h3 : b = 9218868437227405312
  · subst h3
    go_enter Try.func47, Try.ntmps47
    go_wp2_with fail
    refine (fl_IsInfN _ hb hn' w).mono ?_; rintro e w1 ⟨rfl, rfl⟩
    go_wp2_with fail
    refine (fl_IsInfP _ hb hn' w1).mono ?_; rintro e w2 ⟨rfl, rfl⟩
    go_wp2_with fail
    go_ret
    exact ⟨rfl, rfl⟩
  have h3' : (b == 9218868437227405312) = false := by simpa using h3
  have hc : classOf b = if 9223372036854775808 ≤ b then 2 else 5 := by rw [classOf, if_neg hn, if_neg h0, if_neg h1, if_neg h2, if_neg h3]
  have hz : FloatKind.f64.format.order b 0 = some (if 9223372036854775808 ≤ b then .lt else .gt) := by
    rw [f64_order, order_key b 0 hn' (by decide), show fkey 0 = 0 from by decide, fkey]
    by_cases h4 : 9223372036854775808 ≤ b
    · rw [if_pos h4, show b / 9223372036854775808 = 1 from by omega, cmp_lt (by simp; omega)]
    · rw [if_neg h4, show b / 9223372036854775808 = 0 from by omega, cmp_gt (by simp; omega)]
  rw [hc]
  clear hc
  by_cases h4 : 9223372036854775808 ≤ b
  · rw [if_pos h4] at hz ⊢
    go_enter Try.func47, Try.ntmps47
    go_wp2_with fail
    refine (fl_IsInfN _ hb hn' w).mono ?_; rintro e w1 ⟨rfl, rfl⟩
    rw [h2']
    go_wp2_with fail
    refine (fl_IsInfP _ hb hn' w1).mono ?_; rintro e w2 ⟨rfl, rfl⟩
    rw [h3']
    go_wp2_with fail
    go_ret
    exact ⟨rfl, rfl⟩
  · rw [if_neg h4] at hz ⊢
    go_enter Try.func47, Try.ntmps47
    go_wp2_with fail
    refine (fl_IsInfN _ hb hn' w).mono ?_; rintro e w1 ⟨rfl, rfl⟩
    rw [h2']
    go_wp2_with fail
    refine (fl_IsInfP _ hb hn' w1).mono ?_; rintro e w2 ⟨rfl, rfl⟩
    rw [h3']
    go_wp2_with fail
    go_ret
    exact ⟨rfl, rfl⟩
end Go.Proofs.Ytjgbandmjamcaaa

/- Contracts: a float taken apart (Frexp) and put together (Ldexp); the greatest integer not above a product (Times). -/
import Derived.Test.YtjgbandmjamcaaaFl
namespace Go.Proofs.Ytjgbandmjamcaaa
open Go.RowKit

attribute [local go_sem] bits_of of_bits
theorem fl_normS (b : Nat) (h0 : 0 < b) (h1 : b < 4503599627370496) (w : World) : Calls Try.prog 100 #[.float .f64 b] w (Ret (.tuple #[.float .f64 (b.log2 * 4503599627370496 + b * 2 ^ (52 - b.log2)), .int .i64 (-52)]) (· = w)) := by
  have hlt : FloatKind.f64.format.order (b % 9223372036854775808) 4503599627370496 = some .lt := by
    rw [f64_order, order_key _ _ (by omega) (by decide), show fkey 4503599627370496 = 4503599627370496 from by decide, fkey, show b % 9223372036854775808 / 9223372036854775808 = 0 from by omega, cmp_lt (by simp; omega)]
  have hm := fun (W : World) => run_float_arith (P := Try.prog) W .mul 42 .f64 b 4841369599423283200 _ (mul_sub b h0 h1)
  go_enter Try.func100, Try.ntmps100
  go_wp2_with fail
  refine (fl_Abs b (by omega) w).mono ?_; rintro e w1 ⟨rfl, rfl⟩
  go_wp2_with fail
  go_ret2
  exact ⟨rfl, rfl⟩
theorem fl_normN (b : Nat) (h0 : 4503599627370496 ≤ b) (h1 : b < 9218868437227405312) (w : World) : Calls Try.prog 100 #[.float .f64 b] w (Ret (.tuple #[.float .f64 b, .int .i64 0]) (· = w)) := by
  have hge : FloatKind.f64.format.order (b % 9223372036854775808) 4503599627370496 ≠ some .lt := by
    rw [f64_order, order_key _ _ (by omega) (by decide), show fkey 4503599627370496 = 4503599627370496 from by decide, fkey, show b % 9223372036854775808 / 9223372036854775808 = 0 from by omega]
    rcases Nat.lt_or_eq_of_le h0 with h | h
    · rw [cmp_gt (by simp; omega)]; decide
    · subst h; decide
  have hge' : (FloatKind.f64.format.order (b % 9223372036854775808) 4503599627370496 == some .lt) = false := by simpa using hge
  clear hge
  go_enter Try.func100, Try.ntmps100
  go_wp2_with fail
  refine (fl_Abs b (by omega) w).mono ?_; rintro e w1 ⟨rfl, rfl⟩
  go_wp2_with fail
  go_ret2
  exact ⟨rfl, rfl⟩
def fP (b : Nat) : Nat := if b < 4503599627370496 then b * 2 ^ (52 - b.log2) - 4503599627370496 else b % 4503599627370496
def fX (b : Nat) : Int := if b < 4503599627370496 then (b.log2 : Int) - 1073 else ((b / 4503599627370496 : Nat) : Int) - 1022
theorem fl_frexpZ (b : Nat) (h : b = 0 ∨ b = 9223372036854775808) (w : World) : Calls Try.prog 90 #[.float .f64 b] w (Ret (.tuple #[.float .f64 b, .int .i64 0]) (· = w)) := by
  have ho : FloatKind.f64.format.order b 0 = some .eq := by
    rcases h with rfl | rfl <;> decide
  go_enter Try.func90, Try.ntmps90
  go_wp2_with fail
  go_ret2
  exact ⟨rfl, rfl⟩
theorem fl_parts (b : Nat) (h0 : 0 < b) (h1 : b < 9218868437227405312) : ∃ (X E : Nat) (k : Int), X = E * 4503599627370496 + fP b ∧ fP b < 4503599627370496 ∧ 1 ≤ E ∧ E ≤ 2046 ∧ -52 ≤ k ∧ k ≤ 0 ∧ fX b = k + E - 1022 ∧
    ∀ w, Calls Try.prog 100 #[.float .f64 b] w (Ret (.tuple #[.float .f64 X, .int .i64 k]) (· = w)) := by
  by_cases hs : b < 4503599627370496
  · obtain ⟨p, hp, hpe⟩ := sub_norm b h0 hs
    have hl : b.log2 < 52 := (Nat.log2_lt (by omega)).2 hs
    have hP : fP b = p := by unfold fP; rw [if_pos hs, hpe]; omega
    have hX : fX b = (b.log2 : Int) - 1073 := by unfold fX; rw [if_pos hs]
    refine ⟨b.log2 * 4503599627370496 + b * 2 ^ (52 - b.log2), b.log2 + 1, -52, by rw [hpe, hP]; omega, by omega, by omega, by omega, by omega, by omega, by omega, fun w => fl_normS b h0 hs w⟩
  · have hP : fP b = b % 4503599627370496 := by unfold fP; rw [if_neg hs]
    have hX : fX b = ((b / 4503599627370496 : Nat) : Int) - 1022 := by unfold fX; rw [if_neg hs]
    exact ⟨b, b / 4503599627370496, 0, by rw [hP]; omega, by rw [hP]; omega, by omega, by omega, by omega, by omega, by omega, fun w => fl_normN b (by omega) h1 w⟩
theorem bits_frac (X E p : Nat) (hX : X = E * 4503599627370496 + p) (hp : p < 4503599627370496) (hE : E ≤ 2046) : (bits .or .u64 (bits .andNot .u64 (X : Int) 9218868437227405312) 4602678819172646912).toNat = 4602678819172646912 + p := by
  have y2 := bit_clear X (by omega)
  have y3 := bit_join p 1022 hp (by decide)
  rw [show X % 4503599627370496 = p from by omega] at y2
  rw [show ((1022 * 4503599627370496 : Nat) : Int) = 4602678819172646912 from by decide, show 1022 * 4503599627370496 + p = 4602678819172646912 + p from by omega] at y3
  rw [y2, y3, Int.toNat_natCast]
theorem bits_exp (X E p : Nat) (hX : X = E * 4503599627370496 + p) (hp : p < 4503599627370496) (hE : E ≤ 2046) : bits .and .u64 ((X : Int) / 4503599627370496) 2047 = E := by
  have y := bit_2047 (X / 4503599627370496) (by omega)
  rw [show X / 4503599627370496 % 2048 = E from by omega] at y
  rw [← y]
  congr 1
theorem fl_frexpP (b : Nat) (h0 : 0 < b) (h1 : b < 9218868437227405312) (w : World) : Calls Try.prog 90 #[.float .f64 b] w (Ret (.tuple #[.float .f64 (4602678819172646912 + fP b), .int .i64 (fX b)]) (· = w)) := by
  have ho : (FloatKind.f64.format.order b 0 == some .eq) = false := by
    rw [f64_order, order_key b 0 (by omega) (by decide), show fkey 0 = 0 from by decide, fkey, show b / 9223372036854775808 = 0 from by omega, cmp_gt (by simp; omega)]; rfl
  have hi : (b % 9223372036854775808 == 9218868437227405312) = false := by simp; omega
  have hnn : (Ieee.double.order b b != some .eq) = false := by
    rw [order_key b b (by omega) (by omega)]; simp [compare, compareOfLessAndEq]
  obtain ⟨X, E, k, hX, hp, hE1, hE2, hk1, hk2, hfx, hc⟩ := fl_parts b h0 h1
  have HV := Lib.hid (bits_frac X E (fP b) hX hp hE2)
  have HE := Lib.hid (bits_exp X E (fP b) hX hp hE2)
  go_enter Try.func90, Try.ntmps90
  go_wp2_with fail
  refine (fl_IsInf b (by omega) (by omega) w).mono ?_; rintro e w1 ⟨rfl, rfl⟩
  rw [hi]
  go_wp2_with fail
  refine (fl_IsNaN b w1).mono ?_; rintro e w1 ⟨rfl, rfl⟩
  rw [hnn]
  go_wp2_with fail
  refine (hc w1).mono ?_; rintro e w2 ⟨rfl, rfl⟩
  have hXl : X < 9223372036854775808 := by omega
  clear hX hc
  go_wp2_with fail
  rw [HV.out, HE.out]
  have hz : wrap64 (k + wrap64 (wrap64 (wrap64 (E : Int) - 1023) + 1)) = fX b := by
    rw [hfx]; unfold wrap64; omega
  rw [hz]
  go_ret2
  exact ⟨rfl, rfl⟩
theorem fl_FrexpP (b : Nat) (h0 : 0 < b) (h1 : b < 9218868437227405312) (w : World) : Calls Try.prog 71 #[.float .f64 b] w (Ret (.tuple #[.float .f64 (4602678819172646912 + fP b), .int .i64 (fX b)]) (· = w)) := by
  go_enter Try.func71, Try.ntmps71
  go_wp2_with fail
  refine (fl_frexpP b h0 h1 w).mono ?_; rintro e w1 ⟨rfl, rfl⟩
  go_wp2_with fail
  go_ret2
  exact ⟨rfl, rfl⟩
theorem fl_FrexpZ (b : Nat) (h : b = 0 ∨ b = 9223372036854775808) (w : World) : Calls Try.prog 71 #[.float .f64 b] w (Ret (.tuple #[.float .f64 b, .int .i64 0]) (· = w)) := by
  go_enter Try.func71, Try.ntmps71
  go_wp2_with fail
  refine (fl_frexpZ b h w).mono ?_; rintro e w1 ⟨rfl, rfl⟩
  go_wp2_with fail
  go_ret2
  exact ⟨rfl, rfl⟩
theorem fl_ldexpZ (b : Nat) (h : b = 0 ∨ b = 9223372036854775808) (w : World) : Calls Try.prog 72 #[.float .f64 b, .int .i64 53] w (Ret (.float .f64 b) (· = w)) := by
  have ho : FloatKind.f64.format.order b 0 = some .eq := by
    rcases h with rfl | rfl <;> decide
  have h2 : Calls Try.prog 92 #[.float .f64 b, .int .i64 53] w (Ret (.float .f64 b) (· = w)) := by
    go_enter Try.func92, Try.ntmps92
    go_wp2_with fail
    go_ret
    exact ⟨rfl, rfl⟩
  go_enter Try.func72, Try.ntmps72
  go_wp2_with fail
  refine h2.mono ?_; rintro e w1 ⟨rfl, rfl⟩
  go_wp2_with fail
  go_ret
  exact ⟨rfl, rfl⟩
theorem fl_ldexpP (p : Nat) (hp : p < 4503599627370496) (w : World) : Calls Try.prog 72 #[.float .f64 (4602678819172646912 + p), .int .i64 53] w (Ret (.float .f64 (4841369599423283200 + p)) (· = w)) := by
  have h2 : Calls Try.prog 92 #[.float .f64 (4602678819172646912 + p), .int .i64 53] w (Ret (.float .f64 (4841369599423283200 + p)) (· = w)) := by
    obtain ⟨b, hb⟩ : ∃ b, b = 4602678819172646912 + p := ⟨_, rfl⟩
    rw [← hb]
    have ho : (FloatKind.f64.format.order b 0 == some .eq) = false := by
      rw [f64_order, order_key b 0 (by omega) (by decide), show fkey 0 = 0 from by decide, fkey, show b / 9223372036854775808 = 0 from by omega, cmp_gt (by simp; omega)]; rfl
    have hi : (b % 9223372036854775808 == 9218868437227405312) = false := by simp; omega
    have hnn : (Ieee.double.order b b != some .eq) = false := by
      rw [order_key b b (by omega) (by omega)]; simp [compare, compareOfLessAndEq]
    have hnorm := fl_normN b (by omega) (by omega)
    have hm := fun (W : World) => run_float_arith (P := Try.prog) W .mul 42 .f64 4607182418800017408 (4841369599423283200 + p) _ (mul_one_ p hp)
    have y2 := bit_clear b (by omega)
    rw [show b % 4503599627370496 = p from by omega] at y2
    have y3 := bit_join p 1075 hp (by decide)
    rw [show 1075 * 4503599627370496 + p = 4841369599423283200 + p from by omega] at y3
    have Y2 := Lib.hid y2
    have Y3 := Lib.hid y3
    have HB := Lib.hid hb
    have q1 : (b : Int) / 4503599627370496 = 1022 := by omega
    have q2 : bits .and .i64 1022 2047 = 1022 := by decide
    rw [show ((1075 * 4503599627370496 : Nat) : Int) = 4841369599423283200 from by decide] at y3
    clear hb
    clear Y2 Y3
    go_enter Try.func92, Try.ntmps92
    go_wp2_with fail
    refine (fl_IsInf b (by have := HB.out; omega) (by have := HB.out; omega) w).mono ?_; rintro e w1 ⟨rfl, rfl⟩
    rw [hi]
    go_wp2_with fail
    refine (fl_IsNaN b w1).mono ?_; rintro e w1 ⟨rfl, rfl⟩
    rw [hnn]
    go_wp2_with fail
    refine (hnorm w1).mono ?_; rintro e w2 ⟨rfl, rfl⟩
    go_wp2_with fail
    go_ret
    exact ⟨rfl, rfl⟩
  go_enter Try.func72, Try.ntmps72
  go_wp2_with fail
  refine h2.mono ?_; rintro e w1 ⟨rfl, rfl⟩
  go_wp2_with fail
  go_ret
  exact ⟨rfl, rfl⟩
theorem nm_size (n : Int) (h1 : -9223372036854775808 ≤ n) (h2 : n ≤ 9223372036854775807) (w : World) : Calls Try.prog 74 #[.int .i64 n] w (Ret (.int .u64 n.natAbs) (· = w)) := by
  by_cases hn : n < 0
  · go_enter Try.func74, Try.ntmps74
    go_wp2_with fail
    rw [show IntKind.u64.wrap (-IntKind.u64.wrap n) = (n.natAbs : Int) from by rw [IntKind.wrap_u64, IntKind.wrap_u64]; omega]
    go_ret
    exact ⟨rfl, rfl⟩
  · have e : (n.natAbs : Int) = n := by omega
    rw [e]
    go_enter Try.func74, Try.ntmps74
    go_wp2_with fail
    go_ret
    exact ⟨rfl, rfl⟩
theorem nm_signedN (q : Nat) (hq : q ≤ 9223372036854775808) (w : World) : Calls Try.prog 76 #[.bool true, .int .u64 q] w (Ret (.tuple #[.int .i64 (-(q : Int)), .int .i64 0]) (· = w)) := by
  have e : wrap64 (-wrap64 q) = -(q : Int) := by unfold wrap64; omega
  have E := Lib.hid e
  have hq' : (q : Int) ≤ 9223372036854775808 := by omega
  clear e
  go_enter Try.func76, Try.ntmps76
  go_wp2_with fail
  rw [E.out]
  go_ret2
  exact ⟨rfl, rfl⟩
set_option maxRecDepth 100000 in
theorem nm_signedP (q : Nat) (hq : q < 9223372036854775808) (w : World) : Calls Try.prog 76 #[.bool false, .int .u64 q] w (Ret (.tuple #[.int .i64 q, .int .i64 0]) (· = w)) := by
  have e : wrap64 q = (q : Int) := by unfold wrap64; omega
  have E := Lib.hid e
  have hq' : (q : Int) < 9223372036854775808 := by omega
  clear e
  go_enter Try.func76, Try.ntmps76
  go_wp2_with fail
  go_ret2
  exact ⟨rfl, rfl⟩
theorem bne_cast (n : Nat) : ((n : Int) != 0) = (n != 0) := by
  cases n with
  | zero => rfl
  | succ k =>
    have h1 : (((k + 1 : Nat) : Int) != 0) = true := by simp only [bne_iff_ne, ne_eq]; omega
    rw [h1]; rfl
theorem down_hi (hi lo by_ : Nat) (h2 : lo < 18446744073709551616) (c : 64 < by_) : ((hi : Int) / 2 ^ (by_ - 64)) = (((hi * 18446744073709551616 + lo) / 2 ^ by_ : Nat) : Int) := by
  obtain ⟨s, rfl⟩ : ∃ s, by_ = 64 + s := ⟨by_ - 64, by omega⟩
  rw [Nat.pow_add, ← Nat.div_div_eq_div_mul, show (hi * 18446744073709551616 + lo) / 2 ^ 64 = hi from by omega, Nat.add_sub_cancel_left, Int.natCast_ediv, Int.natCast_pow]
  rfl
theorem wrap_shl (x a b c : Nat) (hc : c = a + b) (h64 : c = 64) : IntKind.u64.wrap ((x : Int) * 2 ^ b) = ((x % 2 ^ a * 2 ^ b : Nat) : Int) := by
  have e : ((x : Int) * 2 ^ b) = ((x * 2 ^ b : Nat) : Int) := by rw [Int.natCast_mul, Int.natCast_pow]; rfl
  have e2 : (2 : Nat) ^ a * 2 ^ b = 18446744073709551616 := by rw [← Nat.pow_add, ← hc, h64]
  rw [e, IntKind.wrap_u64, show (18446744073709551616 : Int) = ((2 ^ a * 2 ^ b : Nat) : Int) from by rw [e2]; rfl, ← Int.natCast_emod, Nat.mul_mod_mul_right]
theorem down_rest (hi lo by_ : Nat) (c : 64 < by_) (c' : by_ < 128) (h2 : lo < 18446744073709551616) :
    (¬ IntKind.u64.wrap ((hi : Int) * 2 ^ (128 - by_)) = 0 → ((hi * 18446744073709551616 + lo) % 2 ^ by_ != 0) = true) ∧ (IntKind.u64.wrap ((hi : Int) * 2 ^ (128 - by_)) = 0 → ((hi * 18446744073709551616 + lo) % 2 ^ by_ != 0) = ((lo : Int) != 0)) := by
  obtain ⟨s, rfl⟩ : ∃ s, by_ = 64 + s := ⟨by_ - 64, by omega⟩
  have hp : 0 < 2 ^ (64 - s) := Nat.two_pow_pos _
  rw [show 128 - (64 + s) = 64 - s from by omega, wrap_shl hi s (64 - s) 64 (by omega) rfl, Nat.pow_add, Nat.mod_mul, show (hi * 18446744073709551616 + lo) / 2 ^ 64 = hi from by omega, show (hi * 18446744073709551616 + lo) % 2 ^ 64 = lo from by omega]
  constructor
  · intro h
    have h3 : hi % 2 ^ s ≠ 0 := by
      intro h0; rw [h0] at h; simp at h
    simp only [bne_iff_ne, ne_eq]
    omega
  · intro h
    have h3 : hi % 2 ^ s * 2 ^ (64 - s) = 0 := by omega
    have h4 : hi % 2 ^ s = 0 := by
      rcases Nat.mul_eq_zero.1 h3 with h | h
      · exact h
      · omega
    rw [h4, Nat.mul_zero, Nat.add_zero, bne_cast]
theorem down_low (hi lo by_ : Nat) (h3 : 0 < by_) (c : by_ < 64) (_ : hi < 18446744073709551616) (h2 : lo < 18446744073709551616) (h4 : (hi * 18446744073709551616 + lo) / 2 ^ by_ < 18446744073709551616) :
    bits .or .u64 ((lo : Int) / 2 ^ by_) (IntKind.u64.wrap ((hi : Int) * 2 ^ (64 - by_))) = (((hi * 18446744073709551616 + lo) / 2 ^ by_ : Nat) : Int) ∧ (IntKind.u64.wrap ((lo : Int) * 2 ^ (64 - by_)) != 0) = ((hi * 18446744073709551616 + lo) % 2 ^ by_ != 0) ∧ ((hi : Int) / 2 ^ by_ == 0) = true := by
  have e2 : (2 : Nat) ^ by_ * 2 ^ (64 - by_) = 18446744073709551616 := by rw [← Nat.pow_add, show by_ + (64 - by_) = 64 from by omega]
  have hp : 0 < 2 ^ (64 - by_) := Nat.two_pow_pos _
  have hq : 0 < 2 ^ by_ := Nat.two_pow_pos _
  have hP : hi * 18446744073709551616 + lo = lo + 2 ^ by_ * (hi * 2 ^ (64 - by_)) := by
    rw [Nat.mul_left_comm, e2]; omega
  have hd : (hi * 18446744073709551616 + lo) / 2 ^ by_ = lo / 2 ^ by_ + hi * 2 ^ (64 - by_) := by
    rw [hP, Nat.add_mul_div_left _ _ hq]
  have hm : (hi * 18446744073709551616 + lo) % 2 ^ by_ = lo % 2 ^ by_ := by
    rw [hP, Nat.add_mul_mod_self_left]
  have h4' : hi * 2 ^ (64 - by_) < 18446744073709551616 := by
    rw [hd] at h4; exact Nat.lt_of_le_of_lt (Nat.le_add_left _ _) h4
  have hhi : hi < 2 ^ by_ := by
    refine Nat.lt_of_mul_lt_mul_right (a := 2 ^ (64 - by_)) ?_
    rw [e2]
    exact h4'
  have hlo : lo / 2 ^ by_ < 2 ^ (64 - by_) := by
    rw [Nat.div_lt_iff_lt_mul hq, Nat.mul_comm, e2]; exact h2
  have hc : ((lo : Int) / 2 ^ by_) = ((lo / 2 ^ by_ : Nat) : Int) := by rw [Int.natCast_ediv, Int.natCast_pow]; rfl
  have hc2 : ((hi : Int) / 2 ^ by_) = ((hi / 2 ^ by_ : Nat) : Int) := by rw [Int.natCast_ediv, Int.natCast_pow]; rfl
  refine ⟨?_, ?_, ?_⟩
  · rw [wrap_shl hi by_ (64 - by_) 64 (by omega) rfl, hc, Nat.mod_eq_of_lt hhi, u64_or_nat _ _ (Nat.lt_of_le_of_lt (Nat.div_le_self _ _) h2) h4', Nat.or_comm, nat_join (64 - by_) _ _ (Nat.mul_mod_left _ _) hlo, hd, Nat.add_comm]
  · rw [wrap_shl lo by_ (64 - by_) 64 (by omega) rfl, hm]
    rw [bne_cast]
    have : (lo % 2 ^ by_ * 2 ^ (64 - by_) ≠ 0) ↔ (lo % 2 ^ by_ ≠ 0) := by
      constructor
      · intro h h0; rw [h0] at h; simp at h
      · intro h h0
        rcases Nat.mul_eq_zero.1 h0 with h' | h' <;> omega
    by_cases hz : lo % 2 ^ by_ = 0
    · rw [hz]; simp
    · rw [show (lo % 2 ^ by_ != 0) = true from by simpa using hz, show (lo % 2 ^ by_ * 2 ^ (64 - by_) != 0) = true from by simpa using this.2 hz]
  · rw [hc2, Nat.div_eq_of_lt hhi]; rfl
set_option maxRecDepth 100000 in
theorem nm_down (hi lo by_ : Nat) (h1 : hi < 18446744073709551616) (h2 : lo < 18446744073709551616) (h3 : 0 < by_) (h3' : by_ < 2000) (h4 : (hi * 18446744073709551616 + lo) / 2 ^ by_ < 18446744073709551616) (h5 : hi * 18446744073709551616 + lo ≠ 0) (w : World) :
    Calls Try.prog 77 #[.int .u64 hi, .int .u64 lo, .int .u64 by_] w (Ret (.tuple #[.int .u64 ((hi * 18446744073709551616 + lo) / 2 ^ by_ : Nat), .bool ((hi * 18446744073709551616 + lo) % 2 ^ by_ != 0), .bool true]) (· = w)) := by
  obtain ⟨Q, hQ⟩ : ∃ Q, Q = (hi * 18446744073709551616 + lo) / 2 ^ by_ := ⟨_, rfl⟩
  obtain ⟨R, hR⟩ : ∃ R, R = ((hi * 18446744073709551616 + lo) % 2 ^ by_ != 0) := ⟨_, rfl⟩
  rw [← hQ] at h4 ⊢
  rw [← hR]
  have HQ := Lib.hid hQ
  have HR := Lib.hid hR
  have H5 := Lib.hid h5
  clear hQ hR h5
  by_cases c1 : 128 ≤ by_
  · go_enter Try.func77, Try.ntmps77
    go_wp2_with fail
    go_ret3
    have e128 : (2 : Nat) ^ 128 = 340282366920938463463374607431768211456 := by decide
    have h6 : hi * 18446744073709551616 + lo < 2 ^ by_ := Nat.lt_of_lt_of_le (m := 2 ^ 128) (by omega) (Nat.pow_le_pow_right (by decide) c1)
    rw [HQ.out, HR.out, Nat.div_eq_of_lt h6, Nat.mod_eq_of_lt h6]
    have h7 : ((hi * 18446744073709551616 + lo != 0) = true) := by have := H5.out; simp only [bne_iff_ne, ne_eq]; omega
    rw [h7]
    exact ⟨rfl, rfl⟩
  by_cases c2 : 64 < by_
  · go_enter Try.func77, Try.ntmps77
    go_wp2_with fail
    all_goals rw [down_hi hi lo by_ h2 c2]
    · rename_i hz
      go_ret3
      rw [HQ.out, HR.out, (down_rest hi lo by_ c2 (by omega) h2).2 hz]
      exact ⟨rfl, rfl⟩
    · rename_i hz
      go_ret3
      rw [HQ.out, HR.out, (down_rest hi lo by_ c2 (by omega) h2).1 hz]
      exact ⟨rfl, rfl⟩
  by_cases c3 : by_ = 64
  · subst c3
    go_enter Try.func77, Try.ntmps77
    go_wp2_with fail
    go_ret3
    have e1 : (hi * 18446744073709551616 + lo) / 2 ^ 64 = hi := by omega
    have e2 : (hi * 18446744073709551616 + lo) % 2 ^ 64 = lo := by omega
    rw [HQ.out, HR.out, e1, e2]
    exact ⟨by rw [bne_cast]; rfl, rfl⟩
  go_enter Try.func77, Try.ntmps77
  have hlow := down_low hi lo by_ h3 (by omega) h1 h2 (by rw [← HQ.out]; exact h4)
  have LW := Lib.hid hlow
  clear hlow
  go_wp2_with fail
  rw [LW.out.1, LW.out.2.1, LW.out.2.2]
  go_ret3
  rw [HQ.out, HR.out]
  exact ⟨rfl, rfl⟩
end Go.Proofs.Ytjgbandmjamcaaa

/- Contracts: num.Times: the greatest integer not above a product, at rates from 0 to 1. -/
import Derived.Test.YtjgbandmjamcaaaFlB
import Derived.Test.YtjgbandmjamcaaaShelf
namespace Go.Proofs.Ytjgbandmjamcaaa
open Go.RowKit

/-- The greatest integer not above n times the float b (of a rate from 0 to 1). -/
def fK (b : Nat) : Nat := (53 - fX b).toNat
def timesF (n : Int) (b : Nat) : Int := if b = 0 ∨ b = 9223372036854775808 then 0 else n * ((4503599627370496 + fP b : Nat) : Int) / ((2 ^ fK b : Nat) : Int)
def isRate (b : Nat) : Prop := b = 0 ∨ b = 9223372036854775808 ∨ (0 < b ∧ b ≤ 4607182418800017408)
theorem rate_parts (b : Nat) (h0 : 0 < b) (h1 : b ≤ 4607182418800017408) : ∃ K p, fP b = p ∧ fK b = K ∧ p < 4503599627370496 ∧ fX b = 53 - (K : Int) ∧ 52 ≤ K ∧ K ≤ 1126 ∧ 4503599627370496 + p ≤ 2 ^ K := by
  obtain ⟨X, E, k, hX, hp, hE1, hE2, hk1, hk2, hfx, _⟩ := fl_parts b h0 (by omega)
  have hle : fX b ≤ 1 ∧ -1073 ≤ fX b ∧ (fX b = 1 → fP b = 0) := by
    unfold fX fP
    by_cases hs : b < 4503599627370496
    · rw [if_pos hs, if_pos hs]
      have hl : b.log2 < 52 := (Nat.log2_lt (by omega)).2 hs
      omega
    · rw [if_neg hs, if_neg hs]
      omega
  refine ⟨(53 - fX b).toNat, fP b, rfl, rfl, hp, by omega, by omega, by omega, ?_⟩
  have e52 : (2 : Nat) ^ 52 = 4503599627370496 := by decide
  have e53 : (2 : Nat) ^ 53 = 9007199254740992 := by decide
  by_cases h : fX b = 1
  · rw [h, show ((53 : Int) - 1).toNat = 52 from by decide, hle.2.2 h, e52]
    omega
  · have : 2 ^ 53 ≤ 2 ^ (53 - fX b).toNat := Nat.pow_le_pow_right (by decide) (by omega)
    omega
theorem neg_div_rest (a b : Nat) (hb : 0 < b) (h : a % b ≠ 0) : (-(a : Int)) / (b : Int) = -((a / b + 1 : Nat) : Int) := by
  have h1 := Nat.div_add_mod a b
  have h2 := Nat.mod_lt a hb
  have e : (a : Int) = (b : Int) * ((a / b : Nat) : Int) + ((a % b : Nat) : Int) := by rw [← Int.natCast_mul, ← Int.natCast_add, h1]
  have hu : (-(a : Int)) / (b : Int) = -((a / b + 1 : Nat) : Int) ∧ (-(a : Int)) % (b : Int) = (b : Int) - ((a % b : Nat) : Int) := by
    refine (Int.ediv_emod_unique (by omega)).2 ⟨?_, by omega, by omega⟩
    rw [Int.natCast_add, Int.mul_neg, Int.mul_add]
    omega
  exact hu.1
theorem neg_div_whole (a b : Nat) (hb : 0 < b) (h : a % b = 0) : (-(a : Int)) / (b : Int) = -((a / b : Nat) : Int) := by
  have h1 := Nat.div_add_mod a b
  rw [h, Nat.add_zero] at h1
  have e : (a : Int) = (b : Int) * ((a / b : Nat) : Int) := by rw [← Int.natCast_mul, h1]
  rw [e, ← Int.mul_neg, Int.mul_ediv_cancel_left _ (by omega)]
set_option maxHeartbeats 1000000 in
set_option maxRecDepth 100000 in
theorem nm_Times (n : Int) (b : Nat) (hn1 : -9223372036854775808 ≤ n) (hn2 : n ≤ 9223372036854775807) (hb : isRate b) (w : World) : Calls Try.prog 66 #[.int .i64 n, .float .f64 b] w (Ret (.tuple #[.int .i64 (timesF n b), .int .i64 0]) (· = w)) := by
  have hmul := fun x y hx hy w => Try.bits_Mul64 x y hx hy w
  by_cases hz : b = 0 ∨ b = 9223372036854775808
  · have hT : timesF n b = 0 := by unfold timesF; rw [if_pos hz]
    rw [hT]
    have hc : classOf b = 4 ∨ classOf b = 3 := by rcases hz with rfl | rfl <;> decide
    have hbl : b < 18446744073709551616 := by omega
    have hcv := fun (W : World) => run_convert_float_int (P := Try.prog) W 42 2 .f64 .i64 b 0 (by kernel_rfl) Try.underlying2 (by rcases hz with rfl | rfl; exact toInt_zero; exact toInt_nzero)
    rcases hc with hc | hc
    · go_enter Try.func66, Try.ntmps66
      go_wp2_with fail
      refine (fl_Class b hbl w).mono ?_; rintro e w1 ⟨rfl, rfl⟩
      rw [hc]
      go_wp2_with fail
      refine (fl_FrexpZ b hz w1).mono ?_; rintro e w2 ⟨rfl, rfl⟩
      go_wp2_with fail
      refine (fl_ldexpZ b hz w2).mono ?_; rintro e w3 ⟨rfl, rfl⟩
      go_wp2_with fail
      refine (nm_size n hn1 hn2 w3).mono ?_; rintro e w4 ⟨rfl, rfl⟩
      go_wp2_with fail
      refine (nm_size 0 (by decide) (by decide) w4).mono ?_; rintro e w5 ⟨rfl, rfl⟩
      go_wp2_with fail
      refine (hmul n.natAbs 0 (by omega) (by decide) w5).mono ?_; rintro e w6 ⟨rfl, rfl⟩
      rw [Nat.mul_zero]
      go_wp2_with fail
      go_ret2
      exact ⟨rfl, rfl⟩
    · go_enter Try.func66, Try.ntmps66
      go_wp2_with fail
      refine (fl_Class b hbl w).mono ?_; rintro e w1 ⟨rfl, rfl⟩
      rw [hc]
      go_wp2_with fail
      refine (fl_FrexpZ b hz w1).mono ?_; rintro e w2 ⟨rfl, rfl⟩
      go_wp2_with fail
      refine (fl_ldexpZ b hz w2).mono ?_; rintro e w3 ⟨rfl, rfl⟩
      go_wp2_with fail
      refine (nm_size n hn1 hn2 w3).mono ?_; rintro e w4 ⟨rfl, rfl⟩
      go_wp2_with fail
      refine (nm_size 0 (by decide) (by decide) w4).mono ?_; rintro e w5 ⟨rfl, rfl⟩
      go_wp2_with fail
      refine (hmul n.natAbs 0 (by omega) (by decide) w5).mono ?_; rintro e w6 ⟨rfl, rfl⟩
      rw [Nat.mul_zero]
      go_wp2_with fail
      go_ret2
      exact ⟨rfl, rfl⟩
  have hb' : 0 < b ∧ b ≤ 4607182418800017408 := by rcases hb with h | h | h; exact absurd (.inl h) hz; exact absurd (.inr h) hz; exact h
  obtain ⟨hb0, hb1⟩ := hb'
  have hT : timesF n b = n * ((4503599627370496 + fP b : Nat) : Int) / ((2 ^ fK b : Nat) : Int) := by unfold timesF; rw [if_neg hz]
  obtain ⟨K, p, hP, hK, hp, hX, hK1, hK2, hle⟩ := rate_parts b hb0 hb1
  have hc : classOf b = 5 := by
    unfold classOf
    rw [if_neg (by omega), if_neg (by omega), if_neg (by omega), if_neg (by omega), if_neg (by omega), if_neg (by omega)]
  have hfr := fl_FrexpP b hb0 (by omega)
  have hcl := fl_Class b (by omega)
  rw [hc] at hcl
  rw [hP, hX] at hfr
  rw [hP, hK] at hT
  have hcv := fun (W : World) => run_convert_float_int (P := Try.prog) W 42 2 .f64 .i64 _ _ (by kernel_rfl) Try.underlying2 (toInt_ p hp)
  clear hb hz hP hK hX hc
  by_cases hn : n = 0
  · subst hn
    have hT' : timesF 0 b = 0 := by rw [hT]; simp
    rw [hT']
    clear hT hle
    go_enter Try.func66, Try.ntmps66
    go_wp2_with fail
    refine (hcl w).mono ?_; rintro e w1 ⟨rfl, rfl⟩
    go_wp2_with fail
    refine (hfr w1).mono ?_; rintro e w2 ⟨rfl, rfl⟩
    go_wp2_with fail
    refine (fl_ldexpP p hp w2).mono ?_; rintro e w3 ⟨rfl, rfl⟩
    go_wp2_with fail
    refine (nm_size 0 hn1 hn2 w3).mono ?_; rintro e w4 ⟨rfl, rfl⟩
    go_wp2_with fail
    refine (nm_size (4503599627370496 + p) (by omega) (by omega) w4).mono ?_; rintro e w5 ⟨rfl, rfl⟩
    go_wp2_with fail
    refine (hmul 0 (4503599627370496 + p : Int).natAbs (by decide) (by omega) w5).mono ?_; rintro e w6 ⟨rfl, rfl⟩
    rw [Nat.zero_mul]
    go_wp2_with fail
    go_ret2
    exact ⟨rfl, rfl⟩
  obtain ⟨N, hN⟩ : ∃ N, N = n.natAbs := ⟨_, rfl⟩
  have hN0 : 0 < N := by omega
  have hNl : N ≤ 9223372036854775808 := by omega
  obtain ⟨m, hm⟩ : ∃ m, m = 4503599627370496 + p := ⟨_, rfl⟩
  obtain ⟨hi, lo, hhi, hlo, hhl, hll, hPs⟩ : ∃ hi lo, hi = N * m / 18446744073709551616 ∧ lo = N * m % 18446744073709551616 ∧ hi < 18446744073709551616 ∧ lo < 18446744073709551616 ∧ hi * 18446744073709551616 + lo = N * m := by
    refine ⟨_, _, rfl, rfl, ?_, Nat.mod_lt _ (by decide), by omega⟩
    rw [Nat.div_lt_iff_lt_mul (by decide)]
    calc N * m ≤ 9223372036854775808 * m := Nat.mul_le_mul_right _ hNl
      _ < 18446744073709551616 * 18446744073709551616 := by omega
  have hPne : N * m ≠ 0 := Nat.mul_ne_zero (by omega) (by omega)
  have hqN : N * m / 2 ^ K ≤ N := by
    have hq : 0 < 2 ^ K := Nat.two_pow_pos _
    calc N * m / 2 ^ K ≤ N * 2 ^ K / 2 ^ K := Nat.div_le_div_right (Nat.mul_le_mul_left _ (by omega))
      _ = N := Nat.mul_div_cancel _ hq
  have hdown := nm_down hi lo K hhl hll (by omega) (by omega) (by rw [hPs]; omega) (by rw [hPs]; exact hPne)
  rw [hPs] at hdown
  have hsz1 := nm_size n hn1 hn2
  have hsz2 := nm_size (4503599627370496 + p) (by omega) (by omega)
  rw [← hN] at hsz1
  rw [show (4503599627370496 + (p : Int)).natAbs = m from by omega] at hsz2
  have hml := hmul N m (by omega) (by omega)
  rw [← hhi, ← hlo] at hml
  have hzz : ¬ (hi = 0 ∧ lo = 0) := by intro h; rw [h.1, h.2] at hPs; omega
  have HN := Lib.hid hN
  have HT := Lib.hid hT
  have HM := Lib.hid hm
  have HL : Hid (m ≤ 2 ^ K) := Lib.hid (by omega)
  clear hhi hlo hPs hPne hmul hm hN hle hT
  obtain ⟨Q, hQ⟩ : ∃ Q, Q = N * m / 2 ^ K := ⟨_, rfl⟩
  obtain ⟨R, hR⟩ : ∃ R, R = (N * m % 2 ^ K != 0) := ⟨_, rfl⟩
  rw [← hQ] at hdown hqN
  rw [← hR] at hdown
  have HQ := Lib.hid hQ
  have HR := Lib.hid hR
  clear hQ hR
  by_cases hneg : n < 0
  · cases R with
    | true =>
      have hQl : Q < 9223372036854775808 := by
        have h1 : N * m % 2 ^ K ≠ 0 := by simpa using HR.out.symm
        have h2 : Q * 2 ^ K + N * m % 2 ^ K = N * m := by rw [HQ.out, Nat.mul_comm]; exact Nat.div_add_mod _ _
        have h3 : N * m ≤ N * 2 ^ K := Nat.mul_le_mul_left _ HL.out
        have h4 : Q * 2 ^ K < N * 2 ^ K := by omega
        have h5 : Q < N := Nat.lt_of_mul_lt_mul_right h4
        omega
      have hfin : timesF n b = -((Q + 1 : Nat) : Int) := by
        have h1 : N * m % 2 ^ K ≠ 0 := by simpa using HR.out.symm
        rw [HT.out, HQ.out, ← HM.out, show n = -(N : Int) from by have := HN.out; omega, Int.neg_mul, ← Int.natCast_mul]
        exact neg_div_rest _ _ (Nat.two_pow_pos _) h1
      have hff : ∀ x : Int, x = -((Q + 1 : Nat) : Int) → timesF n b = x := fun x hx => by rw [hfin, hx]
      have hq1' : ∀ _ : Unit, (Q : Int) < 9223372036854775808 := fun _ => by omega
      have hq2 : Q + 1 ≤ 9223372036854775808 := by omega
      have hq3 : ∀ _ : Unit, Q + 1 ≤ 9223372036854775808 := fun _ => hq2
      clear hfin hQl hq2 hqN hNl HR
      by_cases hh : hi = 0
      · subst hh
        have hlz : ¬ lo = 0 := by omega
        go_enter Try.func66, Try.ntmps66
        go_wp2_with fail
        refine (hcl w).mono ?_; rintro e w1 ⟨rfl, rfl⟩
        go_wp2_with fail
        refine (hfr w1).mono ?_; rintro e w2 ⟨rfl, rfl⟩
        go_wp2_with fail
        refine (fl_ldexpP p hp w2).mono ?_; rintro e w3 ⟨rfl, rfl⟩
        go_wp2_with fail
        refine (hsz1 w3).mono ?_; rintro e w4 ⟨rfl, rfl⟩
        go_wp2_with fail
        refine (hsz2 w4).mono ?_; rintro e w5 ⟨rfl, rfl⟩
        go_wp2_with fail
        refine (hml w5).mono ?_; rintro e w6 ⟨rfl, rfl⟩
        go_wp2_with fail
        rw [show (-(53 - (K : Int) - 53)) = (K : Int) from by omega]
        refine (hdown w6).mono ?_; rintro e w7 ⟨rfl, rfl⟩
        have hd1 : decide (9223372036854775808 ≤ (Q : Int)) = false := by have := hq1' (); exact decide_eq_false (by omega)
        have hd2 : IntKind.u64.wrap ((Q : Int) + 1) = ((Q + 1 : Nat) : Int) := by have := hq1' (); rw [IntKind.wrap_u64]; omega
        have hd3 := Lib.hid hd2
        clear hd2
        go_wp2_with fail
        rw [hd3.out]
        refine (nm_signedN (Q + 1) (hq3 ()) w7).mono ?_; rintro e w8 ⟨rfl, rfl⟩
        go_wp2_with fail
        go_ret2
        rw [hff _ rfl]
        exact ⟨rfl, rfl⟩
      · have hh' : ((hi : Int) == 0) = false := by simp; omega
        go_enter Try.func66, Try.ntmps66
        go_wp2_with fail
        refine (hcl w).mono ?_; rintro e w1 ⟨rfl, rfl⟩
        go_wp2_with fail
        refine (hfr w1).mono ?_; rintro e w2 ⟨rfl, rfl⟩
        go_wp2_with fail
        refine (fl_ldexpP p hp w2).mono ?_; rintro e w3 ⟨rfl, rfl⟩
        go_wp2_with fail
        refine (hsz1 w3).mono ?_; rintro e w4 ⟨rfl, rfl⟩
        go_wp2_with fail
        refine (hsz2 w4).mono ?_; rintro e w5 ⟨rfl, rfl⟩
        go_wp2_with fail
        refine (hml w5).mono ?_; rintro e w6 ⟨rfl, rfl⟩
        go_wp2_with fail
        rw [show (-(53 - (K : Int) - 53)) = (K : Int) from by omega]
        refine (hdown w6).mono ?_; rintro e w7 ⟨rfl, rfl⟩
        have hd1 : decide (9223372036854775808 ≤ (Q : Int)) = false := by have := hq1' (); exact decide_eq_false (by omega)
        have hd2 : IntKind.u64.wrap ((Q : Int) + 1) = ((Q + 1 : Nat) : Int) := by have := hq1' (); rw [IntKind.wrap_u64]; omega
        have hd3 := Lib.hid hd2
        clear hd2
        go_wp2_with fail
        rw [hd3.out]
        refine (nm_signedN (Q + 1) (hq3 ()) w7).mono ?_; rintro e w8 ⟨rfl, rfl⟩
        go_wp2_with fail
        go_ret2
        rw [hff _ rfl]
        exact ⟨rfl, rfl⟩
    | false =>
      have hfin : timesF n b = -(Q : Int) := by
        have h1 : N * m % 2 ^ K = 0 := by simpa using HR.out.symm
        rw [HT.out, HQ.out, ← HM.out, show n = -(N : Int) from by have := HN.out; omega, Int.neg_mul, ← Int.natCast_mul]
        exact neg_div_whole _ _ (Nat.two_pow_pos _) h1
      have HF := Lib.hid hfin
      clear hfin
      by_cases hh : hi = 0
      · subst hh
        have hlz : ¬ lo = 0 := by omega
        go_enter Try.func66, Try.ntmps66
        go_wp2_with fail
        refine (hcl w).mono ?_; rintro e w1 ⟨rfl, rfl⟩
        go_wp2_with fail
        refine (hfr w1).mono ?_; rintro e w2 ⟨rfl, rfl⟩
        go_wp2_with fail
        refine (fl_ldexpP p hp w2).mono ?_; rintro e w3 ⟨rfl, rfl⟩
        go_wp2_with fail
        refine (hsz1 w3).mono ?_; rintro e w4 ⟨rfl, rfl⟩
        go_wp2_with fail
        refine (hsz2 w4).mono ?_; rintro e w5 ⟨rfl, rfl⟩
        go_wp2_with fail
        refine (hml w5).mono ?_; rintro e w6 ⟨rfl, rfl⟩
        go_wp2_with fail
        rw [show (-(53 - (K : Int) - 53)) = (K : Int) from by omega]
        refine (hdown w6).mono ?_; rintro e w7 ⟨rfl, rfl⟩
        go_wp2_with fail
        refine (nm_signedN Q (by omega) w7).mono ?_; rintro e w8 ⟨rfl, rfl⟩
        go_wp2_with fail
        go_ret2
        rw [HF.out]
        exact ⟨rfl, rfl⟩
      · have hh' : ((hi : Int) == 0) = false := by simp; omega
        go_enter Try.func66, Try.ntmps66
        go_wp2_with fail
        refine (hcl w).mono ?_; rintro e w1 ⟨rfl, rfl⟩
        go_wp2_with fail
        refine (hfr w1).mono ?_; rintro e w2 ⟨rfl, rfl⟩
        go_wp2_with fail
        refine (fl_ldexpP p hp w2).mono ?_; rintro e w3 ⟨rfl, rfl⟩
        go_wp2_with fail
        refine (hsz1 w3).mono ?_; rintro e w4 ⟨rfl, rfl⟩
        go_wp2_with fail
        refine (hsz2 w4).mono ?_; rintro e w5 ⟨rfl, rfl⟩
        go_wp2_with fail
        refine (hml w5).mono ?_; rintro e w6 ⟨rfl, rfl⟩
        go_wp2_with fail
        rw [show (-(53 - (K : Int) - 53)) = (K : Int) from by omega]
        refine (hdown w6).mono ?_; rintro e w7 ⟨rfl, rfl⟩
        go_wp2_with fail
        refine (nm_signedN Q (by omega) w7).mono ?_; rintro e w8 ⟨rfl, rfl⟩
        go_wp2_with fail
        go_ret2
        rw [HF.out]
        exact ⟨rfl, rfl⟩
  · have hnn : 0 ≤ n := by omega
    have hQl : Q < 9223372036854775808 := by have := HN.out; omega
    have hfin : timesF n b = Q := by
      rw [HT.out, HQ.out, ← HM.out, show n = (N : Int) from by have := HN.out; omega, ← Int.natCast_mul, ← Int.natCast_ediv]
    have HF := Lib.hid hfin
    clear hfin
    by_cases hh : hi = 0
    · subst hh
      have hlz : ¬ lo = 0 := by omega
      go_enter Try.func66, Try.ntmps66
      go_wp2_with fail
      refine (hcl w).mono ?_; rintro e w1 ⟨rfl, rfl⟩
      go_wp2_with fail
      refine (hfr w1).mono ?_; rintro e w2 ⟨rfl, rfl⟩
      go_wp2_with fail
      refine (fl_ldexpP p hp w2).mono ?_; rintro e w3 ⟨rfl, rfl⟩
      go_wp2_with fail
      refine (hsz1 w3).mono ?_; rintro e w4 ⟨rfl, rfl⟩
      go_wp2_with fail
      refine (hsz2 w4).mono ?_; rintro e w5 ⟨rfl, rfl⟩
      go_wp2_with fail
      refine (hml w5).mono ?_; rintro e w6 ⟨rfl, rfl⟩
      go_wp2_with fail
      rw [show (-(53 - (K : Int) - 53)) = (K : Int) from by omega]
      refine (hdown w6).mono ?_; rintro e w7 ⟨rfl, rfl⟩
      go_wp2_with fail
      refine (nm_signedP Q hQl w7).mono ?_; rintro e w8 ⟨rfl, rfl⟩
      go_wp2_with fail
      go_ret2
      rw [HF.out]
      exact ⟨rfl, rfl⟩
    · have hh' : ((hi : Int) == 0) = false := by simp; omega
      go_enter Try.func66, Try.ntmps66
      go_wp2_with fail
      refine (hcl w).mono ?_; rintro e w1 ⟨rfl, rfl⟩
      go_wp2_with fail
      refine (hfr w1).mono ?_; rintro e w2 ⟨rfl, rfl⟩
      go_wp2_with fail
      refine (fl_ldexpP p hp w2).mono ?_; rintro e w3 ⟨rfl, rfl⟩
      go_wp2_with fail
      refine (hsz1 w3).mono ?_; rintro e w4 ⟨rfl, rfl⟩
      go_wp2_with fail
      refine (hsz2 w4).mono ?_; rintro e w5 ⟨rfl, rfl⟩
      go_wp2_with fail
      refine (hml w5).mono ?_; rintro e w6 ⟨rfl, rfl⟩
      go_wp2_with fail
      rw [show (-(53 - (K : Int) - 53)) = (K : Int) from by omega]
      refine (hdown w6).mono ?_; rintro e w7 ⟨rfl, rfl⟩
      go_wp2_with fail
      refine (nm_signedP Q hQl w7).mono ?_; rintro e w8 ⟨rfl, rfl⟩
      go_wp2_with fail
      go_ret2
      rw [HF.out]
      exact ⟨rfl, rfl⟩
end Go.Proofs.Ytjgbandmjamcaaa

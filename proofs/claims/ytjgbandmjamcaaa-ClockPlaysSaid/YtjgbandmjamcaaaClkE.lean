/- Contracts: a clock of any rate; what the document takes for a rate. -/
import Derived.Test.YtjgbandmjamcaaaClkD
namespace Go.Proofs.Ytjgbandmjamcaaa
open Go.RowKit
attribute [local go_sem] bits_of

set_option maxRecDepth 100000 in
theorem ref_None (b : Nat) (_ : b < 18446744073709551616) (w : World) : Calls Try.prog 70 #[.float .f64 b] w (Ret (.bool (decide (9218868437227405312 < b % 9223372036854775808))) (· = w)) := by
  have t1 : IntKind.u64.wrap ((b : Int) * 2) = ((b % 9223372036854775808 * 2 : Nat) : Int) := by rw [IntKind.wrap_u64]; omega
  have c0 : decide ((18437736874454810624 : Int) < ((b % 9223372036854775808 * 2 : Nat) : Int)) = decide (9218868437227405312 < b % 9223372036854775808) := by
    rw [decide_eq_decide]; omega
  generalize decide (9218868437227405312 < b % 9223372036854775808) = p at *
  generalize b % 9223372036854775808 * 2 = R at *
  go_enter Try.func70, Try.ntmps70
  go_wp2_with fail
  go_ret
  exact ⟨rfl, rfl⟩
theorem clock_NewG (b : Nat) (hbl : b < 18446744073709551616) (hb : ¬ isRateC b) (w : World) : Calls Try.prog 18 #[.float .f64 b] w (Ret (.tuple #[.pointer none, .int .i64 60]) fun w' => w' = w) := by
  have hcl := fl_Class b hbl
  by_cases hc : classOf b < 3
  · generalize classOf b = cl at *
    go_enter Try.func18, Try.ntmps18
    go_wp2_with fail
    refine (hcl _).mono ?_; rintro e' w2 ⟨rfl, rfl⟩
    go_wp2_with fail
    go_ret2
    exact ⟨rfl, rfl⟩
  · have hbig : 4576918229304087675 < b ∧ b ≤ 9218868437227405312 := by
      unfold isRateC at hb
      unfold classOf at hc
      split at hc
      · omega
      · split at hc
        · omega
        · split at hc
          · omega
          · split at hc
            · omega
            · split at hc
              · omega
              · split at hc <;> omega
    have ho : (FloatKind.f64.format.order b 4576918229304087675 == some .gt) = true := by
      rw [f64_order, order_key b _ (by omega) (by decide), show fkey 4576918229304087675 = 4576918229304087675 from by decide, fkey, show b / 9223372036854775808 = 0 from by omega, cmp_gt (by simp; omega)]
      rfl
    have hc' : 3 ≤ classOf b := by omega
    clear hbig hbl hb hc
    generalize classOf b = cl at *
    go_enter Try.func18, Try.ntmps18
    go_wp2_with fail
    refine (hcl _).mono ?_; rintro e' w2 ⟨rfl, rfl⟩
    go_wp2_with fail
    go_ret2
    exact ⟨rfl, rfl⟩
theorem classOf_parts (b : Nat) (hb : b < 18446744073709551616) : classOf b =
    if decide (9218868437227405312 < b % 9223372036854775808) = true then 0 else if decide (b % 9223372036854775808 = 0) = true then (if decide (9223372036854775808 ≤ b) = true then 3 else 4)
    else if decide (b % 9223372036854775808 = 9218868437227405312) = true then (if decide (9223372036854775808 ≤ b) = true then 1 else 6) else if decide (9223372036854775808 ≤ b) = true then 2 else 5 := by
  unfold classOf
  simp only [decide_eq_true_eq]
  repeat' split
  all_goals first | rfl | omega
set_option maxRecDepth 100000 in
set_option maxHeartbeats 2000000 in
theorem ref_Class (b : Nat) (hb : b < 18446744073709551616) (w : World) : Calls Try.prog 59 #[.float .f64 b] w (Ret (.int .i64 (classOf b)) (· = w)) := by
  rw [classOf_parts b hb]
  have hno := fun w => ref_None b hb w
  have t1 : IntKind.u64.wrap ((b : Int) * 2) = ((b % 9223372036854775808 * 2 : Nat) : Int) := by rw [IntKind.wrap_u64]; omega
  have t2 : (((b : Int) / 9223372036854775808) == 1) = decide (9223372036854775808 ≤ b) := by
    rw [Bool.eq_iff_iff]; simp; omega
  have c1 : (((b % 9223372036854775808 * 2 : Nat) : Int) == 0) = decide (b % 9223372036854775808 = 0) := by
    rw [Bool.eq_iff_iff]; simp; omega
  have c2 : (((b % 9223372036854775808 * 2 : Nat) : Int) == 18437736874454810624) = decide (b % 9223372036854775808 = 9218868437227405312) := by
    rw [Bool.eq_iff_iff]; simp; omega
  generalize decide (9218868437227405312 < b % 9223372036854775808) = p0 at *
  generalize decide (b % 9223372036854775808 = 0) = p1 at *
  generalize decide (b % 9223372036854775808 = 9218868437227405312) = p2 at *
  generalize decide (9223372036854775808 ≤ b) = s at *
  generalize b % 9223372036854775808 * 2 = R at *
  clear hb
  have H := Lib.hid hno
  clear hno
  cases p0 <;> cases p1 <;> cases p2 <;> cases s
  all_goals
    simp only [if_true, if_false, Bool.false_eq_true]
    go_enter Try.func59, Try.ntmps59
    go_wp2_with fail
    refine (H.out _).mono ?_
    rintro e' w1 ⟨rfl, rfl⟩
    go_wp2_with fail
    go_ret
    exact ⟨rfl, rfl⟩
theorem rated_class (b : Nat) (hb : b < 18446744073709551616) : (classOf b = 3 ∨ classOf b = 4 ∨ (classOf b = 5 ∧ 0 < b ∧ b < 9218868437227405312)) ∨ ((classOf b == 3) = false ∧ (classOf b == 4) = false ∧ (classOf b == 5) = false ∧ ¬ isRateC b) := by
  unfold classOf isRateC
  repeat' split
  all_goals first | (left; omega) | (right; refine ⟨by decide, by decide, by decide, ?_⟩; omega)
theorem fkey_low (b : Nat) (h : b < 9223372036854775808) : fkey b = (b : Int) := by
  unfold fkey
  rw [Nat.div_eq_of_lt h, Nat.mod_eq_of_lt h]
  simp
theorem cmp_le (x y : Int) : (compare x y == Ordering.lt || compare x y == Ordering.eq) = decide (x ≤ y) := by
  simp only [compare, compareOfLessAndEq]
  by_cases h1 : x < y
  · rw [if_pos h1]; simp; omega
  · rw [if_neg h1]
    by_cases h2 : x = y
    · rw [if_pos h2]; simp; omega
    · rw [if_neg h2]; simp; omega
def rated5 (b : Nat) : Bool := decide (b = 0 ∨ b = 9223372036854775808 ∨ (0 < b ∧ b ≤ 4607182418800017408))
theorem rated5_order (b : Nat) (h0 : 0 < b) (h1 : b < 9218868437227405312) : ∃ o : Ordering, FloatKind.f64.format.order b 4607182418800017408 = some o ∧ (o == Ordering.lt || o == Ordering.eq) = rated5 b := by
  refine ⟨compare (b : Int) 4607182418800017408, ?_, ?_⟩
  · rw [f64_order, order_key b _ (by omega) (by decide), show fkey 4607182418800017408 = 4607182418800017408 from by decide, fkey_low b (by omega)]
  · rw [cmp_le]
    unfold rated5
    rw [decide_eq_decide]
    omega
theorem classOf_3 {b : Nat} (h : classOf b = 3) : b = 9223372036854775808 := by
  unfold classOf at h
  repeat' split at h
  all_goals first | omega | assumption
theorem classOf_4 {b : Nat} (h : classOf b = 4) : b = 0 := by
  unfold classOf at h
  repeat' split at h
  all_goals first | omega | assumption
theorem rated5_no (b : Nat) (h3 : (classOf b == 3) = false) (h4 : (classOf b == 4) = false) (h5 : (classOf b == 5) = false) : rated5 b = false := by
  unfold rated5
  simp only [decide_eq_false_iff_not]
  intro hc
  unfold classOf at h3 h4 h5
  rcases hc with rfl | rfl | ⟨g1, g2⟩
  · simp at h4
  · simp at h3
  · rw [if_neg (by omega), if_neg (by omega), if_neg (by omega), if_neg (by omega), if_neg (by omega), if_neg (by omega)] at h5
    simp at h5
set_option maxRecDepth 100000 in
set_option maxHeartbeats 2000000 in
theorem ref_Rated5 (b : Nat) (hb : b < 18446744073709551616) (w : World) : Calls Try.prog 48 #[.float .f64 b] w (Ret (.bool (rated5 b)) (· = w)) := by
  have hcl := ref_Class b hb
  rcases rated_class b hb with h | ⟨h3, h4, h5, hn⟩
  · rcases h with h | h | ⟨h, h0, h1⟩
    · rw [h] at hcl
      have hr : rated5 b = true := by
        have hz := classOf_3 h
        subst hz; decide
      rw [hr]
      go_enter Try.func48, Try.ntmps48
      go_wp2_with fail
      refine (hcl _).mono ?_; rintro e' w1 ⟨rfl, rfl⟩
      go_wp2_with fail
      go_ret
      exact ⟨rfl, rfl⟩
    · rw [h] at hcl
      have hr : rated5 b = true := by
        have hz := classOf_4 h
        subst hz; decide
      rw [hr]
      go_enter Try.func48, Try.ntmps48
      go_wp2_with fail
      refine (hcl _).mono ?_; rintro e' w1 ⟨rfl, rfl⟩
      go_wp2_with fail
      go_ret
      exact ⟨rfl, rfl⟩
    · rw [h] at hcl
      obtain ⟨o, ho, hr⟩ := rated5_order b h0 h1
      clear h0 h1
      have HR := Lib.hid hr
      clear hr hb
      go_enter Try.func48, Try.ntmps48
      go_wp2_with fail
      refine (hcl _).mono ?_; rintro e' w1 ⟨rfl, rfl⟩
      go_wp2_with fail
      go_ret
      rw [← HR.out]
      exact ⟨rfl, rfl⟩
  · have hr : rated5 b = false := rated5_no b h3 h4 h5
    rw [hr]
    generalize classOf b = cl at *
    go_enter Try.func48, Try.ntmps48
    go_wp2_with fail
    refine (hcl _).mono ?_; rintro e' w1 ⟨rfl, rfl⟩
    go_wp2_with fail
    go_ret
    exact ⟨rfl, rfl⟩
theorem rated6_order (b : Nat) (h : rated5 b = true) : ∃ o : Ordering, FloatKind.f64.format.order b 4576918229304087675 = some o ∧ (o == Ordering.lt || o == Ordering.eq) = ratedB b := by
  unfold rated5 at h
  have h' := of_decide_eq_true h
  rcases h' with rfl | rfl | ⟨h0, h1⟩
  · exact ⟨.lt, by decide, by decide⟩
  · exact ⟨.lt, by decide, by decide⟩
  · refine ⟨compare (b : Int) 4576918229304087675, ?_, ?_⟩
    · rw [f64_order, order_key b _ (by omega) (by decide), show fkey 4576918229304087675 = 4576918229304087675 from by decide, fkey_low b (by omega)]
    · rw [cmp_le]
      unfold ratedB
      rw [decide_eq_decide]
      omega
theorem rated6_no {b : Nat} (h : rated5 b = false) : ratedB b = false := by
  unfold rated5 at h
  unfold ratedB
  rw [decide_eq_false_iff_not] at h ⊢
  omega
set_option maxRecDepth 100000 in
theorem ref_Rated6 (b : Nat) (hb : b < 18446744073709551616) (w : World) : Calls Try.prog 20 #[.float .f64 b] w (Ret (.bool (ratedB b)) (· = w)) := by
  have h5 := ref_Rated5 b hb
  clear hb
  cases hr : rated5 b with
  | false =>
    rw [hr] at h5
    rw [rated6_no hr]
    clear hr
    go_enter Try.func20, Try.ntmps20
    go_wp2_with fail
    refine (h5 _).mono ?_; rintro e' w1 ⟨rfl, rfl⟩
    go_wp2_with fail
    go_ret
    exact ⟨rfl, rfl⟩
  | true =>
    obtain ⟨o, ho, hq⟩ := rated6_order b hr
    rw [hr] at h5
    have HQ := Lib.hid hq
    clear hr hq
    go_enter Try.func20, Try.ntmps20
    go_wp2_with fail
    refine (h5 _).mono ?_; rintro e' w1 ⟨rfl, rfl⟩
    go_wp2_with fail
    go_ret
    rw [← HQ.out]
    exact ⟨rfl, rfl⟩
end Go.Proofs.Ytjgbandmjamcaaa

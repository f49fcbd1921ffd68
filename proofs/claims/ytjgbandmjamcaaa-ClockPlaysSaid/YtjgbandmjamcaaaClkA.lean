/- Contracts: spans widened, drifted. -/
import Derived.Test.YtjgbandmjamcaaaFlC
import Derived.Test.YtjgbandmjamcaaaStampA
import Derived.Test.YtjgbandmjamcaaaAppSl
namespace Go.Proofs.Ytjgbandmjamcaaa
open Go.RowKit

theorem timesF_bd (n : Int) (b : Nat) (hb : isRate b) (hn : n ≤ 0) : n ≤ timesF n b ∧ timesF n b ≤ 0 := by
  unfold timesF
  by_cases hz : b = 0 ∨ b = 9223372036854775808
  · rw [if_pos hz]; omega
  · rw [if_neg hz]
    have hb' : 0 < b ∧ b ≤ 4607182418800017408 := by rcases hb with h | h | h; exact absurd (.inl h) hz; exact absurd (.inr h) hz; exact h
    obtain ⟨K, p, hP, hK, hp, hX, hK1, hK2, hle⟩ := rate_parts b hb'.1 hb'.2
    rw [hP, hK]
    generalize 4503599627370496 + p = m at *
    have hq : (0 : Int) < ((2 ^ K : Nat) : Int) := by have := Nat.two_pow_pos K; omega
    have hle' : (m : Int) ≤ ((2 ^ K : Nat) : Int) := by omega
    generalize ((2 ^ K : Nat) : Int) = q at *
    constructor
    · rw [Int.le_ediv_iff_mul_le hq]
      have := Int.mul_le_mul_of_nonpos_left hn hle'
      exact this
    · have h1 : n * (m : Int) ≤ 0 := Int.mul_nonpos_of_nonpos_of_nonneg hn (by omega)
      have := Int.ediv_le_ediv hq h1
      simpa using this
def wLo (lo by_ : Int) : Int := max (lo - by_) 0
def wHi (hi by_ : Int) : Int := min (hi + by_) 1125899906842624
set_option maxRecDepth 100000 in
theorem span_Widen (lo hi by_ : Int) (w : World) (hs : isSpan lo hi = true) (hb : isTime by_ = true) :
    Calls Try.prog 65 #[.agg #[.int .i64 lo, .int .i64 hi], .int .i64 by_] w (Ret (.tuple #[.agg #[.int .i64 (wLo lo by_), .int .i64 (wHi hi by_)], .int .i64 0]) (Kp none_ w)) := by
  obtain ⟨h1, h2, h3⟩ := isSpan_iff.1 hs
  obtain ⟨h4, h5⟩ := isTime_iff.1 hb
  have hc : checkSpan lo hi = 0 := by unfold checkSpan; rw [if_pos hs]
  have hp := (Blk.new w 28 #[.int .i64 lo, .int .i64 hi]).alloc (.cells #[.int .i64 0, .int .i64 0] 28)
  have hr := Blk.new' (w.alloc (.cells #[.int .i64 lo, .int .i64 hi] 28)) 28 #[.int .i64 0, .int .i64 0] (w.heap.size + 1) (by simp)
  have hk0 : Kp none_ w ((w.alloc (.cells #[.int .i64 lo, .int .i64 hi] 28)).alloc (.cells #[.int .i64 0, .int .i64 0] 28)) := ((Kp.refl _ _).alloc _).alloc _
  go_enter Try.func65, Try.ntmps65
  go_wp2_with fail
  refine (span_Check lo hi _).mono ?_; rintro e w1 ⟨rfl, hk1⟩
  rw [hc]
  have hp1 := hp.kp hk1 (fun h => h)
  have hr1 := hr.kp hk1 (fun h => h)
  have hkw := hk0.then_ hk1
  have c0 := hp1.cell 0
  have c1 := hp1.cell 1
  have r0 := hr1.cell 0
  have r1 := hr1.cell 1
  have f0 := hr1.frozen 0
  have f1 := hr1.frozen 1
  simp at c0 c1 r0 r1
  go_wp2_with fail
  refine (span_in by_ _).mono ?_; rintro e w2 ⟨rfl, rfl⟩
  rw [hb]
  go_wp2_with fail
  have hz := (hr1.set 0 (.int .i64 (max (lo - by_) 0))).set 1 (.int .i64 (min (hi + by_) 1125899906842624))
  have e0 := hz.cell 0
  have e1 := hz.cell 1
  simp at e0 e1
  exact bodyPost_ret (v := .tuple #[.agg #[.int .i64 (max (lo - by_) 0), .int .i64 (min (hi + by_) 1125899906842624)], .int .i64 0]) (by simp [results, Try.results65, go_sem, e0, e1]) rfl ⟨rfl, (hkw.setCell (p := ⟨w.heap.size + 1, 0, none⟩) _ (.inr (by simp))).setCell (p := ⟨w.heap.size + 1, 1, none⟩) _ (.inr (by simp))⟩
set_option maxRecDepth 100000 in
theorem span_Around (t by_ : Int) (w : World) (hs : isTime t = true) (hb : isTime by_ = true) :
    Calls Try.prog 52 #[.int .i64 t, .int .i64 by_] w (Ret (.tuple #[.agg #[.int .i64 (wLo t by_), .int .i64 (wHi t by_)], .int .i64 0]) (Kp none_ w)) := by
  have hsp : isSpan t t = true := by have := isTime_iff.1 hs; exact isSpan_iff.2 ⟨this.1, Int.le_refl _, this.2⟩
  have hr := Blk.new w 28 #[.int .i64 0, .int .i64 0]
  have hk0 : Kp none_ w (w.alloc (.cells #[.int .i64 0, .int .i64 0] 28)) := (Kp.refl _ _).alloc _
  go_enter Try.func52, Try.ntmps52
  go_wp2_with fail
  refine (span_Widen t t by_ _ hsp hb).mono ?_; rintro e w1 ⟨rfl, hk1⟩
  have hr1 := hr.kp hk1 (fun h => h)
  have hkw := hk0.then_ hk1
  have r0 := hr1.cell 0
  have r1 := hr1.cell 1
  have f0 := hr1.frozen 0
  have f1 := hr1.frozen 1
  simp at r0 r1
  go_wp2_with fail
  have hz := (hr1.set 0 (.int .i64 (wLo t by_))).set 1 (.int .i64 (wHi t by_))
  have e0 := hz.cell 0
  have e1 := hz.cell 1
  simp at e0 e1
  exact bodyPost_ret (v := .tuple #[.agg #[.int .i64 (wLo t by_), .int .i64 (wHi t by_)], .int .i64 0]) (by simp [results, Try.results52, go_sem, e0, e1]) rfl ⟨rfl, (hkw.setCell (p := ⟨w.heap.size, 0, none⟩) _ (.inr (by simp))).setCell (p := ⟨w.heap.size, 1, none⟩) _ (.inr (by simp))⟩
theorem rate_class (b : Nat) (hb : isRate b) : 3 ≤ classOf b ∧ classOf b ≤ 5 ∧ (FloatKind.f64.format.order b 4607182418800017408 == some .gt) = false ∧ b < 18446744073709551616 := by
  rcases hb with rfl | rfl | ⟨h0, h1⟩
  · decide
  · decide
  · refine ⟨?_, ?_, ?_, by omega⟩
    · unfold classOf
      rw [if_neg (by omega), if_neg (by omega), if_neg (by omega), if_neg (by omega), if_neg (by omega), if_neg (by omega)]; decide
    · unfold classOf
      rw [if_neg (by omega), if_neg (by omega), if_neg (by omega), if_neg (by omega), if_neg (by omega), if_neg (by omega)]; decide
    · rw [f64_order, order_key b _ (by omega) (by decide), show fkey 4607182418800017408 = 4607182418800017408 from by decide, fkey, show b / 9223372036854775808 = 0 from by omega]
      rcases Nat.lt_or_eq_of_le h1 with h | h
      · rw [cmp_lt (by simp; omega)]; rfl
      · subst h; decide
/-- How much a span widens: the product rounded up. -/
def grow (e : Int) (b : Nat) : Int := -(timesF (-e) b)
set_option maxRecDepth 100000 in
theorem span_Drift (lo hi e : Int) (b : Nat) (w : World) (hs : isSpan lo hi = true) (he : isTime e = true) (hb : isRate b) :
    Calls Try.prog 53 #[.agg #[.int .i64 lo, .int .i64 hi], .int .i64 e, .float .f64 b] w (Ret (.tuple #[.agg #[.int .i64 (wLo lo (grow e b)), .int .i64 (wHi hi (grow e b))], .int .i64 0]) (Kp none_ w)) := by
  obtain ⟨hE0, hE1⟩ := isTime_iff.1 he
  obtain ⟨hc3, hc5, hcmp, hbl⟩ := rate_class b hb
  have hbd := timesF_bd (-e) b hb (by omega)
  have hg : isTime (grow e b) = true := isTime_iff.2 (by unfold grow; omega)
  have hc : checkSpan lo hi = 0 := by unfold checkSpan; rw [if_pos hs]
  have htm := fun w => nm_Times (-e) b (by omega) (by omega) hb w
  have hcl := fl_Class b hbl
  have hwid := fun w => span_Widen lo hi (grow e b) w hs hg
  obtain ⟨T, hT⟩ : ∃ T, T = timesF (-e) b := ⟨_, rfl⟩
  rw [← hT] at htm hbd
  have hgT : grow e b = -T := by unfold grow; rw [hT]
  rw [hgT] at hwid ⊢
  generalize classOf b = cl at *
  clear hg hT hgT
  have hp := (Blk.new w 28 #[.int .i64 lo, .int .i64 hi]).alloc (.cells #[.int .i64 0, .int .i64 0] 28)
  have hr := Blk.new' (w.alloc (.cells #[.int .i64 lo, .int .i64 hi] 28)) 28 #[.int .i64 0, .int .i64 0] (w.heap.size + 1) (by simp)
  have hk0 : Kp none_ w ((w.alloc (.cells #[.int .i64 lo, .int .i64 hi] 28)).alloc (.cells #[.int .i64 0, .int .i64 0] 28)) := ((Kp.refl _ _).alloc _).alloc _
  go_enter Try.func53, Try.ntmps53
  go_wp2_with fail
  refine (span_Check lo hi _).mono ?_; rintro e' w1 ⟨rfl, hk1⟩
  rw [hc]
  have hp1 := hp.kp hk1 (fun h => h)
  have hr1 := hr.kp hk1 (fun h => h)
  have hkw := hk0.then_ hk1
  have c0 := hp1.cell 0
  have c1 := hp1.cell 1
  simp at c0 c1
  go_wp2_with fail
  refine (span_in e _).mono ?_; rintro e' w2 ⟨rfl, rfl⟩
  rw [he]
  go_wp2_with fail
  refine (hcl _).mono ?_; rintro e' w2 ⟨rfl, rfl⟩
  go_wp2_with fail
  refine (htm _).mono ?_; rintro e' w3 ⟨rfl, rfl⟩
  go_wp2_with fail
  refine (hwid _).mono ?_; rintro e' w4 ⟨rfl, hk4⟩
  have hr4 := hr1.kp hk4 (fun h => h)
  have hkw4 := hkw.then_ hk4
  have r0 := hr4.cell 0
  have r1 := hr4.cell 1
  have f0 := hr4.frozen 0
  have f1 := hr4.frozen 1
  simp at r0 r1
  go_wp2_with fail
  have hz := (hr4.set 0 (.int .i64 (wLo lo (-T)))).set 1 (.int .i64 (wHi hi (-T)))
  have e0 := hz.cell 0
  have e1 := hz.cell 1
  simp at e0 e1
  exact bodyPost_ret (v := .tuple #[.agg #[.int .i64 (wLo lo (-T)), .int .i64 (wHi hi (-T))], .int .i64 0]) (by simp [results, Try.results53, go_sem, e0, e1]) rfl ⟨rfl, (hkw4.setCell (p := ⟨w.heap.size + 1, 0, none⟩) _ (.inr (by simp))).setCell (p := ⟨w.heap.size + 1, 1, none⟩) _ (.inr (by simp))⟩
end Go.Proofs.Ytjgbandmjamcaaa

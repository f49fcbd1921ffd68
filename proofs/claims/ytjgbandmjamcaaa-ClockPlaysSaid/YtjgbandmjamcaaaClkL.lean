/- Contracts: a clock can drift. -/
import Derived.Test.YtjgbandmjamcaaaClkH
namespace Go.Proofs.Ytjgbandmjamcaaa
open Go.RowKit

theorem rateC_100 : isRateC 4576918229304087675 := Or.inr (Or.inr ⟨by decide, by decide⟩)
theorem grow_100_0 : grow 0 4576918229304087675 = 0 := (grow_ref 0 _ rateC_100).trans (by decide)
theorem grow_100_100 : grow 100 4576918229304087675 = 2 := (grow_ref 100 _ rateC_100).trans (by decide)
def awk1 : ClkD := ⟨10, 1000, 3, true, 4576918229304087675, 10, 0⟩
def awk2 : ClkD := ⟨10, 1000, 3, true, 4576918229304087675, 10, 997⟩
def awk3 : ClkD := ⟨10, 1000, 3, true, 4576918229304087675, 110, 1095⟩
theorem awk1_ok : awk1.ok := by refine ⟨by decide, by decide, by decide, by decide, by decide, by decide, ?_⟩; exact Or.inr (Or.inr ⟨by decide, by decide⟩)
theorem awk2_ok : awk2.ok := by refine ⟨by decide, by decide, by decide, by decide, by decide, by decide, ?_⟩; exact Or.inr (Or.inr ⟨by decide, by decide⟩)
theorem awk3_ok : awk3.ok := by refine ⟨by decide, by decide, by decide, by decide, by decide, by decide, ?_⟩; exact Or.inr (Or.inr ⟨by decide, by decide⟩)
theorem awk_set : setErr ⟨0, 0, 0, false, 4576918229304087675, 0, 0⟩ 10 1000 3 = 0 := by decide
theorem awk_clk1 : setClk ⟨0, 0, 0, false, 4576918229304087675, 0, 0⟩ 10 1000 3 = awk1 := by unfold setClk; rw [if_pos awk_set]; rfl
theorem awk_e1 : nowErr awk1 10 = 0 := by decide
theorem awk_lo1 : nowLo awk1 10 = 997 := by
  unfold nowLo
  rw [show grow (10 - awk1.at_) awk1.rate = 0 from grow_100_0]
  decide
theorem awk_hi1 : nowHi awk1 10 = 1003 := by
  unfold nowHi
  rw [awk_lo1, show grow (10 - awk1.at_) awk1.rate = 0 from grow_100_0]
  decide
theorem awk_clk2 : nowClk awk1 10 = awk2 := by unfold nowClk; rw [if_pos awk_e1, awk_lo1]; rfl
theorem awk_e2 : nowErr awk2 110 = 0 := by decide
theorem awk_lo2 : nowLo awk2 110 = 1095 := by
  unfold nowLo
  rw [show grow (110 - awk2.at_) awk2.rate = 2 from grow_100_100]
  decide
theorem awk_hi2 : nowHi awk2 110 = 1105 := by
  unfold nowHi
  rw [awk_lo2, show grow (110 - awk2.at_) awk2.rate = 2 from grow_100_100]
  decide
theorem awk_clk3 : nowClk awk2 110 = awk3 := by unfold nowClk; rw [if_pos awk_e2, awk_lo2]; rfl
theorem awk_e3 : nowErr awk3 110 = 0 := by decide
theorem awk_lo3 : nowLo awk3 110 = 1095 := by
  unfold nowLo
  rw [show grow (110 - awk3.at_) awk3.rate = 2 from grow_100_100]
  decide
set_option maxRecDepth 100000 in
theorem awake06 (w : World) : Calls Try.prog 19 #[] w (Ret (.bool true) (Kp none_ w)) := by
  have hnew := clock_New 4576918229304087675 rateC_100
  go_enter Try.func19, Try.ntmps19
  go_wp2_with fail
  refine (hnew _).mono ?_; rintro e' w1 ⟨rfl, rfl⟩
  clear hnew
  have hb0 := Blk.new w 112 (ClkD.cells ⟨0, 0, 0, false, 4576918229304087675, 0, 0⟩)
  have hk0 : Kp none_ w (w.alloc (.cells (ClkD.cells ⟨0, 0, 0, false, 4576918229304087675, 0, 0⟩) 112)) := (Kp.refl none_ w).alloc _
  obtain ⟨b, hb⟩ : ∃ b, b = w.heap.size := ⟨_, rfl⟩
  rw [← hb] at hb0 ⊢
  have hbn : ∀ i, i < w.heap.size → ¬ only b i := fun i hi e => by cases e; omega
  generalize w.alloc (.cells (ClkD.cells ⟨0, 0, 0, false, 4576918229304087675, 0, 0⟩) 112) = w1 at *
  clear hb
  have hset := clock_SetG b _ 10 1000 3 _ hb0
  rw [awk_set, awk_clk1] at hset
  go_wp2_with fail
  refine hset.mono ?_; rintro e' w2 ⟨rfl, hk1, hb1⟩
  have hka := hk0.trans hk1 hbn
  clear hset hk0 hk1 hb0
  have hnow := clock_NowG b _ 10 _ hb1 awk1_ok
  unfold nowLoE nowHiE at hnow
  rw [awk_e1, if_pos rfl, if_pos rfl, awk_lo1, awk_hi1, awk_clk2] at hnow
  go_wp2_with fail
  refine hnow.mono ?_; rintro e' w3 ⟨rfl, hk1, hb2⟩
  have hkb := hka.trans hk1 hbn
  clear hnow hka hk1 hb1
  go_wp2_with fail
  have hb3 := hb2.alloc (.cells #[.int .i64 997, .int .i64 1003] 28)
  have hs3 := Blk.new w3 28 #[.int .i64 997, .int .i64 1003]
  have hkc := hkb.alloc (.cells #[.int .i64 997, .int .i64 1003] 28)
  have hbs : b ≠ w3.heap.size := by have := hb2.lt; omega
  generalize w3.alloc (.cells #[.int .i64 997, .int .i64 1003] 28) = w4 at *
  generalize w3.heap.size = s1 at *
  have hnow := clock_NowG b _ 110 _ hb3 awk2_ok
  unfold nowLoE nowHiE at hnow
  rw [awk_e2, if_pos rfl, if_pos rfl, awk_lo2, awk_hi2, awk_clk3] at hnow
  refine hnow.mono ?_; rintro e' w5 ⟨rfl, hk1, hb4⟩
  have hkd := hkc.trans hk1 hbn
  have hs5 := hs3.kp hk1 (fun e => hbs e.symm)
  clear hnow hkc hk1 hb3 hs3 hb2 hkb
  go_wp2_with fail
  have hb5 := hb4.alloc (.cells #[.int .i64 1095, .int .i64 1105] 28)
  have hs6 := hs5.alloc (.cells #[.int .i64 1095, .int .i64 1105] 28)
  have hr6 := Blk.new w5 28 #[.int .i64 1095, .int .i64 1105]
  have hke := hkd.alloc (.cells #[.int .i64 1095, .int .i64 1105] 28)
  have hbr : b ≠ w5.heap.size := by have := hb4.lt; omega
  generalize w5.alloc (.cells #[.int .i64 1095, .int .i64 1105] 28) = w6 at *
  generalize w5.heap.size = s2 at *
  have hpast := clock_PastG b _ 1000 110 _ hb5 awk3_ok
  unfold nowLoE at hpast
  rw [awk_e3, if_pos rfl, awk_lo3, show ((0 : Int) == 0 && decide ((1000 : Int) < 1095)) = true from by decide] at hpast
  refine hpast.mono ?_; rintro e' w7 ⟨rfl, hk1, _⟩
  have hkf := hke.trans hk1 hbn
  have hs7 := hs6.kp hk1 (fun e => hbs e.symm)
  have hr7 := hr6.kp hk1 (fun e => hbr e.symm)
  clear hpast hb5 hs6 hr6 hke hk1 hb4 hs5 hkd
  have x0 := hs7.cell 0
  have x1 := hs7.cell 1
  have y0 := hr7.cell 0
  have y1 := hr7.cell 1
  simp at x0 x1 y0 y1
  go_wp2_with fail
  go_ret
  exact ⟨rfl, hkf⟩
end Go.Proofs.Ytjgbandmjamcaaa

/- Contracts: clocks. -/
import Derived.Test.YtjgbandmjamcaaaClkA
import Derived.BigRegion
namespace Go.Proofs.Ytjgbandmjamcaaa
open Go.RowKit

structure ClkD where
  at_ : Int
  time : Int
  width : Int
  set : Bool
  rate : Nat
  last : Int
  floor : Int
def ClkD.cells (c : ClkD) : Array Value := #[.int .i64 c.at_, .int .i64 c.time, .int .i64 c.width, .bool c.set, .float .f64 c.rate, .int .i64 c.last, .int .i64 c.floor]
def ClkD.ok (c : ClkD) : Prop := 0 ≤ c.at_ ∧ c.at_ ≤ c.last ∧ c.last ≤ 1125899906842624 ∧ isTime c.time = true ∧ isTime c.width = true ∧ isTime c.floor = true ∧ isRate c.rate
set_option maxHeartbeats 400000 in
theorem clock_in (a : Int) (w : World) :
    Calls Try.prog 50 #[.int .i64 a] w (Ret (.bool (isTime a)) (· = w)) := by
  go_enter Try.func50, Try.ntmps50
  go_wp2
  all_goals go_ret
  · have h : 0 ≤ a := by assumption
    refine ⟨?_, rfl⟩
    simp [isTime, h]
  · have h : a < 0 := by assumption
    refine ⟨?_, rfl⟩
    have : ¬ 0 ≤ a := by omega
    simp [isTime, this]
def isRateC (b : Nat) : Prop := b = 0 ∨ b = 9223372036854775808 ∨ (0 < b ∧ b ≤ 4576918229304087675)
theorem rateC_class (b : Nat) (hb : isRateC b) : 3 ≤ classOf b ∧ (FloatKind.f64.format.order b 4576918229304087675 == some .gt) = false ∧ b < 18446744073709551616 := by
  have hr : isRate b := by rcases hb with h | h | h; exact .inl h; exact .inr (.inl h); exact .inr (.inr ⟨h.1, by omega⟩)
  obtain ⟨h3, _, _, hbl⟩ := rate_class b hr
  refine ⟨h3, ?_, hbl⟩
  rcases hb with rfl | rfl | ⟨h0, h1⟩
  · decide
  · decide
  · rw [f64_order, order_key b _ (by omega) (by decide), show fkey 4576918229304087675 = 4576918229304087675 from by decide, fkey, show b / 9223372036854775808 = 0 from by omega]
    rcases Nat.lt_or_eq_of_le h1 with h | h
    · rw [cmp_lt (by simp; omega)]; rfl
    · subst h; decide
theorem clock_New (b : Nat) (hb : isRateC b) (w : World) : Calls Try.prog 18 #[.float .f64 b] w (Ret (.tuple #[.pointer (some ⟨w.heap.size, 0, none⟩), .int .i64 0]) fun w' => w' = w.alloc (.cells (ClkD.cells ⟨0, 0, 0, false, b, 0, 0⟩) 112)) := by
  obtain ⟨hc3, hcmp, hbl⟩ := rateC_class b hb
  have hcl := fl_Class b hbl
  generalize classOf b = cl at *
  go_enter Try.func18, Try.ntmps18
  go_wp2_with fail
  refine (hcl _).mono ?_; rintro e' w2 ⟨rfl, rfl⟩
  go_wp2_with fail
  go_ret2
  exact ⟨rfl, rfl⟩
set_option maxRecDepth 100000 in
theorem clock_Set (g : Nat) (c : ClkD) (h t e : Int) (w : World) (hb : Blk w g 112 c.cells) (hh : isTime h = true) (ht : isTime t = true) (he : isTime e = true) (hl : c.last ≤ h) :
    Calls Try.prog 22 #[.pointer (some ⟨g, 0, none⟩), .int .i64 h, .int .i64 t, .int .i64 e] w (Ret (.int .i64 0) fun w' => Kp (only g) w w' ∧ Blk w' g 112 (ClkD.cells ⟨h, t, e, true, c.rate, h, c.floor⟩)) := by
  obtain ⟨at_, time, width, set, rate, last, floor⟩ := c
  dsimp only at hl
  have c2 := hb.cell 5
  have f0 := hb.frozen 0
  have f1 := hb.frozen 1
  have f2 := hb.frozen 2
  have f3 := hb.frozen 3
  have f5 := hb.frozen 5
  have r0 := hb.cell 0
  have r1 := hb.cell 1
  have r2 := hb.cell 2
  have r3 := hb.cell 3
  simp [ClkD.cells] at c2 r0 r1 r2 r3
  go_enter Try.func22, Try.ntmps22
  go_wp2_with fail
  refine (clock_in h _).mono ?_; rintro e' w1 ⟨rfl, rfl⟩
  rw [hh]
  go_wp2_with fail
  refine (clock_in t _).mono ?_; rintro e' w2 ⟨rfl, rfl⟩
  rw [ht]
  go_wp2_with fail
  refine (clock_in e _).mono ?_; rintro e' w3 ⟨rfl, rfl⟩
  rw [he]
  go_wp2_with fail
  go_ret
  have hz := ((((hb.set 5 (.int .i64 h)).set 0 (.int .i64 h)).set 1 (.int .i64 t)).set 2 (.int .i64 e)).set 3 (.bool true)
  exact ⟨rfl, (((((Kp.refl (only g) w3).setCell (p := ⟨g, 5, none⟩) _ (.inl rfl)).setCell (p := ⟨g, 0, none⟩) _ (.inl rfl)).setCell (p := ⟨g, 1, none⟩) _ (.inl rfl)).setCell (p := ⟨g, 2, none⟩) _ (.inl rfl)).setCell (p := ⟨g, 3, none⟩) _ (.inl rfl), hz⟩
end Go.Proofs.Ytjgbandmjamcaaa

/- Proved: whatever a clock is set by and asked, it answers as the document says (at most 40 calls); for every input that can be read; the input reads as it did. -/
import Derived.Test.YtjgbandmjamcaaaClkN
import Derived.Test.YtjgbandmjamcaaaOpen
namespace Go.Proofs.Ytjgbandmjamcaaa
open Go.ChangeShapes Go.WideShapes Go.ChangeAt Go.RowKit

theorem cells52 : Try.prog.cellsOf 52 = 4 := by kernel_rfl
theorem cells3 : Try.prog.cellsOf 3 = 1 := by kernel_rfl
theorem cells2 : Try.prog.cellsOf 2 = 1 := by kernel_rfl
theorem len4 {cs : List Value} (h : cs.length = 4) : ∃ a b c d, cs = [a, b, c, d] := by
  match cs, h with
  | [a, b, c, d], _ => exact ⟨a, b, c, d, rfl⟩
theorem call52 {w : World} {r : List Value} (h : Rd w 52 r) : ∃ c : CallD, r = c.cells ∧ True := by
  obtain ⟨hl, _⟩ := h.struct_ Try.underlying52
  rw [cells52] at hl
  obtain ⟨a, b, c, d, rfl⟩ := len4 hl
  have f0 := h.field Try.underlying52 0 3 0 1 rfl cells3
  have f1 := h.field Try.underlying52 1 2 1 1 rfl cells2
  have f2 := h.field Try.underlying52 2 2 2 1 rfl cells2
  have f3 := h.field Try.underlying52 3 2 3 1 rfl cells2
  obtain ⟨k, e0, _⟩ := Rd.int_ f0 Try.underlying3
  obtain ⟨x, e1, _⟩ := Rd.int_ f1 Try.underlying2
  obtain ⟨y, e2, _⟩ := Rd.int_ f2 Try.underlying2
  obtain ⟨z, e3, _⟩ := Rd.int_ f3 Try.underlying2
  simp at e0 e1 e2 e3
  subst e0 e1 e2 e3
  exact ⟨⟨k, x, y, z⟩, rfl, trivial⟩

namespace clockPlays
theorem own : ownKnob Try.prog.godebug = none := by kernel_rfl
theorem laidOut : laidOutB Try.prog = true := by kernel_rfl
set_option maxRecDepth 100000 in
theorem lifted (os : Os) (started : os.Started) (H : Type) (enc : TypeId × Value → H) :
    ReturnsInHanded {} Try.checked os 4 .any (Rows.clockPlaysSpec.pre6 enc Try.prog Try.f4 Rows.clockPlaysRow.domain false) (Rows.clockPlaysSpec.post enc Try.prog Try.f4 false true false false) := by
  refine returnsInHanded_of_change_sized (C := Try.checked) own started (by kernel_rfl) Try.func4
    (ChangeSpec.witness6 (enc := enc) (C := Try.checked) false ⟨#[], #[.float .f64 0, .slice none 0 0], []⟩ 8 (by kernel_rfl) (by kernel_rfl) (by kernel_rfl) (by kernel_rfl)) ?_
  intro W base args ds gs before hval0 hW hcnd hsz0 _
  have hW' := hW
  obtain ⟨p, q, hA0, hV, rfl, hfz, hnd⟩ := hW
  have hA : DataW.TrodAll enc Try.prog W 0 (fun _ => true) true Try.f4.params.toList args.toList ds p := hA0
  have hval : ∀ (j : Nat) t v, Try.f4.params[j]? = some t → args[j]? = some v → Value.okWide Try.prog W .any base t v := hval0
  rw [Try.params4] at hA hval
  obtain ⟨v0, vs0, d0, ds0, p0, q0, hargs, rfl, rfl, h0, r0⟩ := trodAll_cons hA
  obtain ⟨v1, vs1, d1, ds1, p1, q1, rfl, rfl, rfl, h1, r1⟩ := trodAll_cons r0
  obtain ⟨rfl, rfl, rfl⟩ := trodAll_nil r1
  obtain rfl : args = #[v0, v1] := by cases args; simp_all
  obtain ⟨rfl, rfl⟩ := trodVars_none hV
  have k0 := h0
  have lt0 : ∀ x ∈ p0, x.block < W.heap.size := by obtain ⟨m, hm⟩ := k0; exact DataW.trod_lt m _ _ _ hm
  have rd0 : Rd W 42 v0.cells.toList := by
    obtain ⟨fuel, hf⟩ := h0
    exact ⟨H, enc, 0, _, _, fuel, _, hf⟩
  have k1 := h1
  have lt1 : ∀ x ∈ p1, x.block < W.heap.size := by obtain ⟨m, hm⟩ := k1; exact DataW.trod_lt m _ _ _ hm
  have rd1 : Rd W 43 v1.cells.toList := by
    obtain ⟨fuel, hf⟩ := h1
    exact ⟨H, enc, 0, _, _, fuel, _, hf⟩
  have ok0 := hval 0 42 v0 rfl rfl
  obtain ⟨rb, rfl⟩ : ∃ b, v0 = .float .f64 b := by
    unfold Value.okWide at ok0
    rw [Try.underlying42] at ok0
    cases v0 <;> first | exact ok0.elim | (obtain ⟨rfl, _⟩ := ok0; exact ⟨_, rfl⟩)
  obtain ⟨rc, e0, hw⟩ := rd0.float_ Try.underlying42
  simp [Value.cells] at e0
  subst e0
  have hw0 : rb < 18446744073709551616 := by simpa [Lit.wf] using hw
  obtain ⟨a1, len1, cap1, rfl⟩ := okWide_slice Try.underlying43 (hval 1 43 v1 rfl rfl)
  obtain ⟨v, l, hv, hs, hq⟩ := rd1.slices Try.underlying43 4 cells52 (by omega) CallD.cells (fun _ => True) (fun r _ hr => call52 hr)
  obtain rfl : v = .slice a1 len1 cap1 := by simpa [Value.cells] using hv.symm
  clear hA0 hval0 hsz0
  refine (law_ClockPlays rb _ l W hw0 hs).mono fun e W' ⟨he, bel0⟩ => ?_
  subst he
  have bel := bel0.below
  exact ⟨_, rfl, _, _, _, [], _, [], hW', trodAll_mk1 (shut_bool Try.underlying4 _), (trodAll_cons_mk (Below.trod laidOut (by kernel_rfl) (of_decide_eq_true (by kernel_rfl)) k0 bel lt0) (trodAll_cons_mk (Below.trod laidOut (by kernel_rfl) (of_decide_eq_true (by kernel_rfl)) k1 bel lt1) trodAll_mk0)), rfl, bel.frame _, fun h => by cases h⟩
theorem over : Rows.clockPlaysRow.holds Try.pinned (OpenSpec.ofChange Rows.clockPlaysSpec) :=
  OpenClaim.holds_of_wide 4 Try.f4 rfl rfl rfl rfl rfl rfl rfl ⟨rfl, rfl, rfl, rfl, rfl⟩ rfl rfl rfl rfl rfl (by kernel_rfl) Try.func4 (by kernel_rfl)
    (of_decide_eq_true (by kernel_rfl)) (by unfold Func.isWrapper; first | (rw [if_pos (by decide +kernel)]; kernel_rfl) | (rw [if_neg (by decide +kernel)]; exact ⟨rfl, rfl⟩))
    (fun os started H enc _ => lifted os started H enc)
end clockPlays
theorem clockPlays_holds : Rows.ClockPlaysSaid := clockPlays.over
#print axioms clockPlays_holds
end Go.Proofs.Ytjgbandmjamcaaa

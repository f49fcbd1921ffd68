/- Proved: whatever a voter is asked, and whenever it is reborn, it grants as the document says (at most 40 asks); for every input that can be read; the input reads as it did. -/
import Derived.Test.YtjgbandmjamcaaaLeaseGr
import Derived.Test.YtjgbandmjamcaaaOpen
namespace Go.Proofs.Ytjgbandmjamcaaa
open Go.ChangeShapes Go.WideShapes Go.ChangeAt Go.RowKit

theorem cells85 : Try.prog.cellsOf 85 = 5 := by kernel_rfl
theorem cells28 : Try.prog.cellsOf 28 = 2 := by kernel_rfl
theorem cells3 : Try.prog.cellsOf 3 = 1 := by kernel_rfl
theorem cells2 : Try.prog.cellsOf 2 = 1 := by kernel_rfl
theorem cells4 : Try.prog.cellsOf 4 = 1 := by kernel_rfl
theorem len5 {cs : List Value} (h : cs.length = 5) : ∃ a b c d e, cs = [a, b, c, d, e] := by
  match cs, h with
  | [a, b, c, d, e], _ => exact ⟨a, b, c, d, e, rfl⟩
theorem ask85 {w : World} {r : List Value} (h : Rd w 85 r) : ∃ c : AskD, r = c.cells ∧ True := by
  obtain ⟨hl, _⟩ := h.struct_ Try.underlying85
  rw [cells85] at hl
  obtain ⟨a, b, c, d, e, rfl⟩ := len5 hl
  have f0 := h.field Try.underlying85 0 28 0 2 rfl cells28
  have f1 := h.field Try.underlying85 1 3 2 1 rfl cells3
  have f2 := h.field Try.underlying85 2 2 3 1 rfl cells2
  have f3 := h.field Try.underlying85 3 4 4 1 rfl cells4
  have g0 := f0.field Try.underlying28 0 2 0 1 rfl cells2
  have g1 := f0.field Try.underlying28 1 2 1 1 rfl cells2
  obtain ⟨lo, e0, _⟩ := Rd.int_ g0 Try.underlying2
  obtain ⟨hi, e1, _⟩ := Rd.int_ g1 Try.underlying2
  obtain ⟨k, e2, _⟩ := Rd.int_ f1 Try.underlying3
  obtain ⟨t, e3, _⟩ := Rd.int_ f2 Try.underlying2
  obtain ⟨o, e4⟩ := Rd.bool_ f3 Try.underlying4
  simp at e0 e1 e2 e3 e4
  subst e0 e1 e2 e3 e4
  exact ⟨⟨lo, hi, k, t, o⟩, rfl, trivial⟩

namespace leaseGrants
theorem own : ownKnob Try.prog.godebug = none := by kernel_rfl
theorem laidOut : laidOutB Try.prog = true := by kernel_rfl
set_option maxRecDepth 100000 in
theorem lifted (os : Os) (started : os.Started) (H : Type) (enc : TypeId × Value → H) :
    ReturnsInHanded {} Try.checked os 7 .any (Rows.leaseGrantsSpec.pre6 enc Try.prog Try.f7 Rows.leaseGrantsRow.domain false) (Rows.leaseGrantsSpec.post enc Try.prog Try.f7 false true false false) := by
  refine returnsInHanded_of_change_sized (C := Try.checked) own started (by kernel_rfl) Try.func7
    (ChangeSpec.witness6 (enc := enc) (C := Try.checked) false ⟨#[], #[.slice none 0 0], []⟩ 8 (by kernel_rfl) (by kernel_rfl) (by kernel_rfl) (by kernel_rfl)) ?_
  intro W base args ds gs before hval0 hW hcnd hsz0 _
  have hW' := hW
  obtain ⟨p, q, hA0, hV, rfl, hfz, hnd⟩ := hW
  have hA : DataW.TrodAll enc Try.prog W 0 (fun _ => true) true Try.f7.params.toList args.toList ds p := hA0
  have hval : ∀ (j : Nat) t v, Try.f7.params[j]? = some t → args[j]? = some v → Value.okWide Try.prog W .any base t v := hval0
  rw [Try.params7] at hA hval
  obtain ⟨v0, vs0, d0, ds0, p0, q0, hargs, rfl, rfl, h0, r0⟩ := trodAll_cons hA
  obtain ⟨rfl, rfl, rfl⟩ := trodAll_nil r0
  obtain rfl : args = #[v0] := by cases args; simp_all
  obtain ⟨rfl, rfl⟩ := trodVars_none hV
  have k0 := h0
  have lt0 : ∀ x ∈ p0, x.block < W.heap.size := by obtain ⟨m, hm⟩ := k0; exact DataW.trod_lt m _ _ _ hm
  have rd0 : Rd W 79 v0.cells.toList := by
    obtain ⟨fuel, hf⟩ := h0
    exact ⟨H, enc, 0, _, _, fuel, _, hf⟩
  obtain ⟨a0, len0, cap0, rfl⟩ := okWide_slice Try.underlying79 (hval 0 79 v0 rfl rfl)
  obtain ⟨v, l, hv, hs, hq⟩ := rd0.slices Try.underlying79 5 cells85 (by omega) AskD.cells (fun _ => True) (fun r _ hr => ask85 hr)
  obtain rfl : v = .slice a0 len0 cap0 := by simpa [Value.cells] using hv.symm
  clear hA0 hval0 hsz0
  refine (leaseGrants_walk W _ l (hs.mono (fun _ _ _ => trivial))).mono fun e W' ⟨he, bel0⟩ => ?_
  subst he
  have bel := bel0.below
  exact ⟨_, rfl, _, _, _, [], _, [], hW', trodAll_mk1 (shut_bool Try.underlying4 _), (trodAll_cons_mk (Below.trod laidOut (by kernel_rfl) (of_decide_eq_true (by kernel_rfl)) k0 bel lt0) trodAll_mk0), rfl, bel.frame _, fun h => by cases h⟩
theorem over : Rows.leaseGrantsRow.holds Try.pinned (OpenSpec.ofChange Rows.leaseGrantsSpec) :=
  OpenClaim.holds_of_wide 7 Try.f7 rfl rfl rfl rfl rfl rfl rfl ⟨rfl, rfl, rfl, rfl, rfl⟩ rfl rfl rfl rfl rfl (by kernel_rfl) Try.func7 (by kernel_rfl)
    (of_decide_eq_true (by kernel_rfl)) (by unfold Func.isWrapper; first | (rw [if_pos (by decide +kernel)]; kernel_rfl) | (rw [if_neg (by decide +kernel)]; exact ⟨rfl, rfl⟩))
    (fun os started H enc _ => lifted os started H enc)
end leaseGrants
theorem leaseGrants_holds : Rows.LeaseGrantsSaid := leaseGrants.over
#print axioms leaseGrants_holds
end Go.Proofs.Ytjgbandmjamcaaa

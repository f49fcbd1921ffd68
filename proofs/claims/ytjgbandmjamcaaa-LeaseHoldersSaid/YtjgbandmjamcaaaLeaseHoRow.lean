/- Proved: whatever a holder hears, up to when it holds, and its stamps, are the document's (at most 40 times); for every input that can be read; the input reads as it did. -/
import Derived.Test.YtjgbandmjamcaaaLeaseHo
import Derived.Test.YtjgbandmjamcaaaOpen
namespace Go.Proofs.Ytjgbandmjamcaaa
open Go.ChangeShapes Go.WideShapes Go.ChangeAt Go.RowKit

theorem cells69 : Try.prog.cellsOf 69 = 5 := by kernel_rfl
theorem cells28 : Try.prog.cellsOf 28 = 2 := by kernel_rfl
theorem cells26 : Try.prog.cellsOf 26 = 1 := by kernel_rfl
theorem cells3 : Try.prog.cellsOf 3 = 1 := by kernel_rfl
theorem cells2 : Try.prog.cellsOf 2 = 1 := by kernel_rfl
theorem len5 {cs : List Value} (h : cs.length = 5) : ∃ a b c d e, cs = [a, b, c, d, e] := by
  match cs, h with
  | [a, b, c, d, e], _ => exact ⟨a, b, c, d, e, rfl⟩
theorem heard69 {w : World} {r : List Value} (h : Rd w 69 r) : ∃ c : HeardD, r = c.cells ∧ Il (fun k => k < w.heap.size) w c.av c.above := by
  obtain ⟨hl, _⟩ := h.struct_ Try.underlying69
  rw [cells69] at hl
  obtain ⟨a, b, c, d, e, rfl⟩ := len5 hl
  have f0 := h.field Try.underlying69 0 3 0 1 rfl cells3
  have f1 := h.field Try.underlying69 1 2 1 1 rfl cells2
  have f2 := h.field Try.underlying69 2 28 2 2 rfl cells28
  have f3 := h.field Try.underlying69 3 26 4 1 rfl cells26
  obtain ⟨k, e0, _⟩ := Rd.int_ f0 Try.underlying3
  obtain ⟨t, e1, _⟩ := Rd.int_ f1 Try.underlying2
  have g0 := f2.field Try.underlying28 0 2 0 1 rfl cells2
  have g1 := f2.field Try.underlying28 1 2 1 1 rfl cells2
  obtain ⟨lo, e2, _⟩ := Rd.int_ g0 Try.underlying2
  obtain ⟨hi, e3, _⟩ := Rd.int_ g1 Try.underlying2
  obtain ⟨v, xs, e4, hx, _⟩ := Rd.ints_ f3 Try.underlying26 cells2 Try.underlying2
  simp at e0 e1 e2 e3 e4
  subst e0 e1 e2 e3 e4
  exact ⟨⟨k, t, lo, hi, _, xs⟩, rfl, hx⟩

namespace leaseHolders
theorem own : ownKnob Try.prog.godebug = none := by kernel_rfl
theorem laidOut : laidOutB Try.prog = true := by kernel_rfl
set_option maxRecDepth 100000 in
theorem lifted (os : Os) (started : os.Started) (H : Type) (enc : TypeId × Value → H) :
    ReturnsInHanded {} Try.checked os 5 .any (Rows.leaseHoldersSpec.pre6 enc Try.prog Try.f5 Rows.leaseHoldersRow.domain false) (Rows.leaseHoldersSpec.post enc Try.prog Try.f5 false true false false) := by
  refine returnsInHanded_of_change_sized (C := Try.checked) own started (by kernel_rfl) Try.func5
    (ChangeSpec.witness6 (enc := enc) (C := Try.checked) false ⟨#[], #[.int .i64 0, .slice none 0 0], []⟩ 8 (by kernel_rfl) (by kernel_rfl) (by kernel_rfl) (by kernel_rfl)) ?_
  intro W base args ds gs before hval0 hW hcnd hsz0 _
  have hW' := hW
  obtain ⟨p, q, hA0, hV, rfl, hfz, hnd⟩ := hW
  have hA : DataW.TrodAll enc Try.prog W 0 (fun _ => true) true Try.f5.params.toList args.toList ds p := hA0
  have hval : ∀ (j : Nat) t v, Try.f5.params[j]? = some t → args[j]? = some v → Value.okWide Try.prog W .any base t v := hval0
  rw [Try.params5] at hA hval
  obtain ⟨v0, vs0, d0, ds0, p0, q0, hargs, rfl, rfl, h0, r0⟩ := trodAll_cons hA
  obtain ⟨v1, vs1, d1, ds1, p1, q1, rfl, rfl, rfl, h1, r1⟩ := trodAll_cons r0
  obtain ⟨rfl, rfl, rfl⟩ := trodAll_nil r1
  obtain rfl : args = #[v0, v1] := by cases args; simp_all
  obtain ⟨rfl, rfl⟩ := trodVars_none hV
  have k0 := h0
  have lt0 : ∀ x ∈ p0, x.block < W.heap.size := by obtain ⟨m, hm⟩ := k0; exact DataW.trod_lt m _ _ _ hm
  have rd0 : Rd W 3 v0.cells.toList := by
    obtain ⟨fuel, hf⟩ := h0
    exact ⟨H, enc, 0, _, _, fuel, _, hf⟩
  have k1 := h1
  have lt1 : ∀ x ∈ p1, x.block < W.heap.size := by obtain ⟨m, hm⟩ := k1; exact DataW.trod_lt m _ _ _ hm
  have rd1 : Rd W 63 v1.cells.toList := by
    obtain ⟨fuel, hf⟩ := h1
    exact ⟨H, enc, 0, _, _, fuel, _, hf⟩
  obtain ⟨sn, rfl⟩ := okWide_int Try.underlying3 (hval 0 3 v0 rfl rfl)
  obtain ⟨a1, len1, cap1, rfl⟩ := okWide_slice Try.underlying63 (hval 1 63 v1 rfl rfl)
  obtain ⟨v, l, hv, hs, hq⟩ := rd1.slices Try.underlying63 5 cells69 (by omega) HeardD.cells (fun c => Il (fun k => k < W.heap.size) W c.av c.above) (fun r _ hr => heard69 hr)
  obtain rfl : v = .slice a1 len1 cap1 := by simpa [Value.cells] using hv.symm
  clear hA0 hval0 hsz0
  refine (leaseHolders_walk W sn _ l (hs.mono (fun _ _ _ => trivial)) (fun c hc => (hq c hc).mono (fun _ _ _ => trivial))).mono fun e W' ⟨he, bel0⟩ => ?_
  subst he
  have bel := bel0.below
  exact ⟨_, rfl, _, _, _, [], _, [], hW', trodAll_mk1 (shut_bool Try.underlying4 _), (trodAll_cons_mk (Below.trod laidOut (by kernel_rfl) (of_decide_eq_true (by kernel_rfl)) k0 bel lt0) (trodAll_cons_mk (Below.trod laidOut (by kernel_rfl) (of_decide_eq_true (by kernel_rfl)) k1 bel lt1) trodAll_mk0)), rfl, bel.frame _, fun h => by cases h⟩
theorem over : Rows.leaseHoldersRow.holds Try.pinned (OpenSpec.ofChange Rows.leaseHoldersSpec) :=
  OpenClaim.holds_of_wide 5 Try.f5 rfl rfl rfl rfl rfl rfl rfl ⟨rfl, rfl, rfl, rfl, rfl⟩ rfl rfl rfl rfl rfl (by kernel_rfl) Try.func5 (by kernel_rfl)
    (of_decide_eq_true (by kernel_rfl)) (by unfold Func.isWrapper; first | (rw [if_pos (by decide +kernel)]; kernel_rfl) | (rw [if_neg (by decide +kernel)]; exact ⟨rfl, rfl⟩))
    (fun os started H enc _ => lifted os started H enc)
end leaseHolders
theorem leaseHolders_holds : Rows.LeaseHoldersSaid := leaseHolders.over
#print axioms leaseHolders_holds
end Go.Proofs.Ytjgbandmjamcaaa

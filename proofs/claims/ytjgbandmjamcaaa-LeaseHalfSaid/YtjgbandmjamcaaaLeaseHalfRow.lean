/- Proved: up to when a lease is held more than half granted it, and no further; for every input that can be read; the input reads as it did. -/
import Derived.Test.YtjgbandmjamcaaaLeaseHalf
import Derived.Test.YtjgbandmjamcaaaOpen
namespace Go.Proofs.Ytjgbandmjamcaaa
open Go.ChangeShapes Go.WideShapes Go.ChangeAt Go.RowKit

theorem cells77 : Try.prog.cellsOf 77 = 5 := by kernel_rfl
theorem cells2 : Try.prog.cellsOf 2 = 1 := by kernel_rfl
theorem len5 {cs : List Value} (h : cs.length = 5) : ∃ a b c d e, cs = [a, b, c, d, e] := by
  match cs, h with
  | [a, b, c, d, e], _ => exact ⟨a, b, c, d, e, rfl⟩
theorem arr77 {w : World} {r : List Value} (h : Rd w 77 r) : ∃ a b c d e : Int, r = [.int .i64 a, .int .i64 b, .int .i64 c, .int .i64 d, .int .i64 e] := by
  obtain ⟨hl, hf⟩ := h.array_ Try.underlying77
  rw [cells77] at hl
  rw [cells2] at hf
  obtain ⟨a, b, c, d, e, rfl⟩ := len5 hl
  obtain ⟨x0, e0, _⟩ := Rd.int_ (hf 0 (by omega)) Try.underlying2
  obtain ⟨x1, e1, _⟩ := Rd.int_ (hf 1 (by omega)) Try.underlying2
  obtain ⟨x2, e2, _⟩ := Rd.int_ (hf 2 (by omega)) Try.underlying2
  obtain ⟨x3, e3, _⟩ := Rd.int_ (hf 3 (by omega)) Try.underlying2
  obtain ⟨x4, e4, _⟩ := Rd.int_ (hf 4 (by omega)) Try.underlying2
  simp at e0 e1 e2 e3 e4
  subst e0 e1 e2 e3 e4
  exact ⟨_, _, _, _, _, rfl⟩

namespace leaseHalf
theorem own : ownKnob Try.prog.godebug = none := by kernel_rfl
theorem laidOut : laidOutB Try.prog = true := by kernel_rfl
set_option maxRecDepth 100000 in
theorem lifted (os : Os) (started : os.Started) (H : Type) (enc : TypeId × Value → H) :
    ReturnsInHanded {} Try.checked os 6 .any (Rows.leaseHalfSpec.pre6 enc Try.prog Try.f6 Rows.leaseHalfRow.domain false) (Rows.leaseHalfSpec.post enc Try.prog Try.f6 false true false false) := by
  refine returnsInHanded_of_change_sized (C := Try.checked) own started (by kernel_rfl) Try.func6
    (ChangeSpec.witness6 (enc := enc) (C := Try.checked) false ⟨#[], #[.agg #[.int .i64 0, .int .i64 0, .int .i64 0, .int .i64 0, .int .i64 0], .int .u8 0], []⟩ 8 (by kernel_rfl) (by kernel_rfl) (by kernel_rfl) (by kernel_rfl)) ?_
  intro W base args ds gs before hval0 hW hcnd hsz0 _
  have hW' := hW
  obtain ⟨p, q, hA0, hV, rfl, hfz, hnd⟩ := hW
  have hA : DataW.TrodAll enc Try.prog W 0 (fun _ => true) true Try.f6.params.toList args.toList ds p := hA0
  have hval : ∀ (j : Nat) t v, Try.f6.params[j]? = some t → args[j]? = some v → Value.okWide Try.prog W .any base t v := hval0
  rw [Try.params6] at hA hval
  obtain ⟨v0, vs0, d0, ds0, p0, q0, hargs, rfl, rfl, h0, r0⟩ := trodAll_cons hA
  obtain ⟨v1, vs1, d1, ds1, p1, q1, rfl, rfl, rfl, h1, r1⟩ := trodAll_cons r0
  obtain ⟨rfl, rfl, rfl⟩ := trodAll_nil r1
  obtain rfl : args = #[v0, v1] := by cases args; simp_all
  obtain ⟨rfl, rfl⟩ := trodVars_none hV
  have k0 := h0
  have lt0 : ∀ x ∈ p0, x.block < W.heap.size := by obtain ⟨m, hm⟩ := k0; exact DataW.trod_lt m _ _ _ hm
  have rd0 : Rd W 77 v0.cells.toList := by
    obtain ⟨fuel, hf⟩ := h0
    exact ⟨H, enc, 0, _, _, fuel, _, hf⟩
  have k1 := h1
  have lt1 : ∀ x ∈ p1, x.block < W.heap.size := by obtain ⟨m, hm⟩ := k1; exact DataW.trod_lt m _ _ _ hm
  have rd1 : Rd W 5 v1.cells.toList := by
    obtain ⟨fuel, hf⟩ := h1
    exact ⟨H, enc, 0, _, _, fuel, _, hf⟩
  have ok0 := hval 0 77 v0 rfl rfl
  unfold Value.okWide at ok0
  rw [Try.underlying77] at ok0
  obtain ⟨cs, rfl, _, _⟩ := ok0
  obtain ⟨a, b, c, d, e, hcs⟩ := arr77 rd0
  obtain rfl : cs = #[.int .i64 a, .int .i64 b, .int .i64 c, .int .i64 d, .int .i64 e] := by
    apply Array.ext'
    simpa [Value.cells] using hcs
  obtain ⟨sn, rfl⟩ := okWide_int Try.underlying5 (hval 1 5 v1 rfl rfl)
  obtain ⟨sm, e1, hw⟩ := rd1.int_ Try.underlying5
  simp [Value.cells] at e1
  subst e1
  simp only [Lit.wf, Bool.and_eq_true, decide_eq_true_eq] at hw
  obtain ⟨hw0, hw1⟩ := hw
  have hw0' : 0 ≤ sn := hw0
  have hw1' : sn ≤ 255 := hw1
  obtain ⟨s, rfl⟩ := Int.eq_ofNat_of_zero_le hw0'
  clear hA0 hval0 hsz0
  refine (leaseHalf_walk W a b c d e s (by omega)).mono fun e W' ⟨he, bel0⟩ => ?_
  subst he
  have bel := bel0.below
  exact ⟨_, rfl, _, _, _, [], _, [], hW', trodAll_mk1 (shut_bool Try.underlying4 _), (trodAll_cons_mk (Below.trod laidOut (by kernel_rfl) (of_decide_eq_true (by kernel_rfl)) k0 bel lt0) (trodAll_cons_mk (Below.trod laidOut (by kernel_rfl) (of_decide_eq_true (by kernel_rfl)) k1 bel lt1) trodAll_mk0)), rfl, bel.frame _, fun h => by cases h⟩
theorem over : Rows.leaseHalfRow.holds Try.pinned (OpenSpec.ofChange Rows.leaseHalfSpec) :=
  OpenClaim.holds_of_wide 6 Try.f6 rfl rfl rfl rfl rfl rfl rfl ⟨rfl, rfl, rfl, rfl, rfl⟩ rfl rfl rfl rfl rfl (by kernel_rfl) Try.func6 (by kernel_rfl)
    (of_decide_eq_true (by kernel_rfl)) (by unfold Func.isWrapper; first | (rw [if_pos (by decide +kernel)]; kernel_rfl) | (rw [if_neg (by decide +kernel)]; exact ⟨rfl, rfl⟩))
    (fun os started H enc _ => lifted os started H enc)
end leaseHalf
theorem leaseHalf_holds : Rows.LeaseHalfSaid := leaseHalf.over
#print axioms leaseHalf_holds
end Go.Proofs.Ytjgbandmjamcaaa

/- Proved: no two of three leaders ever hold a lease of the same voters at one true time (at most 60 turns, clocks that drift within half their rate of 1/128); for every input that can be read; the input reads as it did. -/
import Derived.Test.YtjgbandmjamcaaaLeaseSt
import Derived.Test.YtjgbandmjamcaaaOpen
namespace Go.Proofs.Ytjgbandmjamcaaa
open Go.ChangeShapes Go.WideShapes Go.ChangeAt Go.RowKit

theorem cells99 : Try.prog.cellsOf 99 = 15 := by kernel_rfl
theorem cells97 : Try.prog.cellsOf 97 = 8 := by kernel_rfl
theorem cells96 : Try.prog.cellsOf 96 = 1 := by kernel_rfl
theorem cells95 : Try.prog.cellsOf 95 = 1 := by kernel_rfl
theorem cells5 : Try.prog.cellsOf 5 = 1 := by kernel_rfl
theorem cells4 : Try.prog.cellsOf 4 = 1 := by kernel_rfl
theorem cells2 : Try.prog.cellsOf 2 = 1 := by kernel_rfl
theorem len15 {cs : List Value} (h : cs.length = 15) : ∃ a b c d e f g i j k l m n o p, cs = [a, b, c, d, e, f, g, i, j, k, l, m, n, o, p] := by
  match cs, h with
  | [a, b, c, d, e, f, g, i, j, k, l, m, n, o, p], _ => exact ⟨a, b, c, d, e, f, g, i, j, k, l, m, n, o, p, rfl⟩
theorem wf_bd {k : IntKind} {n lo hi : Int} (h : (Lit.int k n).wf = true) (h1 : k.min = lo) (h2 : k.max = hi) : lo ≤ n ∧ n ≤ hi := by
  subst h1 h2
  simpa only [Lit.wf, Bool.and_eq_true, decide_eq_true_eq] using h
theorem turn99 {w : World} {r : List Value} (h : Rd w 99 r) : ∃ c : TurnD, r = c.cells ∧ c.ok := by
  obtain ⟨hl, _⟩ := h.struct_ Try.underlying99
  rw [cells99] at hl
  obtain ⟨a0, a1, a2, a3, a4, a5, a6, a7, a8, a9, a10, a11, a12, a13, a14, rfl⟩ := len15 hl
  have f0 := h.field Try.underlying99 0 95 0 1 rfl cells95
  have f1 := h.field Try.underlying99 1 95 1 1 rfl cells95
  have f2 := h.field Try.underlying99 2 97 2 8 rfl cells97
  have f3 := h.field Try.underlying99 3 5 10 1 rfl cells5
  have f4 := h.field Try.underlying99 4 5 11 1 rfl cells5
  have f5 := h.field Try.underlying99 5 4 12 1 rfl cells4
  have f6 := h.field Try.underlying99 6 4 13 1 rfl cells4
  have f7 := h.field Try.underlying99 7 4 14 1 rfl cells4
  obtain ⟨_, hf⟩ := f2.array_ Try.underlying97
  rw [cells96] at hf
  obtain ⟨d, e0, w0⟩ := Rd.int_ f0 Try.underlying95
  obtain ⟨n, e1, w1⟩ := Rd.int_ f1 Try.underlying95
  obtain ⟨s0, g0, v0⟩ := Rd.int_ (hf 0 (by omega)) Try.underlying96
  obtain ⟨s1, g1, v1⟩ := Rd.int_ (hf 1 (by omega)) Try.underlying96
  obtain ⟨s2, g2, v2⟩ := Rd.int_ (hf 2 (by omega)) Try.underlying96
  obtain ⟨s3, g3, v3⟩ := Rd.int_ (hf 3 (by omega)) Try.underlying96
  obtain ⟨s4, g4, v4⟩ := Rd.int_ (hf 4 (by omega)) Try.underlying96
  obtain ⟨s5, g5, v5⟩ := Rd.int_ (hf 5 (by omega)) Try.underlying96
  obtain ⟨s6, g6, v6⟩ := Rd.int_ (hf 6 (by omega)) Try.underlying96
  obtain ⟨s7, g7, v7⟩ := Rd.int_ (hf 7 (by omega)) Try.underlying96
  obtain ⟨ld, e3, w3⟩ := Rd.int_ f3 Try.underlying5
  obtain ⟨vt, e4, w4⟩ := Rd.int_ f4 Try.underlying5
  obtain ⟨b0, e5⟩ := Rd.bool_ f5 Try.underlying4
  obtain ⟨b1, e6⟩ := Rd.bool_ f6 Try.underlying4
  obtain ⟨b2, e7⟩ := Rd.bool_ f7 Try.underlying4
  simp at e0 e1 g0 g1 g2 g3 g4 g5 g6 g7 e3 e4 e5 e6 e7
  subst e0 e1 g0 g1 g2 g3 g4 g5 g6 g7 e3 e4 e5 e6 e7
  have y0 := wf_bd w0 (lo := 0) (hi := 65535) rfl rfl
  have y1 := wf_bd w1 (lo := 0) (hi := 65535) rfl rfl
  have y3 := wf_bd w3 (lo := 0) (hi := 255) rfl rfl
  have y4 := wf_bd w4 (lo := 0) (hi := 255) rfl rfl
  have z0 := wf_bd v0 (lo := -128) (hi := 127) rfl rfl
  have z1 := wf_bd v1 (lo := -128) (hi := 127) rfl rfl
  have z2 := wf_bd v2 (lo := -128) (hi := 127) rfl rfl
  have z3 := wf_bd v3 (lo := -128) (hi := 127) rfl rfl
  have z4 := wf_bd v4 (lo := -128) (hi := 127) rfl rfl
  have z5 := wf_bd v5 (lo := -128) (hi := 127) rfl rfl
  have z6 := wf_bd v6 (lo := -128) (hi := 127) rfl rfl
  have z7 := wf_bd v7 (lo := -128) (hi := 127) rfl rfl
  obtain ⟨ld, rfl⟩ := Int.eq_ofNat_of_zero_le y3.1
  obtain ⟨vt, rfl⟩ := Int.eq_ofNat_of_zero_le y4.1
  refine ⟨⟨d, n, fun k => [s0, s1, s2, s3, s4, s5, s6, s7].getD k 0, ld, vt, b0, b1, b2⟩, rfl, y0.1, y0.2, y1.1, y1.2, fun k hk => ?_, by show ld < 256; omega, by show vt < 256; omega⟩
  have e : k = 0 ∨ k = 1 ∨ k = 2 ∨ k = 3 ∨ k = 4 ∨ k = 5 ∨ k = 6 ∨ k = 7 := by omega
  rcases e with rfl | rfl | rfl | rfl | rfl | rfl | rfl | rfl <;> assumption

namespace leaseApart
theorem own : ownKnob Try.prog.godebug = none := by kernel_rfl
theorem laidOut : laidOutB Try.prog = true := by kernel_rfl
set_option maxRecDepth 100000 in
theorem lifted (os : Os) (started : os.Started) (H : Type) (enc : TypeId × Value → H) :
    ReturnsInHanded {} Try.checked os 8 .any (Rows.leaseApartSpec.pre6 enc Try.prog Try.f8 Rows.leaseApartRow.domain false) (Rows.leaseApartSpec.post enc Try.prog Try.f8 false true false false) := by
  refine returnsInHanded_of_change_sized (C := Try.checked) own started (by kernel_rfl) Try.func8
    (ChangeSpec.witness6 (enc := enc) (C := Try.checked) false ⟨#[], #[.int .i64 0, .int .u8 0, .slice none 0 0], []⟩ 8 (by kernel_rfl) (by kernel_rfl) (by kernel_rfl) (by kernel_rfl)) ?_
  intro W base args ds gs before hval0 hW hcnd hsz0 _
  have hW' := hW
  obtain ⟨p, q, hA0, hV, rfl, hfz, hnd⟩ := hW
  have hA : DataW.TrodAll enc Try.prog W 0 (fun _ => true) true Try.f8.params.toList args.toList ds p := hA0
  have hval : ∀ (j : Nat) t v, Try.f8.params[j]? = some t → args[j]? = some v → Value.okWide Try.prog W .any base t v := hval0
  rw [Try.params8] at hA hval
  obtain ⟨v0, vs0, d0, ds0, p0, q0, hargs, rfl, rfl, h0, r0⟩ := trodAll_cons hA
  obtain ⟨v1, vs1, d1, ds1, p1, q1, rfl, rfl, rfl, h1, r1⟩ := trodAll_cons r0
  obtain ⟨v2, vs2, d2, ds2, p2, q2, rfl, rfl, rfl, h2, r2⟩ := trodAll_cons r1
  obtain ⟨rfl, rfl, rfl⟩ := trodAll_nil r2
  obtain rfl : args = #[v0, v1, v2] := by cases args; simp_all
  obtain ⟨rfl, rfl⟩ := trodVars_none hV
  have k0 := h0
  have lt0 : ∀ x ∈ p0, x.block < W.heap.size := by obtain ⟨m, hm⟩ := k0; exact DataW.trod_lt m _ _ _ hm
  have rd0 : Rd W 2 v0.cells.toList := by
    obtain ⟨fuel, hf⟩ := h0
    exact ⟨H, enc, 0, _, _, fuel, _, hf⟩
  have k1 := h1
  have lt1 : ∀ x ∈ p1, x.block < W.heap.size := by obtain ⟨m, hm⟩ := k1; exact DataW.trod_lt m _ _ _ hm
  have rd1 : Rd W 5 v1.cells.toList := by
    obtain ⟨fuel, hf⟩ := h1
    exact ⟨H, enc, 0, _, _, fuel, _, hf⟩
  have k2 := h2
  have lt2 : ∀ x ∈ p2, x.block < W.heap.size := by obtain ⟨m, hm⟩ := k2; exact DataW.trod_lt m _ _ _ hm
  have rd2 : Rd W 94 v2.cells.toList := by
    obtain ⟨fuel, hf⟩ := h2
    exact ⟨H, enc, 0, _, _, fuel, _, hf⟩
  obtain ⟨t, rfl⟩ := okWide_int Try.underlying2 (hval 0 2 v0 rfl rfl)
  obtain ⟨sn, rfl⟩ := okWide_int Try.underlying5 (hval 1 5 v1 rfl rfl)
  obtain ⟨sm, e1, hw⟩ := rd1.int_ Try.underlying5
  simp [Value.cells] at e1
  subst e1
  obtain ⟨hw0, hw1⟩ := wf_bd hw (lo := 0) (hi := 255) rfl rfl
  obtain ⟨s, rfl⟩ := Int.eq_ofNat_of_zero_le hw0
  obtain ⟨a2, len2, cap2, rfl⟩ := okWide_slice Try.underlying94 (hval 2 94 v2 rfl rfl)
  obtain ⟨v, l, hv, hs, hq⟩ := rd2.slices Try.underlying94 15 cells99 (by omega) TurnD.cells (fun c => c.ok) (fun r _ hr => turn99 hr)
  obtain rfl : v = .slice a2 len2 cap2 := by simpa [Value.cells] using hv.symm
  clear hA0 hval0 hsz0
  refine (leaseApart_walk W t s (by omega) _ l (hs.mono (fun _ _ _ => trivial)) hq).mono fun e W' ⟨he, bel0⟩ => ?_
  subst he
  have bel := bel0.below
  exact ⟨_, rfl, _, _, _, [], _, [], hW', trodAll_mk1 (shut_bool Try.underlying4 _), (trodAll_cons_mk (Below.trod laidOut (by kernel_rfl) (of_decide_eq_true (by kernel_rfl)) k0 bel lt0) (trodAll_cons_mk (Below.trod laidOut (by kernel_rfl) (of_decide_eq_true (by kernel_rfl)) k1 bel lt1) (trodAll_cons_mk (Below.trod laidOut (by kernel_rfl) (of_decide_eq_true (by kernel_rfl)) k2 bel lt2) trodAll_mk0))), rfl, bel.frame _, fun h => by cases h⟩
theorem over : Rows.leaseApartRow.holds Try.pinned (OpenSpec.ofChange Rows.leaseApartSpec) :=
  OpenClaim.holds_of_wide 8 Try.f8 rfl rfl rfl rfl rfl rfl rfl ⟨rfl, rfl, rfl, rfl, rfl⟩ rfl rfl rfl rfl rfl (by kernel_rfl) Try.func8 (by kernel_rfl)
    (of_decide_eq_true (by kernel_rfl)) (by unfold Func.isWrapper; first | (rw [if_pos (by decide +kernel)]; kernel_rfl) | (rw [if_neg (by decide +kernel)]; exact ⟨rfl, rfl⟩))
    (fun os started H enc _ => lifted os started H enc)
end leaseApart
theorem leaseApart_holds : Rows.LeaseApartSaid := leaseApart.over
#print axioms leaseApart_holds
end Go.Proofs.Ytjgbandmjamcaaa

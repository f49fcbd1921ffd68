/- Contracts: the document's answers for leases. -/
import Derived.Test.YtjgbandmjamcaaaLeaseA
import Derived.Test.YtjgbandmjamcaaaStampB
namespace Go.Proofs.Ytjgbandmjamcaaa
open Go.RowKit

/-- How many are at least x. -/
def atLeast (hs : List Int) (x : Int) : Nat := hs.countP (fun y => decide (x ≤ y))
def untilStep (hs : List Int) (out x : Int) : Int := if 2 * atLeast hs x > hs.length ∧ x > out then x else out
/-- The document's Until. -/
def untilR (hs : List Int) : Int := hs.foldl (untilStep hs) 0
theorem atLeast_take (hs : List Int) (x : Int) (k : Nat) (h : k < hs.length) : atLeast (hs.take (k + 1)) x = atLeast (hs.take k) x + if x ≤ hs[k] then 1 else 0 := by
  unfold atLeast
  rw [List.take_succ_eq_append_getElem h, List.countP_append]
  simp [List.countP_cons]
theorem atLeast_le (hs : List Int) (x : Int) : atLeast hs x ≤ hs.length := List.countP_le_length
theorem untilR_take (hs : List Int) (k : Nat) (h : k < hs.length) : (hs.take (k + 1)).foldl (untilStep hs) 0 = untilStep hs ((hs.take k).foldl (untilStep hs) 0) hs[k] := by
  rw [List.take_succ_eq_append_getElem h, List.foldl_append]
  rfl

set_option maxRecDepth 100000 in
set_option maxHeartbeats 4000000 in
theorem ref_Until (ok : Nat → Prop) (v : Value) (hs : List Int) (w : World) (hv : Il ok w v hs) (hl : hs.length ≤ 1000) :
    Calls Try.prog 32 #[v] w (Ret (.int .i64 (untilR hs)) fun w' => ∃ n, w.drewN n = w') := by
  obtain ⟨A, cap, rfl, hcap, hmax⟩ := hv.form
  go_enter Try.func32, Try.ntmps32
  go_wp2_with fail
  go_loopg [3, 4] hs.length (fun gk t i wr => ∃ j q : Nat, j ≤ hs.length ∧ gk = hs.length - j ∧ i = .int .i64 j ∧ t = .int .i64 ((hs.take j).foldl (untilStep hs) 0) ∧ w.drewN q = wr)
  case atStart => exact ⟨0, 0, by omega, rfl, rfl, rfl, rfl⟩
  case round =>
    obtain ⟨j, q, hj, rfl, rfl, rfl, rfl⟩ := hrel
    by_cases hlt : j < hs.length
    case neg =>
      obtain rfl : j = hs.length := by omega
      rw [List.take_length]
      go_wp2_with fail
      go_ret
      exact ⟨rfl, q, rfl⟩
    have hstep := Lib.hid (untilR_take hs j hlt)
    generalize (hs.take j).foldl (untilStep hs) 0 = out at *
    obtain ⟨ba, off, rfl, _, _, hcl⟩ := hv.cells (by omega)
    have hcj := hcl j _ (ints_get hlt)
    obtain ⟨x, hxe⟩ : ∃ x, x = hs[j] := ⟨_, rfl⟩
    rw [List.getElem?_eq_getElem hlt, Option.getD_some, ← hxe] at hcj
    rw [← hxe] at hstep
    have HX := Lib.hid hxe
    clear hxe
    go_wp2_with fail
    go_loopg [5, 6] hs.length (fun gk t i wr => ∃ k q2 : Nat, k ≤ hs.length ∧ gk = hs.length - k ∧ i = .int .i64 k ∧ t = .int .i64 (atLeast (hs.take k) x) ∧ w.drewN q2 = wr)
    case atStart => exact ⟨0, q, by omega, rfl, rfl, rfl, rfl⟩
    case round =>
      obtain ⟨k, q2, hk, rfl, rfl, rfl, rfl⟩ := hrel
      have hal := atLeast_le (hs.take k) x
      rw [List.length_take] at hal
      by_cases hkl : k < hs.length
      · have hck := hcl k _ (ints_get hkl)
        obtain ⟨y, hye⟩ : ∃ y, y = hs[k] := ⟨_, rfl⟩
        rw [List.getElem?_eq_getElem hkl, Option.getD_some, ← hye] at hck
        have hac := atLeast_take hs x k hkl
        rw [← hye] at hac
        have HA := Lib.hid hac
        have HY := Lib.hid hye
        clear hye hac hcl
        generalize atLeast (hs.take k) x = c at *
        by_cases hxy : x ≤ y
        · go_wp2_with fail
          go_quiet (fail)
          go_wp2_with fail
          go_roundg (hs.length - (k + 1))
          case measure => omega
          case rel => exact ⟨k + 1, _, hkl, rfl, by go_num, by rw [HA.out, if_pos hxy]; go_num, rfl⟩
        · have hxy' : decide (x ≤ y) = false := by simpa using hxy
          go_wp2_with fail
          go_quiet (fail)
          go_wp2_with fail
          go_roundg (hs.length - (k + 1))
          case measure => omega
          case rel => exact ⟨k + 1, _, hkl, rfl, by go_num, by rw [HA.out, if_neg (by omega)]; rfl, rfl⟩
      · obtain rfl : k = hs.length := by omega
        rw [List.take_length]
        rw [List.take_length, Nat.min_self] at hal
        have hus : Hid (untilStep hs out x = if 2 * atLeast hs x > hs.length ∧ x > out then x else out) := Lib.hid rfl
        generalize atLeast hs x = c at *
        clear hcl
        by_cases h1 : hs.length < 2 * c
        · by_cases h2 : out < x
          · go_wp2_with fail
            go_roundg (hs.length - (j + 1))
            case measure => omega
            case rel => exact ⟨j + 1, _, hlt, rfl, by go_num, by rw [hstep.out, hus.out, if_pos ⟨h1, h2⟩], rfl⟩
          · go_wp2_with fail
            go_roundg (hs.length - (j + 1))
            case measure => omega
            case rel => exact ⟨j + 1, _, hlt, rfl, by go_num, by rw [hstep.out, hus.out, if_neg (by omega)], rfl⟩
        · go_wp2_with fail
          go_roundg (hs.length - (j + 1))
          case measure => omega
          case rel => exact ⟨j + 1, _, hlt, rfl, by go_num, by rw [hstep.out, hus.out, if_neg (by omega)], rfl⟩
def holdsR (hs : List Int) (lo hi : Int) : Bool := isSpan lo hi && decide (hi < untilR hs)
set_option maxRecDepth 100000 in
set_option maxHeartbeats 4000000 in
theorem ref_Holds (ok : Nat → Prop) (v : Value) (hs : List Int) (lo hi : Int) (w : World) (hv : Il ok w v hs) (hl : hs.length ≤ 1000) :
    Calls Try.prog 34 #[v, .agg #[.int .i64 lo, .int .i64 hi]] w (Ret (.bool (holdsR hs lo hi)) (Kp none_ w)) := by
  have hv1 := hv.alloc (.cells #[.int .i64 lo, .int .i64 hi] 28)
  have hp := Blk.new w 28 #[.int .i64 lo, .int .i64 hi]
  by_cases hs' : isSpan lo hi = true
  · have hr : holdsR hs lo hi = decide (hi < untilR hs) := by simp [holdsR, hs']
    rw [hr]
    generalize hu : untilR hs = u at *
    have HU := Lib.hid hu
    clear hu hr
    go_enter Try.func34, Try.ntmps34
    go_wp2_with fail
    go_region_held3 (fun w' => w'.cell? ⟨w.heap.size, 0, none⟩ = some (.int .i64 lo) ∧ w'.cell? ⟨w.heap.size, 1, none⟩ = some (.int .i64 hi)) (first | go_keep | assumption) (first
      | (go_at_call 44; refine (ref_Is _ _ _).mono ?_; rintro e w1 ⟨rfl, hk1⟩; rw [hs']; have hp1 := hp.drew.kp hk1 (fun h => h); have hv2 := hv1.drew.then_ hk1; have d0 := hp1.cell 0; have d1 := hp1.cell 1; simp at d0 d1)
      | (go_at_call 32; refine (ref_Until ok v hs _ hv2 hl).mono ?_; rintro e w2 ⟨rfl, nq, rfl⟩; rw [HU.out]))
    go_wp2_with fail
    go_ret
    exact ⟨rfl, (((Kp.refl none_ w).alloc _).drew.then_ hk1).drewN _⟩
  · have hs2 : isSpan lo hi = false := by simpa using hs'
    have hr : holdsR hs lo hi = false := by simp [holdsR, hs2]
    rw [hr]
    go_enter Try.func34, Try.ntmps34
    go_wp2_with fail
    first | go_region_with (go_at_call 44; refine (ref_Is _ _ _).mono ?_; rintro e w1 ⟨rfl, hk1⟩; rw [hs2]) | fail
    all_goals (go_wp2_with fail; go_ret; exact ⟨rfl, ((Kp.refl none_ w).alloc _).drew.then_ hk1⟩)

/-- The document's Reborn: the voter, and the error. -/
def rebornR (lo hi : Int) : Int × Int := if isSpan lo hi = true then (min (hi + 1048576) 1125899906842624, 0) else (0, 240)
set_option maxHeartbeats 2000000 in
theorem ref_Reborn (lo hi : Int) (w : World) : Calls Try.prog 37 #[.agg #[.int .i64 lo, .int .i64 hi]] w (Ret (.tuple #[.agg #[.int .i64 0, .int .i64 (rebornR lo hi).1], .int .i64 (rebornR lo hi).2]) (Kp none_ w)) := by
  obtain ⟨r, hr⟩ : ∃ r, r = rebornR lo hi := ⟨_, rfl⟩
  rw [← hr]
  have HR := Lib.hid hr
  clear hr
  by_cases hs : isSpan lo hi = true
  · obtain ⟨b1, b2, b3⟩ := isSpan_iff.1 hs
    go_enter Try.func37, Try.ntmps37
    go_wp2_with fail
    refine (ref_Is _ _ _).mono ?_; rintro e w1 ⟨rfl, hk1⟩
    rw [hs]
    have hp1 := ((Blk.new w 28 #[.int .i64 lo, .int .i64 hi]).alloc (.cells #[.int .i64 0, .int .i64 0] 83)).kp hk1 (fun h => h)
    have hq1 := (Blk.new (w.alloc (.cells #[.int .i64 lo, .int .i64 hi] 28)) 83 #[.int .i64 0, .int .i64 0]).kp hk1 (fun h => h)
    have hkw := (((Kp.refl none_ w).alloc (.cells #[.int .i64 lo, .int .i64 hi] 28)).alloc (.cells #[.int .i64 0, .int .i64 0] 83)).then_ hk1
    have c1 := hp1.cell 1
    simp at c1 hq1
    have d0 := hq1.cell 0
    have d1 := hq1.cell 1
    have f0 := hq1.frozen 0
    have f1 := hq1.frozen 1
    simp at d0 d1
    by_cases hf : 1125899905794048 < hi
    · have hr : r = (1125899906842624, 0) := by rw [HR.out, rebornR, if_pos hs, Int.min_eq_right (by omega)]
      have HR2 := Lib.hid hr
      clear hr
      have hq2 := (hq1.set 0 (.int .i64 0)).set 1 (.int .i64 1125899906842624)
      have e0 : _ = some (Value.int .i64 0) := hq2.cell 0
      have e1 : _ = some (Value.int .i64 1125899906842624) := hq2.cell 1
      go_wp2_with fail
      rw [HR2.out]
      exact bodyPost_ret (v := .tuple #[.agg #[.int .i64 0, .int .i64 1125899906842624], .int .i64 0]) (by simp [results, Try.results37, go_sem, e0, e1]) rfl ⟨rfl, (hkw.setCell (p := ⟨w.heap.size + 1, 0, none⟩) _ (.inr (by simp))).setCell (p := ⟨w.heap.size + 1, 1, none⟩) _ (.inr (by simp))⟩
    · have hr : r = (hi + 1048576, 0) := by rw [HR.out, rebornR, if_pos hs, Int.min_eq_left (by omega)]
      have HR2 := Lib.hid hr
      clear hr
      have hq2 := (hq1.set 0 (.int .i64 0)).set 1 (.int .i64 (hi + 1048576))
      have e0 : _ = some (Value.int .i64 0) := hq2.cell 0
      have e1 : _ = some (Value.int .i64 (hi + 1048576)) := hq2.cell 1
      go_wp2_with fail
      rw [HR2.out]
      exact bodyPost_ret (v := .tuple #[.agg #[.int .i64 0, .int .i64 (hi + 1048576)], .int .i64 0]) (by simp [results, Try.results37, go_sem, e0, e1]) rfl ⟨rfl, (hkw.setCell (p := ⟨w.heap.size + 1, 0, none⟩) _ (.inr (by simp))).setCell (p := ⟨w.heap.size + 1, 1, none⟩) _ (.inr (by simp))⟩
  · have hs' : isSpan lo hi = false := by simpa using hs
    have hr : r = (0, 240) := by rw [HR.out, rebornR, if_neg hs]
    have HR2 := Lib.hid hr
    clear hr
    go_enter Try.func37, Try.ntmps37
    go_wp2_with fail
    refine (ref_Is _ _ _).mono ?_; rintro e w1 ⟨rfl, hk1⟩
    rw [hs']
    have hq1 := (Blk.new (w.alloc (.cells #[.int .i64 lo, .int .i64 hi] 28)) 83 #[.int .i64 0, .int .i64 0]).kp hk1 (fun h => h)
    have hkw := (((Kp.refl none_ w).alloc (.cells #[.int .i64 lo, .int .i64 hi] 28)).alloc (.cells #[.int .i64 0, .int .i64 0] 83)).then_ hk1
    simp at hq1
    have d0 := hq1.cell 0
    have d1 := hq1.cell 1
    have f0 := hq1.frozen 0
    have f1 := hq1.frozen 1
    simp at d0 d1
    have hq2 := (hq1.set 0 (.int .i64 0)).set 1 (.int .i64 0)
    have e0 : _ = some (Value.int .i64 0) := hq2.cell 0
    have e1 : _ = some (Value.int .i64 0) := hq2.cell 1
    go_wp2_with fail
    rw [HR2.out]
    exact bodyPost_ret (v := .tuple #[.agg #[.int .i64 0, .int .i64 0], .int .i64 240]) (by simp [results, Try.results37, go_sem, e0, e1]) rfl ⟨rfl, (hkw.setCell (p := ⟨w.heap.size + 1, 0, none⟩) _ (.inr (by simp))).setCell (p := ⟨w.heap.size + 1, 1, none⟩) _ (.inr (by simp))⟩
end Go.Proofs.Ytjgbandmjamcaaa

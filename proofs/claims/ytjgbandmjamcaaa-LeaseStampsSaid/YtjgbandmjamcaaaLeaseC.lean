/- Contracts: the document's Grant and Stamp. -/
import Derived.Test.YtjgbandmjamcaaaLeaseB
namespace Go.Proofs.Ytjgbandmjamcaaa
open Go.RowKit

set_option maxRecDepth 100000 in
set_option maxHeartbeats 8000000 in
theorem ref_Grant (ld un lo hi leader len : Int) (w : World) : Calls Try.prog 38 #[.agg #[.int .i64 ld, .int .i64 un], .agg #[.int .i64 lo, .int .i64 hi], .int .i64 leader, .int .i64 len] w
    (Ret (.tuple #[.agg #[.int .i64 (grantP ld un lo hi leader len).2.2.1, .int .i64 (grantP ld un lo hi leader len).2.2.2], .int .i64 (grantP ld un lo hi leader len).1, .int .i64 (grantP ld un lo hi leader len).2.1]) (Kp none_ w)) := by
  obtain ⟨r, hr⟩ : ∃ r, r = grantP ld un lo hi leader len := ⟨_, rfl⟩
  rw [← hr]
  have HR := Lib.hid hr
  clear hr
  have hv := ((Blk.new w 83 #[.int .i64 ld, .int .i64 un]).alloc (.cells #[.int .i64 lo, .int .i64 hi] 28)).alloc (.cells #[.int .i64 0, .int .i64 0] 83)
  have hp := (Blk.new' (w.alloc (.cells #[.int .i64 ld, .int .i64 un] 83)) 28 #[.int .i64 lo, .int .i64 hi] (w.heap.size + 1) (by simp)).alloc (.cells #[.int .i64 0, .int .i64 0] 83)
  have hq := Blk.new' ((w.alloc (.cells #[.int .i64 ld, .int .i64 un] 83)).alloc (.cells #[.int .i64 lo, .int .i64 hi] 28)) 83 #[.int .i64 0, .int .i64 0] (w.heap.size + 2) (by simp)
  have hk := (((Kp.refl none_ w).alloc (.cells #[.int .i64 ld, .int .i64 un] 83)).alloc (.cells #[.int .i64 lo, .int .i64 hi] 28)).alloc (.cells #[.int .i64 0, .int .i64 0] 83)
  by_cases hs : isSpan lo hi = true
  case neg =>
    have hs' : isSpan lo hi = false := by simpa using hs
    have hr : r = (0, 240, ld, un) := by rw [HR.out, grantP, if_neg (fun h => hs h.1)]
    have HR2 := Lib.hid hr
    clear hr
    go_enter Try.func38, Try.ntmps38
    go_wp2_with fail
    refine (ref_Is _ _ _).mono ?_; rintro e w1 ⟨rfl, hk1⟩
    rw [hs']
    have hv1 := hv.kp hk1 (fun h => h); have hp1 := hp.kp hk1 (fun h => h); have hq1 := hq.kp hk1 (fun h => h); have hkw := hk.then_ hk1; have c0 := hv1.cell 0; have c1 := hv1.cell 1; have p0 := hp1.cell 0; have p1 := hp1.cell 1; have q0 := hq1.cell 0; have q1 := hq1.cell 1; have f0 := hq1.frozen 0; have f1 := hq1.frozen 1; simp at c0 c1 p0 p1 q0 q1
    have hz := (hq1.set 0 (.int .i64 ld)).set 1 (.int .i64 un); have e0 : _ = some (Value.int .i64 ld) := hz.cell 0; have e1 : _ = some (Value.int .i64 un) := hz.cell 1; (go_wp2_with fail); rw [HR2.out]; exact bodyPost_ret (v := .tuple #[.agg #[.int .i64 ld, .int .i64 un], .int .i64 0, .int .i64 240]) (by simp [results, Try.results38, go_sem, e0, e1]) rfl ⟨rfl, (hkw.setCell (p := ⟨w.heap.size + 2, 0, none⟩) _ (.inr (by simp))).setCell (p := ⟨w.heap.size + 2, 1, none⟩) _ (.inr (by simp))⟩
  obtain ⟨b1, b2, b3⟩ := isSpan_iff.1 hs
  by_cases h1 : len < 1
  · have hr : r = (0, 240, ld, un) := by rw [HR.out, grantP, if_neg (by omega)]
    have HR2 := Lib.hid hr
    clear hr
    go_enter Try.func38, Try.ntmps38
    go_wp2_with fail
    refine (ref_Is _ _ _).mono ?_; rintro e w1 ⟨rfl, hk1⟩
    rw [hs]
    have hv1 := hv.kp hk1 (fun h => h); have hp1 := hp.kp hk1 (fun h => h); have hq1 := hq.kp hk1 (fun h => h); have hkw := hk.then_ hk1; have c0 := hv1.cell 0; have c1 := hv1.cell 1; have p0 := hp1.cell 0; have p1 := hp1.cell 1; have q0 := hq1.cell 0; have q1 := hq1.cell 1; have f0 := hq1.frozen 0; have f1 := hq1.frozen 1; simp at c0 c1 p0 p1 q0 q1
    have hz := (hq1.set 0 (.int .i64 ld)).set 1 (.int .i64 un); have e0 : _ = some (Value.int .i64 ld) := hz.cell 0; have e1 : _ = some (Value.int .i64 un) := hz.cell 1; (go_wp2_with fail); rw [HR2.out]; exact bodyPost_ret (v := .tuple #[.agg #[.int .i64 ld, .int .i64 un], .int .i64 0, .int .i64 240]) (by simp [results, Try.results38, go_sem, e0, e1]) rfl ⟨rfl, (hkw.setCell (p := ⟨w.heap.size + 2, 0, none⟩) _ (.inr (by simp))).setCell (p := ⟨w.heap.size + 2, 1, none⟩) _ (.inr (by simp))⟩
  by_cases h2 : 1048576 < len
  · have hr : r = (0, 240, ld, un) := by rw [HR.out, grantP, if_neg (by omega)]
    have HR2 := Lib.hid hr
    clear hr
    go_enter Try.func38, Try.ntmps38
    go_wp2_with fail
    refine (ref_Is _ _ _).mono ?_; rintro e w1 ⟨rfl, hk1⟩
    rw [hs]
    have hv1 := hv.kp hk1 (fun h => h); have hp1 := hp.kp hk1 (fun h => h); have hq1 := hq.kp hk1 (fun h => h); have hkw := hk.then_ hk1; have c0 := hv1.cell 0; have c1 := hv1.cell 1; have p0 := hp1.cell 0; have p1 := hp1.cell 1; have q0 := hq1.cell 0; have q1 := hq1.cell 1; have f0 := hq1.frozen 0; have f1 := hq1.frozen 1; simp at c0 c1 p0 p1 q0 q1
    have hz := (hq1.set 0 (.int .i64 ld)).set 1 (.int .i64 un); have e0 : _ = some (Value.int .i64 ld) := hz.cell 0; have e1 : _ = some (Value.int .i64 un) := hz.cell 1; (go_wp2_with fail); rw [HR2.out]; exact bodyPost_ret (v := .tuple #[.agg #[.int .i64 ld, .int .i64 un], .int .i64 0, .int .i64 240]) (by simp [results, Try.results38, go_sem, e0, e1]) rfl ⟨rfl, (hkw.setCell (p := ⟨w.heap.size + 2, 0, none⟩) _ (.inr (by simp))).setCell (p := ⟨w.heap.size + 2, 1, none⟩) _ (.inr (by simp))⟩
  by_cases h3 : leader < 1
  · have hr : r = (0, 242, ld, un) := by rw [HR.out, grantP, if_pos ⟨hs, by omega, by omega⟩, if_pos h3]
    have HR2 := Lib.hid hr
    clear hr
    go_enter Try.func38, Try.ntmps38
    go_wp2_with fail
    refine (ref_Is _ _ _).mono ?_; rintro e w1 ⟨rfl, hk1⟩
    rw [hs]
    have hv1 := hv.kp hk1 (fun h => h); have hp1 := hp.kp hk1 (fun h => h); have hq1 := hq.kp hk1 (fun h => h); have hkw := hk.then_ hk1; have c0 := hv1.cell 0; have c1 := hv1.cell 1; have p0 := hp1.cell 0; have p1 := hp1.cell 1; have q0 := hq1.cell 0; have q1 := hq1.cell 1; have f0 := hq1.frozen 0; have f1 := hq1.frozen 1; simp at c0 c1 p0 p1 q0 q1
    have hz := (hq1.set 0 (.int .i64 ld)).set 1 (.int .i64 un); have e0 : _ = some (Value.int .i64 ld) := hz.cell 0; have e1 : _ = some (Value.int .i64 un) := hz.cell 1; (go_wp2_with fail); rw [HR2.out]; exact bodyPost_ret (v := .tuple #[.agg #[.int .i64 ld, .int .i64 un], .int .i64 0, .int .i64 242]) (by simp [results, Try.results38, go_sem, e0, e1]) rfl ⟨rfl, (hkw.setCell (p := ⟨w.heap.size + 2, 0, none⟩) _ (.inr (by simp))).setCell (p := ⟨w.heap.size + 2, 1, none⟩) _ (.inr (by simp))⟩
  obtain ⟨m, hm⟩ : ∃ m, m = min (lo + len) 1125899906842624 := ⟨_, rfl⟩
  by_cases h4 : ld = leader
  · subst h4
    have hr : r = (max m un, 0, ld, max m un) := by rw [HR.out, grantP, if_pos ⟨hs, by omega, by omega⟩, if_neg h3, if_pos rfl, hm]
    have HR2 := Lib.hid hr
    clear hr
    by_cases h5 : 1125899906842624 < lo + len
    · obtain rfl : m = 1125899906842624 := by rw [hm, Int.min_eq_right (by omega)]
      clear hm
      by_cases h6 : 1125899906842624 < un
      · have e6 : max 1125899906842624 un = un := Int.max_eq_right (by omega)
        rw [e6] at HR2
        clear e6
        go_enter Try.func38, Try.ntmps38
        go_wp2_with fail
        refine (ref_Is _ _ _).mono ?_; rintro e w1 ⟨rfl, hk1⟩
        rw [hs]
        have hv1 := hv.kp hk1 (fun h => h); have hp1 := hp.kp hk1 (fun h => h); have hq1 := hq.kp hk1 (fun h => h); have hkw := hk.then_ hk1; have c0 := hv1.cell 0; have c1 := hv1.cell 1; have p0 := hp1.cell 0; have p1 := hp1.cell 1; have q0 := hq1.cell 0; have q1 := hq1.cell 1; have f0 := hq1.frozen 0; have f1 := hq1.frozen 1; simp at c0 c1 p0 p1 q0 q1
        have hz := (hq1.set 0 (.int .i64 ld)).set 1 (.int .i64 un); have e0 : _ = some (Value.int .i64 ld) := hz.cell 0; have e1 : _ = some (Value.int .i64 un) := hz.cell 1; (go_wp2_with fail); rw [HR2.out]; exact bodyPost_ret (v := .tuple #[.agg #[.int .i64 ld, .int .i64 un], .int .i64 un, .int .i64 0]) (by simp [results, Try.results38, go_sem, e0, e1]) rfl ⟨rfl, (hkw.setCell (p := ⟨w.heap.size + 2, 0, none⟩) _ (.inr (by simp))).setCell (p := ⟨w.heap.size + 2, 1, none⟩) _ (.inr (by simp))⟩
      · have e6 : max 1125899906842624 un = 1125899906842624 := Int.max_eq_left (by omega)
        rw [e6] at HR2
        clear e6
        go_enter Try.func38, Try.ntmps38
        go_wp2_with fail
        refine (ref_Is _ _ _).mono ?_; rintro e w1 ⟨rfl, hk1⟩
        rw [hs]
        have hv1 := hv.kp hk1 (fun h => h); have hp1 := hp.kp hk1 (fun h => h); have hq1 := hq.kp hk1 (fun h => h); have hkw := hk.then_ hk1; have c0 := hv1.cell 0; have c1 := hv1.cell 1; have p0 := hp1.cell 0; have p1 := hp1.cell 1; have q0 := hq1.cell 0; have q1 := hq1.cell 1; have f0 := hq1.frozen 0; have f1 := hq1.frozen 1; simp at c0 c1 p0 p1 q0 q1
        have hz := (hq1.set 0 (.int .i64 ld)).set 1 (.int .i64 1125899906842624); have e0 : _ = some (Value.int .i64 ld) := hz.cell 0; have e1 : _ = some (Value.int .i64 1125899906842624) := hz.cell 1; (go_wp2_with fail); rw [HR2.out]; exact bodyPost_ret (v := .tuple #[.agg #[.int .i64 ld, .int .i64 1125899906842624], .int .i64 1125899906842624, .int .i64 0]) (by simp [results, Try.results38, go_sem, e0, e1]) rfl ⟨rfl, (hkw.setCell (p := ⟨w.heap.size + 2, 0, none⟩) _ (.inr (by simp))).setCell (p := ⟨w.heap.size + 2, 1, none⟩) _ (.inr (by simp))⟩
    · obtain rfl : m = lo + len := by rw [hm, Int.min_eq_left (by omega)]
      clear hm
      by_cases h6 : lo + len < un
      · have e6 : max (lo + len) un = un := Int.max_eq_right (by omega)
        rw [e6] at HR2
        clear e6
        go_enter Try.func38, Try.ntmps38
        go_wp2_with fail
        refine (ref_Is _ _ _).mono ?_; rintro e w1 ⟨rfl, hk1⟩
        rw [hs]
        have hv1 := hv.kp hk1 (fun h => h); have hp1 := hp.kp hk1 (fun h => h); have hq1 := hq.kp hk1 (fun h => h); have hkw := hk.then_ hk1; have c0 := hv1.cell 0; have c1 := hv1.cell 1; have p0 := hp1.cell 0; have p1 := hp1.cell 1; have q0 := hq1.cell 0; have q1 := hq1.cell 1; have f0 := hq1.frozen 0; have f1 := hq1.frozen 1; simp at c0 c1 p0 p1 q0 q1
        have hz := (hq1.set 0 (.int .i64 ld)).set 1 (.int .i64 un); have e0 : _ = some (Value.int .i64 ld) := hz.cell 0; have e1 : _ = some (Value.int .i64 un) := hz.cell 1; (go_wp2_with fail); rw [HR2.out]; exact bodyPost_ret (v := .tuple #[.agg #[.int .i64 ld, .int .i64 un], .int .i64 un, .int .i64 0]) (by simp [results, Try.results38, go_sem, e0, e1]) rfl ⟨rfl, (hkw.setCell (p := ⟨w.heap.size + 2, 0, none⟩) _ (.inr (by simp))).setCell (p := ⟨w.heap.size + 2, 1, none⟩) _ (.inr (by simp))⟩
      · have e6 : max (lo + len) un = lo + len := Int.max_eq_left (by omega)
        rw [e6] at HR2
        clear e6
        go_enter Try.func38, Try.ntmps38
        go_wp2_with fail
        refine (ref_Is _ _ _).mono ?_; rintro e w1 ⟨rfl, hk1⟩
        rw [hs]
        have hv1 := hv.kp hk1 (fun h => h); have hp1 := hp.kp hk1 (fun h => h); have hq1 := hq.kp hk1 (fun h => h); have hkw := hk.then_ hk1; have c0 := hv1.cell 0; have c1 := hv1.cell 1; have p0 := hp1.cell 0; have p1 := hp1.cell 1; have q0 := hq1.cell 0; have q1 := hq1.cell 1; have f0 := hq1.frozen 0; have f1 := hq1.frozen 1; simp at c0 c1 p0 p1 q0 q1
        have hz := (hq1.set 0 (.int .i64 ld)).set 1 (.int .i64 (lo + len)); have e0 : _ = some (Value.int .i64 ld) := hz.cell 0; have e1 : _ = some (Value.int .i64 (lo + len)) := hz.cell 1; (go_wp2_with fail); rw [HR2.out]; exact bodyPost_ret (v := .tuple #[.agg #[.int .i64 ld, .int .i64 (lo + len)], .int .i64 (lo + len), .int .i64 0]) (by simp [results, Try.results38, go_sem, e0, e1]) rfl ⟨rfl, (hkw.setCell (p := ⟨w.heap.size + 2, 0, none⟩) _ (.inr (by simp))).setCell (p := ⟨w.heap.size + 2, 1, none⟩) _ (.inr (by simp))⟩
  · have h4' : (ld == leader) = false := by simp [h4]
    have h4n : (ld != leader) = true := by simp [h4]
    by_cases h5 : lo ≤ un
    · have hr : r = (0, 241, ld, un) := by rw [HR.out, grantP, if_pos ⟨hs, by omega, by omega⟩, if_neg h3, if_neg h4, if_pos h5]
      have HR2 := Lib.hid hr
      clear hr hm h4
      have h5' : decide (un < lo) = false := by simpa using h5
      by_cases h6 : 1125899906842624 < lo + len
      · go_enter Try.func38, Try.ntmps38
        go_wp2_with fail
        refine (ref_Is _ _ _).mono ?_; rintro e w1 ⟨rfl, hk1⟩
        rw [hs]
        have hv1 := hv.kp hk1 (fun h => h); have hp1 := hp.kp hk1 (fun h => h); have hq1 := hq.kp hk1 (fun h => h); have hkw := hk.then_ hk1; have c0 := hv1.cell 0; have c1 := hv1.cell 1; have p0 := hp1.cell 0; have p1 := hp1.cell 1; have q0 := hq1.cell 0; have q1 := hq1.cell 1; have f0 := hq1.frozen 0; have f1 := hq1.frozen 1; simp at c0 c1 p0 p1 q0 q1
        have hz := (hq1.set 0 (.int .i64 ld)).set 1 (.int .i64 un); have e0 : _ = some (Value.int .i64 ld) := hz.cell 0; have e1 : _ = some (Value.int .i64 un) := hz.cell 1; (go_wp2_with fail); rw [HR2.out]; exact bodyPost_ret (v := .tuple #[.agg #[.int .i64 ld, .int .i64 un], .int .i64 0, .int .i64 241]) (by simp [results, Try.results38, go_sem, e0, e1]) rfl ⟨rfl, (hkw.setCell (p := ⟨w.heap.size + 2, 0, none⟩) _ (.inr (by simp))).setCell (p := ⟨w.heap.size + 2, 1, none⟩) _ (.inr (by simp))⟩
      · go_enter Try.func38, Try.ntmps38
        go_wp2_with fail
        refine (ref_Is _ _ _).mono ?_; rintro e w1 ⟨rfl, hk1⟩
        rw [hs]
        have hv1 := hv.kp hk1 (fun h => h); have hp1 := hp.kp hk1 (fun h => h); have hq1 := hq.kp hk1 (fun h => h); have hkw := hk.then_ hk1; have c0 := hv1.cell 0; have c1 := hv1.cell 1; have p0 := hp1.cell 0; have p1 := hp1.cell 1; have q0 := hq1.cell 0; have q1 := hq1.cell 1; have f0 := hq1.frozen 0; have f1 := hq1.frozen 1; simp at c0 c1 p0 p1 q0 q1
        have hz := (hq1.set 0 (.int .i64 ld)).set 1 (.int .i64 un); have e0 : _ = some (Value.int .i64 ld) := hz.cell 0; have e1 : _ = some (Value.int .i64 un) := hz.cell 1; (go_wp2_with fail); rw [HR2.out]; exact bodyPost_ret (v := .tuple #[.agg #[.int .i64 ld, .int .i64 un], .int .i64 0, .int .i64 241]) (by simp [results, Try.results38, go_sem, e0, e1]) rfl ⟨rfl, (hkw.setCell (p := ⟨w.heap.size + 2, 0, none⟩) _ (.inr (by simp))).setCell (p := ⟨w.heap.size + 2, 1, none⟩) _ (.inr (by simp))⟩
    · have hr : r = (m, 0, leader, m) := by rw [HR.out, grantP, if_pos ⟨hs, by omega, by omega⟩, if_neg h3, if_neg h4, if_neg h5, hm]
      have HR2 := Lib.hid hr
      clear hr h4
      by_cases h6 : 1125899906842624 < lo + len
      · obtain rfl : m = 1125899906842624 := by rw [hm, Int.min_eq_right (by omega)]
        clear hm
        go_enter Try.func38, Try.ntmps38
        go_wp2_with fail
        refine (ref_Is _ _ _).mono ?_; rintro e w1 ⟨rfl, hk1⟩
        rw [hs]
        have hv1 := hv.kp hk1 (fun h => h); have hp1 := hp.kp hk1 (fun h => h); have hq1 := hq.kp hk1 (fun h => h); have hkw := hk.then_ hk1; have c0 := hv1.cell 0; have c1 := hv1.cell 1; have p0 := hp1.cell 0; have p1 := hp1.cell 1; have q0 := hq1.cell 0; have q1 := hq1.cell 1; have f0 := hq1.frozen 0; have f1 := hq1.frozen 1; simp at c0 c1 p0 p1 q0 q1
        have hz := (hq1.set 0 (.int .i64 leader)).set 1 (.int .i64 1125899906842624); have e0 : _ = some (Value.int .i64 leader) := hz.cell 0; have e1 : _ = some (Value.int .i64 1125899906842624) := hz.cell 1; (go_wp2_with fail); rw [HR2.out]; exact bodyPost_ret (v := .tuple #[.agg #[.int .i64 leader, .int .i64 1125899906842624], .int .i64 1125899906842624, .int .i64 0]) (by simp [results, Try.results38, go_sem, e0, e1]) rfl ⟨rfl, (hkw.setCell (p := ⟨w.heap.size + 2, 0, none⟩) _ (.inr (by simp))).setCell (p := ⟨w.heap.size + 2, 1, none⟩) _ (.inr (by simp))⟩
      · obtain rfl : m = lo + len := by rw [hm, Int.min_eq_left (by omega)]
        clear hm
        go_enter Try.func38, Try.ntmps38
        go_wp2_with fail
        refine (ref_Is _ _ _).mono ?_; rintro e w1 ⟨rfl, hk1⟩
        rw [hs]
        have hv1 := hv.kp hk1 (fun h => h); have hp1 := hp.kp hk1 (fun h => h); have hq1 := hq.kp hk1 (fun h => h); have hkw := hk.then_ hk1; have c0 := hv1.cell 0; have c1 := hv1.cell 1; have p0 := hp1.cell 0; have p1 := hp1.cell 1; have q0 := hq1.cell 0; have q1 := hq1.cell 1; have f0 := hq1.frozen 0; have f1 := hq1.frozen 1; simp at c0 c1 p0 p1 q0 q1
        have hz := (hq1.set 0 (.int .i64 leader)).set 1 (.int .i64 (lo + len)); have e0 : _ = some (Value.int .i64 leader) := hz.cell 0; have e1 : _ = some (Value.int .i64 (lo + len)) := hz.cell 1; (go_wp2_with fail); rw [HR2.out]; exact bodyPost_ret (v := .tuple #[.agg #[.int .i64 leader, .int .i64 (lo + len)], .int .i64 (lo + len), .int .i64 0]) (by simp [results, Try.results38, go_sem, e0, e1]) rfl ⟨rfl, (hkw.setCell (p := ⟨w.heap.size + 2, 0, none⟩) _ (.inr (by simp))).setCell (p := ⟨w.heap.size + 2, 1, none⟩) _ (.inr (by simp))⟩
end Go.Proofs.Ytjgbandmjamcaaa

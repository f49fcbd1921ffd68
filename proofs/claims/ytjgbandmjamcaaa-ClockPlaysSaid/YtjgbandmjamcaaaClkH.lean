/- Contracts: the document's clock is asked. -/
import Derived.Test.YtjgbandmjamcaaaClkK
namespace Go.Proofs.Ytjgbandmjamcaaa
open Go.RowKit
attribute [local go_sem] run_store_float

set_option maxRecDepth 100000 in
set_option maxHeartbeats 4000000 in
theorem refclk_Now (rate : Nat) (lv : Value) (ts : List TakD) (c : ClkD) (h : Int) (w : World) (hl : Tl (fun _ => True) w lv ts) (hr : TRel ts c) (hn : ts.length ≤ 1000) (hrate : isRateC rate) (hcr : c.rate = rate) :
    Calls Try.prog 23 #[.agg #[.float .f64 rate, lv], .int .i64 h] w (refNowOut rate (nowErr c h) (nowLoE c h) (nowHiE c h) (if nowErr c h = 0 then ts ++ [⟨h, false, 0, 0, nowLo c h⟩] else ts) w) := by
  obtain ⟨A, cap, rfl, hcap, hmax⟩ := hl.form
  unfold maxLen at hmax
  have htm : ∀ (n : Int) (wx : World), Calls Try.prog 49 #[.int .i64 n] wx (Ret (.bool (isTime n)) (· = wx)) := fun n wx => (ref_Time n wx).mono fun e' w' h => ⟨h.1, h.2.symm⟩
  obtain ⟨b, hb⟩ : ∃ b, b = w.heap.size := ⟨_, rfl⟩
  obtain ⟨w1, hw1⟩ : ∃ w1, w1 = (((w.alloc (.cells #[.float .f64 rate, .slice A ts.length cap] 50)).alloc (.cells #[.float .f64 0, .slice none 0 0] 50)).alloc (.cells #[.int .i64 0, .int .i64 0] 28)).alloc (.cells #[.int .i64 0, .int .i64 0] 28) := ⟨_, rfl⟩
  have hM : NowM w b rate (.slice A ts.length cap) w1 := by
    subst hw1 hb
    exact ⟨(by with_reducible repeat (first | exact Kp.refl _ _ | apply Kp.drew | apply Kp.drewN | apply Kp.alloc)), rfl, (((Blk.new _ _ _).alloc _).alloc _).alloc _, ((Blk.new' _ _ _ _ (by simp)).alloc _).alloc _, (Blk.new' _ _ _ _ (by simp)).alloc _, Blk.new' _ _ _ _ (by simp)⟩
  by_cases h1 : isTime h = true
  case neg =>
    have h1' : isTime h = false := by simpa using h1
    have he : nowErr c h = 61 := by unfold nowErr; rw [if_neg h1]
    have hlo : nowLoE c h = 0 := by unfold nowLoE; rw [he]; rfl
    have hhi : nowHiE c h = 0 := by unfold nowHiE; rw [he]; rfl
    rw [hlo, hhi, he, if_neg (by decide)]
    clear he hlo hhi h1
    go_enter Try.func23, Try.ntmps23
    go_wp2_with fail
    rw [← hw1, ← hb]
    simp only [Nat.add_assoc, Nat.reduceAdd]
    clear hw1 hb
    refine (htm h _).mono ?_; rintro e' w2 ⟨rfl, rfl⟩
    rw [h1']
    have a0 := hM.recv.cell 0
    have a1 := hM.recv.cell 1
    have n0 := hM.none.cell 0
    have n1 := hM.none.cell 1
    have p0 := hM.r0.cell 0
    have p1 := hM.r0.cell 1
    have p2 := hM.r1.cell 0
    have p3 := hM.r1.cell 1
    have q0 := hM.r0.frozen 0
    have q1 := hM.r0.frozen 1
    have q2 := hM.r1.frozen 0
    have q3 := hM.r1.frozen 1
    simp at a0 a1 n0 n1 p0 p1 p2 p3
    have hfin := Lib.hid (now_fin hM hl 61)
    have hsz := hM.r1.lt
    go_upto_region 3 with fail
    refine wp_region_D [] (fun w' => w'.cell? ⟨b, 0, none⟩ = some (.float .f64 rate) ∧ w'.cell? ⟨b, 1, none⟩ = some (.slice A ts.length cap) ∧ w'.cell? ⟨b + 3, 0, none⟩ = some (.int .i64 0) ∧ w'.cell? ⟨b + 3, 1, none⟩ = some (.int .i64 0)) (by kernel_rfl) ?_ (fun hHeld => ?_)
    · try dsimp only
      first | exact ⟨a0, a1, n0, n1⟩ | go_keep | simp [go_sem, a0, a1, n0, n1]
    refine wpD_take 0 (v := ?_) rfl (by kernel_rfl) (by kernel_rfl) (by kernel_rfl) (by kernel_rfl) (by kernel_rfl) (fun _ _ _ h => h) hHeld (yields_if (by rfl) ?_) ?_; rotate_left; (· intro wS hS; (try dsimp only at hS); (try go_simp); try with_reducible rfl)
    try simp only [Act.put, List.setIfInBounds_toArray, List.set_cons_zero, List.set_cons_succ]
    refine wpD_take 1 (v := ?_) rfl (by kernel_rfl) (by kernel_rfl) (by kernel_rfl) (by kernel_rfl) (by kernel_rfl) (fun _ _ _ h => h) hHeld (yields_if (by rfl) ?_) ?_; rotate_left; (· intro wS hS; (try dsimp only at hS); (try go_simp); try with_reducible rfl)
    try simp only [Act.put, List.setIfInBounds_toArray, List.set_cons_zero, List.set_cons_succ]
    refine wpD_ready [2] (by kernel_rfl) (by simp) ?_
    refine AllD.cons 2 rfl (fun K' hK => ?_) AllD.nil
    go_simp
    (try go_wp2_with fail)
    refine hold_step hK ?_ (fun hHeld => ?_)
    · try dsimp only
      first | exact ⟨a0, a1, n0, n1⟩ | go_keep | simp [go_sem, a0, a1, n0, n1]
    clear hK K'
    try simp only [Act.put, List.setIfInBounds_toArray, List.set_cons_zero, List.set_cons_succ]
    refine wpD_ready [3] (by kernel_rfl) (by simp) ?_
    refine AllD.cons 3 rfl (fun K' hK => ?_) AllD.nil
    go_simp
    (try go_wp2_with fail)
    refine hold_step hK ?_ (fun hHeld => ?_)
    · try dsimp only
      first | exact ⟨a0, a1, n0, n1⟩ | go_keep | simp [go_sem, a0, a1, n0, n1]
    clear hK K'
    try simp only [Act.put, List.setIfInBounds_toArray, List.set_cons_zero, List.set_cons_succ]
    refine wpD_takeP 4 (v := ?_) rfl (by kernel_rfl) (by kernel_rfl) (by kernel_rfl) (by kernel_rfl) (fun _ _ _ h => h) (fun _ => hHeld) (yields_any (by rfl) ?_) ?_; rotate_left; (· intro wS; (try go_simp); try with_reducible rfl)
    try simp only [Act.put, List.setIfInBounds_toArray, List.set_cons_zero, List.set_cons_succ]
    refine wpD_done (by kernel_rfl) ?_ _
    refine np_intro ?_
    go_wp2_with fail
    have z1 := (((hM.r0.set 0 (.float .f64 rate)).set 1 (.slice A ts.length cap)).far (p := ⟨b + 2, 0, none⟩) (by simp) (.int .i64 0)).far (p := ⟨b + 2, 1, none⟩) (by simp) (.int .i64 0)
    have z2 := (((hM.r1.far (p := ⟨b + 1, 0, none⟩) (by simp) (.float .f64 rate)).far (p := ⟨b + 1, 1, none⟩) (by simp) (.slice A ts.length cap)).set 0 (.int .i64 0)).set 1 (.int .i64 0)
    have e0 := z1.cell 0
    have e1 := z1.cell 1
    have e2 := z2.cell 0
    have e3 := z2.cell 1
    simp at e0 e1 e2 e3
    refine bodyPost_ret (v := .tuple #[.agg #[.float .f64 rate, .slice A ts.length cap], .agg #[.int .i64 0, .int .i64 0], .int .i64 61]) ?_ rfl ?_
    · simp [results, Try.results23, go_sem, e0, e1, e2, e3]
    · exact hfin.out
  obtain ⟨b1, b2⟩ := isTime_iff.1 h1
  have hcell : ∀ (wx : World) (k j : Nat) (x : TakD) (u : Value), Kp none_ w wx → ts[k]? = some x → j < 5 → x.cells[j]? = some u → ∃ (bb off : Nat), A = some ⟨bb, off, none⟩ ∧ wx.cell? ⟨bb, off + k * 5 + j, none⟩ = some u := fun wx k j x u hk hx hj hu => by
    have hkl : k < ts.length := (List.getElem?_eq_some_iff.1 hx).1
    obtain ⟨bb, off, hA, _, _, hcl⟩ := (hl.then_ hk).cells (by omega)
    refine ⟨bb, off, hA, ?_⟩
    have hg := hcl (k * 5 + j) u (by rw [taks_get ts k j hj, hx]; exact hu)
    rw [← Nat.add_assoc] at hg
    exact hg
  have HC := Lib.hid hcell
  clear hcell
  obtain ⟨TS, hTS⟩ : ∃ TS, TS = if nowErr c h = 0 then ts ++ [⟨h, false, 0, 0, nowLo c h⟩] else ts := ⟨_, rfl⟩
  rw [← hTS]
  have HTS := Lib.hid hTS
  clear hTS
  go_enter Try.func23, Try.ntmps23
  go_wp2_with fail
  rw [← hw1, ← hb]
  simp only [Nat.add_assoc, Nat.reduceAdd]
  clear hw1 hb
  refine (htm h _).mono ?_; rintro e' w2 ⟨rfl, rfl⟩
  rw [h1]
  clear htm
  have a0 := hM.recv.cell 0
  have a1 := hM.recv.cell 1
  have n0 := hM.none.cell 0
  have n1 := hM.none.cell 1
  have p0 := hM.r0.cell 0
  have p1 := hM.r0.cell 1
  have p2 := hM.r1.cell 0
  have p3 := hM.r1.cell 1
  have q0 := hM.r0.frozen 0
  have q1 := hM.r0.frozen 1
  have q2 := hM.r1.frozen 0
  have q3 := hM.r1.frozen 1
  simp at a0 a1 n0 n1 p0 p1 p2 p3
  go_wp2_with fail
  go_loopg [8, 9, 10] ts.length (fun gk at_ fl i wr => ∃ k : Nat, k ≤ ts.length ∧ gk = ts.length - k ∧ i = .int .i64 k ∧ at_ = .int .i64 (atF ts k) ∧ fl = .int .i64 (flF ts k) ∧ w2 = wr)
  case atStart => exact ⟨0, by omega, rfl, rfl, rfl, rfl, rfl⟩
  case round =>
    obtain ⟨k, hk, rfl, rfl, rfl, rfl, rfl⟩ := hrel
    by_cases hlt : k < ts.length
    · obtain ⟨x, hx⟩ : ∃ x, ts[k]? = some x := ⟨ts[k], List.getElem?_eq_getElem hlt⟩
      obtain ⟨bb, off, rfl, x1⟩ := HC.out w2 k 1 x _ hM.kp hx (by omega) rfl
      obtain ⟨bb', off', hA', x4⟩ := HC.out w2 k 4 x _ hM.kp hx (by omega) rfl
      injection hA' with hA'
      injection hA' with e1 e2
      subst e1 e2
      have ha : atF ts (k + 1) = if x.set = true then (k : Int) else atF ts k := by show (if (ts[k]?.map TakD.set).getD false = true then (k : Int) else atF ts k) = _; rw [hx]; rfl
      have hf : flF ts (k + 1) = max (flF ts k) x.floor := by show max (flF ts k) ((ts[k]?.map TakD.floor).getD 0) = _; rw [hx]; rfl
      have HAF := Lib.hid ha
      have HFF := Lib.hid hf
      clear ha hf hx
      obtain ⟨xh, xs, xt, xe, xf⟩ := x
      dsimp only at x1 x4 HAF HFF
      generalize atF ts k = at0 at *
      generalize flF ts k = fl0 at *
      cases xs with
      | true =>
        by_cases hfl : fl0 < xf
        · go_wp2_with fail
          go_roundg (ts.length - (k + 1))
          case measure => omega
          case rel => exact ⟨k + 1, hlt, rfl, by go_num, by rw [HAF.out]; rfl, by rw [HFF.out, Int.max_eq_right (by omega)], rfl⟩
        · have hfl' : xf ≤ fl0 := by omega
          clear hfl
          go_wp2_with fail
          go_roundg (ts.length - (k + 1))
          case measure => omega
          case rel => exact ⟨k + 1, hlt, rfl, by go_num, by rw [HAF.out]; rfl, by rw [HFF.out, Int.max_eq_left (by omega)], rfl⟩
      | false =>
        by_cases hfl : fl0 < xf
        · go_wp2_with fail
          go_roundg (ts.length - (k + 1))
          case measure => omega
          case rel => exact ⟨k + 1, hlt, rfl, by go_num, by rw [HAF.out]; rfl, by rw [HFF.out, Int.max_eq_right (by omega)], rfl⟩
        · have hfl' : xf ≤ fl0 := by omega
          clear hfl
          go_wp2_with fail
          go_roundg (ts.length - (k + 1))
          case measure => omega
          case rel => exact ⟨k + 1, hlt, rfl, by go_num, by rw [HAF.out]; rfl, by rw [HFF.out, Int.max_eq_left (by omega)], rfl⟩
    · obtain rfl : k = ts.length := by omega
      by_cases h2 : c.set = true
      case neg =>
        have h2' : c.set = false := by simpa using h2
        have he : nowErr c h = 63 := by unfold nowErr; rw [if_pos h1, if_neg h2]
        have hlo : nowLoE c h = 0 := by unfold nowLoE; rw [he]; rfl
        have hhi : nowHiE c h = 0 := by unfold nowHiE; rw [he]; rfl
        have hts := HTS.out
        rw [he, if_neg (by decide)] at hts
        rw [hr.none h2']
        have HP := Lib.hid (show refNowOut rate (nowErr c h) (nowLoE c h) (nowHiE c h) TS w = refNowOut rate 63 0 0 ts w by rw [hlo, hhi, he, hts])
        clear he hlo hhi hts
        have hfin := Lib.hid (now_fin hM hl 63)
        have hsz := hM.r1.lt
        go_upto_region 13 with fail
        refine wp_region_D [] (fun w' => w'.cell? ⟨b, 0, none⟩ = some (.float .f64 rate) ∧ w'.cell? ⟨b, 1, none⟩ = some (.slice A ts.length cap) ∧ w'.cell? ⟨b + 3, 0, none⟩ = some (.int .i64 0) ∧ w'.cell? ⟨b + 3, 1, none⟩ = some (.int .i64 0)) (by kernel_rfl) ?_ (fun hHeld => ?_)
        · try dsimp only
          first | exact ⟨a0, a1, n0, n1⟩ | go_keep | simp [go_sem, a0, a1, n0, n1]
        refine wpD_take 0 (v := ?_) rfl (by kernel_rfl) (by kernel_rfl) (by kernel_rfl) (by kernel_rfl) (by kernel_rfl) (fun _ _ _ h => h) hHeld (yields_if (by rfl) ?_) ?_; rotate_left; (· intro wS hS; (try dsimp only at hS); (try go_simp); try with_reducible rfl)
        try simp only [Act.put, List.setIfInBounds_toArray, List.set_cons_zero, List.set_cons_succ]
        refine wpD_take 1 (v := ?_) rfl (by kernel_rfl) (by kernel_rfl) (by kernel_rfl) (by kernel_rfl) (by kernel_rfl) (fun _ _ _ h => h) hHeld (yields_if (by rfl) ?_) ?_; rotate_left; (· intro wS hS; (try dsimp only at hS); (try go_simp); try with_reducible rfl)
        try simp only [Act.put, List.setIfInBounds_toArray, List.set_cons_zero, List.set_cons_succ]
        refine wpD_ready [2] (by kernel_rfl) (by simp) ?_
        refine AllD.cons 2 rfl (fun K' hK => ?_) AllD.nil
        go_simp
        (try go_wp2_with fail)
        refine hold_step hK ?_ (fun hHeld => ?_)
        · try dsimp only
          first | exact ⟨a0, a1, n0, n1⟩ | go_keep | simp [go_sem, a0, a1, n0, n1]
        clear hK K'
        try simp only [Act.put, List.setIfInBounds_toArray, List.set_cons_zero, List.set_cons_succ]
        refine wpD_ready [3] (by kernel_rfl) (by simp) ?_
        refine AllD.cons 3 rfl (fun K' hK => ?_) AllD.nil
        go_simp
        (try go_wp2_with fail)
        refine hold_step hK ?_ (fun hHeld => ?_)
        · try dsimp only
          first | exact ⟨a0, a1, n0, n1⟩ | go_keep | simp [go_sem, a0, a1, n0, n1]
        clear hK K'
        try simp only [Act.put, List.setIfInBounds_toArray, List.set_cons_zero, List.set_cons_succ]
        refine wpD_takeP 4 (v := ?_) rfl (by kernel_rfl) (by kernel_rfl) (by kernel_rfl) (by kernel_rfl) (fun _ _ _ h => h) (fun _ => hHeld) (yields_any (by rfl) ?_) ?_; rotate_left; (· intro wS; (try go_simp); try with_reducible rfl)
        try simp only [Act.put, List.setIfInBounds_toArray, List.set_cons_zero, List.set_cons_succ]
        refine wpD_done (by kernel_rfl) ?_ _
        refine np_intro ?_
        go_wp2_with fail
        have z1 := (((hM.r0.set 0 (.float .f64 rate)).set 1 (.slice A ts.length cap)).far (p := ⟨b + 2, 0, none⟩) (by simp) (.int .i64 0)).far (p := ⟨b + 2, 1, none⟩) (by simp) (.int .i64 0)
        have z2 := (((hM.r1.far (p := ⟨b + 1, 0, none⟩) (by simp) (.float .f64 rate)).far (p := ⟨b + 1, 1, none⟩) (by simp) (.slice A ts.length cap)).set 0 (.int .i64 0)).set 1 (.int .i64 0)
        have e0 := z1.cell 0
        have e1 := z1.cell 1
        have e2 := z2.cell 0
        have e3 := z2.cell 1
        simp at e0 e1 e2 e3
        refine bodyPost_ret (v := .tuple #[.agg #[.float .f64 rate, .slice A ts.length cap], .agg #[.int .i64 0, .int .i64 0], .int .i64 63]) ?_ rfl ?_
        · simp [results, Try.results23, go_sem, e0, e1, e2, e3]
        · rw [HP.out]; exact hfin.out
      obtain ⟨ka, x, hka, hx, hxh, hxt, hxe⟩ := hr.some_ h2
      rw [hka, hr.floor]
      have hkl : ka < ts.length := (List.getElem?_eq_some_iff.1 hx).1
      have ka0 : ¬ (ka : Int) < 0 := by omega
      have ka1 : (0 : Int) ≤ (ka : Int) := by omega
      have ka2 : (ka : Int) < (ts.length : Int) := by omega
      obtain ⟨bb, off, rfl, _⟩ := HC.out w2 ka 0 x _ hM.kp hx (by omega) rfl
      iterate 41 go_step
      exact now14_wp rate bb off cap ts c h x ka b TS w w2 _ _ _ _ _ _ _ _ _ _ _ _ _ _ _ _ _ _ _ _ _ _ _ _ _ _ _ _ _ _ _ _ _ _ _ _ _ _ _ _ _ _ _ _ _ _ _ _ _ _ _ _ _ _ _ _ _ _ _ _ _ _ _ _ _ _ _ _ _ _ _ _ _ _ _ _ _ _ _ _ _ _ _ _ _ _ _ _ _ _ _ _ _ _ _ _ _ _ _ _ _ _ _ _ _ _ _ _ _ _ _ _ _ _ _ _ _ _ _ _ _ _ _ _ _ _ _ _ _ _ _ _ _ hl hn hM hr hrate hcr h1 h2 hkl hx hxh hxt hxe HTS.out (fun k j y u hy hj hu => by
        obtain ⟨bb', off', hA, hg⟩ := HC.out w2 k j y u hM.kp hy hj hu
        injection hA with hA
        injection hA with e1 e2
        subst e1 e2
        exact hg)
end Go.Proofs.Ytjgbandmjamcaaa

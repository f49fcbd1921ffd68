/- The walk of a play. -/
import Derived.Test.YtjgbandmjamcaaaPlayH
namespace Go.Proofs.Ytjgbandmjamcaaa
open Go.RowKit

set_option maxRecDepth 100000 in
set_option maxHeartbeats 8000000 in
theorem play_walk (W : World) (t : Int) (s : Nat) (hs : s < 256) (lv : Value) (cs : List TurnD) (hv : Sl (fun _ => True) W 15 lv cs.length (cs.flatMap TurnD.cells)) (hq : ∀ c ∈ cs, c.ok) : Calls Try.prog 40 #[.int .i64 t, .int .u8 s, lv] W (Ret (.bool true) (Kp none_ W)) := by
  obtain ⟨A, cap, rfl, hcap, hmax⟩ := hv.form
  unfold maxLen at hmax
  obtain ⟨n, hn⟩ : ∃ n : Nat, n = 1 + s % 5 := ⟨_, rfl⟩
  have hn1 : 1 ≤ n := by omega
  have hn5 : n ≤ 5 := by omega
  have HN := Lib.hid hn
  clear hn
  have h0 : 0 ≤ (s : Int) % 5 := by omega
  have h5 : (s : Int) % 5 ≤ 4 := by omega
  have hand := i64_and40 t
  obtain ⟨t0, ht0⟩ : ∃ t0, t0 = t % 1099511627776 := ⟨_, rfl⟩
  rw [← ht0] at hand
  have hb0 : 0 ≤ t0 := by omega
  have hb1 : t0 ≤ 1099511627775 := by omega
  clear ht0
  go_enter Try.func40, Try.ntmps40
  go_wp2_with fail
  rw [show (1 + (s : Int) % 5) = (n : Int) from by have := HN.out; omega]
  obtain ⟨b, hb⟩ : ∃ b, b = W.heap.size := ⟨_, rfl⟩
  rw [← hb]
  simp only [Nat.add_assoc, Nat.reduceAdd]
  obtain ⟨w0, hw0⟩ : ∃ w0, w0 = (((((W.alloc (.cells #[.pointer none, .pointer none, .pointer none, .pointer none, .pointer none, .pointer none, .pointer none, .pointer none] 123)).alloc (.cells #[.int .i64 0, .int .i64 0, .int .i64 0, .int .i64 0, .int .i64 0, .int .i64 0, .int .i64 0, .int .i64 0] 124)).alloc (.cells #[.pointer none, .pointer none, .pointer none, .pointer none, .pointer none] 125)).alloc (.cells #[.pointer none, .pointer none, .pointer none] 126)).alloc (.cells #[.pointer none, .pointer none, .pointer none] 127)) := ⟨_, rfl⟩
  rw [← hw0]
  have hpm : PM W b n 0 0 0 (fun _ => 0) (fun _ => 0) (fun _ => 0) (fun _ => 0) (fun _ => pclk 0 0 0) (fun _ => 0) (fun _ => 0) (fun _ => 0) (fun _ => [0, 0, 0, 0, 0]) (fun _ => 0) w0 := by
    subst hw0 hb
    refine PM.start W _ n _ rfl (by with_reducible repeat (first | exact Kp.refl _ _ | apply Kp.drew | apply Kp.drewN | apply Kp.alloc)) ?_ ?_ ?_ ?_ ?_ _ _
    all_goals ((with_reducible repeat (first | refine Blk.new' _ _ _ _ ?_ | apply Blk.drew | apply Blk.alloc)); simp; done)
  clear hw0 hand h0 h5
  have HB := Lib.hid hb
  clear hb
  go_loopg [13] 8 (fun gk i wr => ∃ (k : Nat) (P : Nat → Nat) (C : Nat → ClkD), k ≤ 8 ∧ gk = 8 - k ∧ i = .int .i64 k ∧ PM W b n k 0 0 P (fun _ => 0) (fun _ => 0) (fun _ => 0) C (fun _ => 0) (fun _ => 0) (fun _ => 0) (fun _ => [0, 0, 0, 0, 0]) (fun _ => 0) wr ∧ ∀ j, j < k → C j = pclk (t0 + j) 0 0)
  case atStart => exact ⟨0, _, _, by omega, rfl, rfl, hpm, fun _ h => absurd h (by omega)⟩
  case round =>
    clear hpm
    obtain ⟨k, P, C, hk, rfl, rfl, hpm, hC⟩ := hrel
    have HC := Lib.hid hC
    clear hC
    by_cases hlt : k < 8
    · have hnew := fun w => clock_New 4575657221408423936 rateC_128 w
      have hz := hpm.aC.lt
      go_wp2_with fail
      refine (hnew _).mono ?_; rintro e w1 ⟨rfl, rfl⟩
      clear hnew
      go_wp2_with fail
      refine (clock_Set wr.heap.size ⟨0, 0, 0, false, 4575657221408423936, 0, 0⟩ 0 (t0 + k) 9 _ (Blk.new _ _ _) (isTime_iff.2 ⟨by omega, by omega⟩) (isTime_iff.2 ⟨by omega, by omega⟩) (isTime_iff.2 ⟨by omega, by omega⟩) (Int.le_refl _)).mono ?_; rintro e w2 ⟨rfl, hk2, hb2⟩
      have hkz : Kp none_ wr w2 := ((Kp.refl none_ wr).alloc _).trans hk2 (fun i hi e => by cases e; omega)
      have hpm2 := hpm.keep hkz
      have a0 := hpm2.aC.cell k
      rw [arr_get _ hlt] at a0
      have f0 := hpm2.aC.frozen k
      have hnw := PM.newC hpm2 (g := wr.heap.size) (x := pclk (t0 + k) 0 0) hb2 (by have := hpm.aC.lt; omega) (fun j hj e => by have := (hpm.oC.blk j hj).lt; omega)
      go_wp2_with fail
      go_roundg (8 - (k + 1))
      case measure => omega
      case rel =>
        refine ⟨k + 1, _, _, hlt, rfl, by go_num, hnw, fun j hj => ?_⟩
        by_cases e : j = k
        · subst e; rw [upd_same]
        · rw [upd_ne _ _ e]; exact HC.out j (by omega)
    · obtain rfl : k = 8 := by omega
      go_wp2_with fail
      rename_i w0
      clear hlt hk
      go_loopg [16] 5 (fun gk i wr => ∃ (k : Nat) (V : Nat → Nat), k ≤ 5 ∧ gk = 5 - k ∧ i = .int .i64 k ∧ PM W b n 8 k 0 P V (fun _ => 0) (fun _ => 0) C (fun _ => 0) (fun _ => 0) (fun _ => 0) (fun _ => [0, 0, 0, 0, 0]) (fun _ => 0) wr)
      case atStart => exact ⟨0, _, by omega, rfl, rfl, hpm⟩
      case round =>
        clear hpm
        obtain ⟨k, V, hk, rfl, rfl, hpm⟩ := hrel
        by_cases hlt : k < 5
        · go_wp2_with fail
          refine (lease_NewVoter _).mono ?_; rintro e w1 ⟨rfl, rfl⟩
          have hpm2 := hpm.keep ((Kp.refl none_ wr).alloc (.cells #[.int .i64 0, .int .i64 0] 122))
          have a0 := hpm2.aV.cell k
          rw [arr_get _ hlt] at a0
          have f0 := hpm2.aV.frozen k
          have hnw := PM.newV hpm2 (g := wr.heap.size) (Blk.new _ _ _) (by have := hpm.aC.lt; omega) (fun j hj e => by have := (hpm.oV.blk j hj).lt; omega)
          rw [upd_const] at hnw
          go_wp2_with fail
          go_roundg (5 - (k + 1))
          case measure => omega
          case rel => exact ⟨k + 1, _, hlt, rfl, by go_num, hnw⟩
        · obtain rfl : k = 5 := by omega
          go_wp2_with fail
          rename_i w0
          clear hlt hk
          go_loopg [17] 3 (fun gk i wr => ∃ (k : Nat) (H S : Nat → Nat), k ≤ 3 ∧ gk = 3 - k ∧ i = .int .i64 k ∧ PM W b n 8 5 k P V H S C (fun _ => 0) (fun _ => 0) (fun _ => 0) (fun _ => [0, 0, 0, 0, 0]) (fun _ => 0) wr)
          case atStart => exact ⟨0, _, _, by omega, rfl, rfl, hpm⟩
          case round =>
            clear hpm
            obtain ⟨k, H, S, hk, rfl, rfl, hpm⟩ := hrel
            by_cases hlt : k < 3
            · go_wp2_with fail
              refine (lease_NewHolder n _).mono ?_
              intro e' w1 h
              obtain ⟨rfl, hk1, hh1⟩ := newHolder_ok h ⟨by omega, by omega⟩
              clear h
              rw [Int.toNat_natCast] at hh1
              go_wp2_with fail
              go_upto_region 23 with fail
              have hpm1 := hpm.keep hk1
              have zz := hpm1.kp.size
              have z1 := hk1.size
              refine wp_region_D [] (fun _ => True) (by kernel_rfl) ?_ (fun hHeld => ?_)
              · try dsimp only
                all_goals trivial
              refine wpD_takeP 0 (v := ?_) rfl (by kernel_rfl) (by kernel_rfl) (by kernel_rfl) (by kernel_rfl) (fun _ _ _ h => h) (fun _ => hHeld) (yields_any (by rfl) ?_) ?_; rotate_left; (· intro wS; (try go_simp); try with_reducible rfl)
              try simp only [Act.put, List.setIfInBounds_toArray, List.set_cons_zero, List.set_cons_succ]
              refine wpD_takeP 1 (v := ?_) rfl (by kernel_rfl) (by kernel_rfl) (by kernel_rfl) (by kernel_rfl) (fun _ _ _ h => h) (fun _ => hHeld) (yields_any (by rfl) ?_) ?_; rotate_left; (· intro wS; (try go_simp); try with_reducible rfl)
              try simp only [Act.put, List.setIfInBounds_toArray, List.set_cons_zero, List.set_cons_succ]
              refine wpD_takeP 2 (v := ?_) rfl (by kernel_rfl) (by kernel_rfl) (by kernel_rfl) (by kernel_rfl) (fun _ _ _ h => h) (fun _ => hHeld) (yields_any (by rfl) ?_) ?_; rotate_left; (· intro wS; (try go_simp); try with_reducible rfl)
              try simp only [Act.put, List.setIfInBounds_toArray, List.set_cons_zero, List.set_cons_succ]
              refine wpD_takeP 4 (v := ?_) rfl (by kernel_rfl) (by kernel_rfl) (by kernel_rfl) (by kernel_rfl) (fun _ _ _ h => h) (fun _ => hHeld) (yields_any (by rfl) ?_) ?_; rotate_left; (· intro wS; (try go_simp); try with_reducible rfl)
              try simp only [Act.put, List.setIfInBounds_toArray, List.set_cons_zero, List.set_cons_succ]
              refine wpD_ready [3] (by kernel_rfl) (by simp) ?_
              refine AllD.cons 3 rfl (fun K' hK => ?_) AllD.nil
              go_simp
              refine (stamp_New _).mono ?_
              rintro e w2 ⟨rfl, hw2⟩
              have hk2 : Kp none_ w1 w2 := by rw [hw2]; exact (by with_reducible repeat (first | exact Kp.refl _ _ | apply Kp.drew | apply Kp.drewN | apply Kp.alloc))
              have hb2 : Blk w2 w1.heap.size 102 #[.int .i64 0] := by rw [hw2]; exact Blk.new _ _ _
              clear hw2
              have hpm2 := hpm1.keep hk2
              have a0 := hpm2.aH.cell k
              have a1 := hpm2.aS.cell k
              rw [arr_get _ hlt] at a0 a1
              have f0 := hpm2.aH.frozen k
              have f1 := hpm2.aS.frozen k
              have hh2 := hh1.kp hk2 (fun h => h)
              have hnw := PM.newH hpm2 hh2.1 hb2 (by have := hpm.aC.lt; omega) (by have := hpm1.aC.lt; omega) (fun j hj e => by have := (hpm.oH.blk j hj).lt; omega) (fun j hj e => by have := (hpm1.oS.blk j hj).lt; omega)
              rw [upd_const, upd_const] at hnw
              clear hpm1 hpm hh1 hk1
              go_wp2_with fail
              refine hold_step hK ?_ (fun hHeld => ?_)
              · try dsimp only
                all_goals trivial
              clear hK K'
              try simp only [Act.put, List.setIfInBounds_toArray, List.set_cons_zero, List.set_cons_succ]
              refine wpD_ready [5] (by kernel_rfl) (by simp) ?_
              refine AllD.cons 5 rfl (fun K' hK => ?_) AllD.nil
              go_simp
              (try go_wp2_with fail)
              refine hold_step hK ?_ (fun hHeld => ?_)
              · try dsimp only
                all_goals trivial
              clear hK K'
              try simp only [Act.put, List.setIfInBounds_toArray, List.set_cons_zero, List.set_cons_succ]
              refine wpD_takeP 6 (v := ?_) rfl (by kernel_rfl) (by kernel_rfl) (by kernel_rfl) (by kernel_rfl) (fun _ _ _ h => h) (fun _ => hHeld) (yields_any (by rfl) ?_) ?_; rotate_left; (· intro wS; (try go_simp); try with_reducible rfl)
              try simp only [Act.put, List.setIfInBounds_toArray, List.set_cons_zero, List.set_cons_succ]
              refine wpD_ready [7] (by kernel_rfl) (by simp) ?_
              refine AllD.cons 7 rfl (fun K' hK => ?_) AllD.nil
              go_simp
              (try go_wp2_with fail)
              refine hold_step hK ?_ (fun hHeld => ?_)
              · try dsimp only
                all_goals trivial
              clear hK K'
              try simp only [Act.put, List.setIfInBounds_toArray, List.set_cons_zero, List.set_cons_succ]
              refine wpD_done (by kernel_rfl) ?_ _
              refine np_intro ?_
              have c0 := hnw.aH.cell k
              have c1 := hnw.aS.cell k
              have c2 := hnw.aV.cell k
              rw [arr_get _ (by omega), pf_lt _ (by omega), upd_same, ptr] at c0 c1
              rw [arr_get _ (by omega), pf_lt _ (by omega), ptr] at c2
              simp only [ptr] at hnw c0 c1 c2
              go_wp2_with fail
              go_roundg (3 - (k + 1))
              case measure => omega
              case rel => exact ⟨k + 1, _, _, hlt, rfl, by go_num, hnw⟩
            · obtain rfl : k = 3 := by omega
              clear hlt hk
              have hpr : PRel W b n t0 0 t0 0 wr := ⟨P, V, H, S, fun _ => 0, fun _ => 0, fun _ => 0, fun _ => 0, fun _ => [0, 0, 0, 0, 0], fun _ => 0,
                ⟨hpm.eb, hpm.kp, hpm.aC, hpm.aR, hpm.aV, hpm.aH, hpm.aS, hpm.oC.ext (fun q hq => by unfold cCells; rw [HC.out q hq]), hpm.oV, hpm.oH, hpm.oS⟩,
                LI.start t0 n hn1 hn5 hb0 hb1, fun q _ => by show ClkI t0 t0 0 0; unfold ClkI; omega, by omega, by omega⟩
              go_wp2_with fail
              clear hpm HC
              rename_i w0
              go_loopg [0, 20, 21] cs.length (fun gk tt ls i wr => ∃ (j : Nat) (T last : Int), j ≤ cs.length ∧ gk = cs.length - j ∧ i = .int .i64 j ∧ tt = .int .i64 T ∧ ls = .int .i64 last ∧ PRel W b n t0 j T last wr)
              case atStart => exact ⟨0, _, _, by omega, rfl, rfl, rfl, rfl, hpr⟩
              case round =>
                clear hpr
                obtain ⟨j, T, last, hj, rfl, rfl, rfl, rfl, P, V, H, S, rd, fl, vl, vu, us, sl, hpm, hli, hck, hTj, hj60⟩ := hrel
                by_cases hlt : j < cs.length
                case neg =>
                  go_wp2_with fail
                  go_ret
                  exact ⟨rfl, hpm.kp⟩
                by_cases h60 : j < 60
                case neg =>
                  go_wp2_with fail
                  go_ret
                  exact ⟨rfl, hpm.kp⟩
                obtain ⟨ba, off, rfl, _, hbl, hcl⟩ := hv.cells (by omega)
                obtain ⟨c, hc⟩ : ∃ c, c = cs[j] := ⟨_, rfl⟩
                have hcj : ∀ q u, q < 15 → (TurnD.cells c)[q]? = some u → wr.cell? ⟨ba, off + j * 15 + q, none⟩ = some u := fun q u hq hu => by
                  rw [Nat.add_assoc]
                  exact (hpm.kp.below.cell (p := ⟨ba, off + (j * 15 + q), none⟩) hbl).trans (hcl _ u (by rw [flat15 _ (fun _ => rfl) _ _ _ hq, List.getElem?_eq_getElem hlt, ← hc]; exact hu))
                have hok : c.ok := hq c (by rw [hc]; exact List.getElem_mem _)
                clear hcl hc
                have i0 : (0 : Int) ≤ (j : Int) := by omega
                have i1 : (j : Int) < (cs.length : Int) := by omega
                have i2 : (j : Int) < 60 := by omega
                iterate 32 go_step
                refine play30_wp W b n t0 j P V H S rd fl vl vu us sl T last c ba off cs.length cap _ _ _ _ _ _ _ _ _ _ _ _ _ _ _ _ _ _ _ _ _ _ _ _ _ _ _ _ _ _ _ _ _ _ _ _ _ _ _ _ _ _ _ _ _ _ _ _ _ _ _ _ _ _ _ _ _ _ _ _ _ _ _ _ _ _ _ _ _ _ _ _ _ _ _ _ _ _ _ _ _ _ _ _ _ _ _ _ _ _ _ _ _ _ _ _ _ _ _ _ _ _ _ _ _ _ _ _ _ _ _ _ _ _ _ _ _ _ _ _ _ _ _ _ _ _ _ _ _ _ _ _ _ _ _ _ _ _ _ _ _ _ _ _ _ _ _ _ _ _ _ _ _ _ _ _ _ _ _ _ _ _ _ _ _ _ _ _ _ _ _ _ _ _ _ _ _ _ _ _ _ _ _ _ _ _ _ _ _ _ _ _ _ _ _ _ _ _ _ _ _ _ _ _ _ _ _ _ _ _ _ _ _ _ _ _ _ _ _ _ _ _ _ _ _ _ _ _ _ _ _ _ _ _ _ _ _ _ _ _ _ _ _ _ _ _ _ _ _ _ _ _ _ _ _ _ _ _ _ _ _ _ _ _ _ _ _ _ _ _ _ _ _ _ _ _ _ _ ?_ hpm hli hck hTj (by omega) hb1 hcj hlt (by omega) hok
                intro _ _ _ _ _ _ _ _ _ _ _ _ _ _ _ _ _ _ _ _ _ _ _ _ _ _ _ _ _ _ _ _ _ _ _ _ _ _ _ _ _ _ _ _ _ _ _ _ _ _ _ _ _ _ _ _ _ _ _ _ _ _ _ _ _ _ _ _ _ _ _ _ _ _ _ _ _ _ _ _ _ _ _ _ _ _ _ _ _ _ _ _ _ _ _ _ _ _ _ _ _ _ _ _ _ _ _ _ _ _ _ _ _ _ _ _ _ _ _ _ _ _ _ _ _ _ _ _ _ _ _ _ _ _ _ _ _ _ _ _ _ _ _ _ _ _ _ _ _ _ _ _ _ _ _ _ _ _ _ _ _ _ _ _ _ _ _ _ _ _ _ _ _ _ _ _ _ _ _ _ _ _ _ _ _ _ T' last' w' h
                go_wp2_with fail
                go_roundg (cs.length - (j + 1))
                case measure => omega
                case rel => exact ⟨j + 1, T', last', hlt, rfl, by go_num, rfl, rfl, h⟩
end Go.Proofs.Ytjgbandmjamcaaa

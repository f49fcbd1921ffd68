/- The walk of LeaseGrants: a voter beside the document's, ask by ask. -/
import Derived.Test.YtjgbandmjamcaaaLeaseE
namespace Go.Proofs.Ytjgbandmjamcaaa
open Go.RowKit

structure AskD where
  lo : Int
  hi : Int
  leader : Int
  len : Int
  again : Bool
def AskD.cells (c : AskD) : List Value := [.int .i64 c.lo, .int .i64 c.hi, .int .i64 c.leader, .int .i64 c.len, .bool c.again]
theorem flat5' {α : Type} (f : α → List Value) (hf : ∀ c, (f c).length = 5) : ∀ (l : List α) (i j : Nat), j < 5 → (l.flatMap f)[i * 5 + j]? = (l[i]?).bind fun c => (f c)[j]? := by
  intro l
  induction l with
  | nil => intro i j hj; simp
  | cons c l ih =>
    intro i j hj
    rw [List.flatMap_cons]
    cases i with
    | zero => rw [List.getElem?_append_left (by rw [hf]; omega)]; simp
    | succ i =>
      rw [List.getElem?_append_right (by rw [hf]; omega), hf, show (i + 1) * 5 + j - 5 = i * 5 + j from by omega, ih i j hj]
      simp
set_option maxRecDepth 100000 in
set_option maxHeartbeats 8000000 in
theorem leaseGrants_walk (W : World) (v : Value) (cs : List AskD) (hv : Sl (fun _ => True) W 5 v cs.length (cs.flatMap AskD.cells)) : Calls Try.prog 7 #[v] W (Ret (.bool true) (Kp none_ W)) := by
  obtain ⟨A, cap, rfl, hcap, hmax⟩ := hv.form
  unfold maxLen at hmax
  go_enter Try.func7, Try.ntmps7
  go_wp2_with fail
  refine (lease_NewVoter _).mono ?_; rintro e w1 ⟨rfl, rfl⟩
  go_wp2_with fail
  refine (lease_awake _).mono ?_; rintro e w2 ⟨rfl, hk2⟩
  have hb := ((Blk.new W 122 #[.int .i64 0, .int .i64 0]).alloc (.cells #[.int .i64 0, .int .i64 0] 83)).kp hk2 (fun h => h)
  have hm := (Blk.new' (W.alloc (.cells #[.int .i64 0, .int .i64 0] 122)) 83 #[.int .i64 0, .int .i64 0] (W.heap.size + 1) (by simp)).kp hk2 (fun h => h)
  have hk : Kp none_ W w2 := (((Kp.refl none_ W).alloc _).alloc _).then_ hk2
  clear hk2
  go_wp2_with fail
  go_loopg [3, 5] cs.length (fun gk vp i wr => ∃ (j bv : Nat) (ld un : Int), j ≤ cs.length ∧ gk = cs.length - j ∧ i = .int .i64 j ∧ vp = .pointer (some ⟨bv, 0, none⟩) ∧ W.heap.size ≤ bv ∧ Kp none_ W wr ∧ Blk wr bv 122 #[.int .i64 ld, .int .i64 un] ∧ Blk wr (W.heap.size + 1) 83 #[.int .i64 ld, .int .i64 un])
  case atStart => exact ⟨0, W.heap.size, 0, 0, by omega, rfl, rfl, rfl, Nat.le_refl _, hk, hb, hm⟩
  case round =>
    clear hk hb hm w2
    obtain ⟨j, bv, ld, un, hj, rfl, rfl, rfl, hbv, hk, hb, hm⟩ := hrel
    by_cases hlt : j < cs.length
    case neg =>
      go_wp2_with fail
      go_ret
      exact ⟨rfl, hk⟩
    by_cases h40 : j < 40
    case neg =>
      go_wp2_with fail
      go_ret
      exact ⟨rfl, hk⟩
    obtain ⟨ba, off, rfl, _, hbl, hcl⟩ := hv.cells (by omega)
    have hcj : ∀ q u, q < 5 → (AskD.cells cs[j])[q]? = some u → wr.cell? ⟨ba, off + j * 5 + q, none⟩ = some u := fun q u hq hu => by
      rw [Nat.add_assoc]
      exact (hk.below.cell (p := ⟨ba, off + (j * 5 + q), none⟩) hbl).trans (hcl _ u (by rw [flat5' _ (fun _ => rfl) _ _ _ hq, List.getElem?_eq_getElem hlt]; exact hu))
    clear hcl
    obtain ⟨c, hc⟩ : ∃ c, c = cs[j] := ⟨_, rfl⟩
    rw [← hc] at hcj
    have c0 : wr.cell? ⟨ba, off + j * 5, none⟩ = _ := hcj 0 _ (by omega) rfl
    have c1 := hcj 1 _ (by omega) rfl
    have c2 := hcj 2 _ (by omega) rfl
    have c3 := hcj 3 _ (by omega) rfl
    have c4 := hcj 4 _ (by omega) rfl
    clear hcj hc
    obtain ⟨lo, hi', leader, len, again⟩ := c
    dsimp only at c0 c1 c2 c3 c4
    have hx := Blk.new wr 85 #[.int .i64 lo, .int .i64 hi', .int .i64 leader, .int .i64 len, .bool again]
    have hb1 := hb.alloc (.cells #[.int .i64 lo, .int .i64 hi', .int .i64 leader, .int .i64 len, .bool again] 85)
    have hm1 := hm.alloc (.cells #[.int .i64 lo, .int .i64 hi', .int .i64 leader, .int .i64 len, .bool again] 85)
    have hk1 := hk.alloc (.cells #[.int .i64 lo, .int .i64 hi', .int .i64 leader, .int .i64 len, .bool again] 85)
    have hsz : wr.heap.size ≠ W.heap.size + 1 := by have := hm.lt; omega
    go_upto_if 39 with fail
    go_cut [3, 6] (fun s3 s6 wx => ∃ (bv' : Nat) (ld' un' : Int), s3 = .pointer (some ⟨bv', 0, none⟩) ∧ s6 = .pointer (some ⟨wr.heap.size, 0, none⟩) ∧ W.heap.size ≤ bv' ∧ Kp none_ W wx ∧ Blk wx bv' 122 #[.int .i64 ld', .int .i64 un'] ∧ Blk wx (W.heap.size + 1) 83 #[.int .i64 ld', .int .i64 un'] ∧ Blk wx wr.heap.size 85 #[.int .i64 lo, .int .i64 hi', .int .i64 leader, .int .i64 len, .bool again])
    case first =>
      cases again with
      | false =>
        go_wp2_with fail
        go_meet
        exact ⟨bv, ld, un, rfl, rfl, hbv, hk1, hb1, hm1, hx⟩
      | true =>
        go_wp2_with fail
        refine (lease_Reborn lo hi' _).mono ?_
        intro e w3 h
        by_cases hs : isSpan lo hi' = true
        · unfold rebornOut at h
          rw [if_pos hs] at h
          obtain ⟨g, rfl, hk3, hg, hbg⟩ := h
          have hr : rebornR lo hi' = (min (hi' + 1048576) 1125899906842624, 0) := by rw [rebornR, if_pos hs]
          have hx3 := hx.kp hk3 (fun h => h)
          have hm3 := hm1.kp hk3 (fun h => h)
          have hkw3 := hk1.then_ hk3
          have d0 := hx3.cell 0
          have d1 := hx3.cell 1
          simp at d0 d1
          go_wp2_with fail
          refine (ref_Reborn lo hi' _).mono ?_; rintro e w4 ⟨rfl, hk4⟩
          rw [hr]
          have hx4 := hx3.kp hk4 (fun h => h)
          have hm4 := hm3.kp hk4 (fun h => h)
          have hb4 := hbg.kp hk4 (fun h => h)
          have hkw4 := hkw3.then_ hk4
          have z4 := hb4.lt
          have zm4 := hm4.lt
          have m0 := hm4.cell 0
          have m1 := hm4.cell 1
          have f0 := hm4.frozen 0
          have f1 := hm4.frozen 1
          simp at m0 m1
          have hg' : wr.heap.size + 1 ≤ g := by simpa using hg
          have zmr := hm.lt
          clear hr d0 d1 c0 c1 c2 c3 c4
          go_upto_region 15 with fail
          go_region
          all_goals go_wp2_with fail
          all_goals go_meet
          have hmz : Blk ((w4.setCell ⟨W.heap.size + 1, 0, none⟩ (.int .i64 0)).setCell ⟨W.heap.size + 1, 1, none⟩ (.int .i64 (min (hi' + 1048576) 1125899906842624))) (W.heap.size + 1) 83 #[.int .i64 0, .int .i64 (min (hi' + 1048576) 1125899906842624)] := (hm4.set 0 _).set 1 _
          all_goals exact ⟨g, 0, _, rfl, rfl, by have := hk.size; omega, (by (with_reducible repeat (first | exact hkw4 | apply Kp.drew | apply Kp.drewN | apply Kp.alloc | refine Kp.setCell ?_ _ ?_)); all_goals exact .inr (by first | (simp; done) | (dsimp only; omega) | (simp; omega))), (by (with_reducible repeat (first | exact hb4 | apply Blk.drew | apply Blk.drewN | apply Blk.alloc | refine Blk.far ?_ ?_ _)); all_goals (first | (simp; done) | (dsimp only; omega) | (simp; omega))), (by (with_reducible repeat (first | exact hmz | apply Blk.drew | apply Blk.drewN | apply Blk.alloc | refine Blk.far ?_ ?_ _)); all_goals (first | (simp; done) | (dsimp only; omega) | (simp; omega))), (by (with_reducible repeat (first | exact hx4 | apply Blk.drew | apply Blk.drewN | apply Blk.alloc | refine Blk.far ?_ ?_ _)); all_goals (first | (simp; done) | (dsimp only; omega) | (simp; omega)))⟩
        · unfold rebornOut at h
          rw [if_neg hs] at h
          obtain ⟨rfl, hk3⟩ := h
          have hr : rebornR lo hi' = (0, 240) := by rw [rebornR, if_neg hs]
          have hx3 := hx.kp hk3 (fun h => h)
          have hm3 := hm1.kp hk3 (fun h => h)
          have hb3 := hb1.kp hk3 (fun h => h)
          have hkw3 := hk1.then_ hk3
          have d0 := hx3.cell 0
          have d1 := hx3.cell 1
          simp at d0 d1
          go_wp2_with fail
          refine (ref_Reborn lo hi' _).mono ?_; rintro e w4 ⟨rfl, hk4⟩
          rw [hr]
          have hx4 := hx3.kp hk4 (fun h => h)
          have hm4 := hm3.kp hk4 (fun h => h)
          have hb4 := hb3.kp hk4 (fun h => h)
          have hkw4 := hkw3.then_ hk4
          clear hr d0 d1 c0 c1 c2 c3 c4
          go_wp2_with fail
          go_meet
          exact ⟨bv, ld, un, rfl, rfl, hbv, hkw4.alloc _, hb4.alloc _, hm4.alloc _, hx4.alloc _⟩
    case rest =>
      obtain ⟨bv', ld', un', rfl, rfl, hbv', hkc, hbc, hmc, hxc⟩ := hcut
      rename World => w3
      clear hk hb hm hx hb1 hm1 hk1 c0 c1 c2 c3 c4
      have d0 := hxc.cell 0
      have d1 := hxc.cell 1
      have d2 := hxc.cell 2
      have d3 := hxc.cell 3
      have m0 := hmc.cell 0
      have m1 := hmc.cell 1
      simp at d0 d1 d2 d3 m0 m1
      go_wp2_with fail
      refine (ref_Grant ld' un' lo hi' leader len _).mono ?_; rintro e w4 ⟨rfl, hk4⟩
      have hx4 := hxc.kp hk4 (fun h => h)
      have hm4 := hmc.kp hk4 (fun h => h)
      have hb4 := hbc.kp hk4 (fun h => h)
      have hkw4 := hkc.then_ hk4
      obtain ⟨gp, hgp⟩ : ∃ gp, gp = grantP ld' un' lo hi' leader len := ⟨_, rfl⟩
      rw [← hgp]
      have HG := Lib.hid hgp
      clear hgp
      obtain ⟨ga, ge, gl, gu⟩ := gp
      dsimp only
      clear d0 d1 d2 d3 m0 m1
      have d0 := hx4.cell 0
      have d1 := hx4.cell 1
      have d2 := hx4.cell 2
      have d3 := hx4.cell 3
      have m0 := hm4.cell 0
      have m1 := hm4.cell 1
      have f0 := hm4.frozen 0
      have f1 := hm4.frozen 1
      simp at d0 d1 d2 d3 m0 m1
      have zx := hx4.lt
      have zm := hm4.lt
      have zb := hb4.lt
      have hbv2 : W.heap.size + 1 ≠ bv' := Blk.ne_ hm4 hb4 (by decide)
      go_wp2_with fail
      have zw := hkw4.size
      refine (lease_Grant bv' ld' un' lo hi' leader len _ (by (with_reducible repeat (first | exact hb4 | apply Blk.drew | apply Blk.drewN | apply Blk.alloc | refine Blk.far ?_ ?_ _)); all_goals (first | (simp; done) | (dsimp only; omega) | (simp; omega)))).mono ?_; rintro e w5 ⟨rfl, hk5, hb5⟩
      rw [← HG.out] at hb5 ⊢
      dsimp only at hb5 ⊢
      have hmz : Blk ((w4.setCell ⟨W.heap.size + 1, 0, none⟩ (.int .i64 gl)).setCell ⟨W.heap.size + 1, 1, none⟩ (.int .i64 gu)) (W.heap.size + 1) 83 #[.int .i64 gl, .int .i64 gu] := (hm4.set 0 _).set 1 _
      have hm5 := (hmz.alloc _).kp hk5 (only_ne (fun e => hbv2 e))
      have hkw5 : Kp none_ W w5 := Kp.trans (by (with_reducible repeat (first | exact hkw4 | apply Kp.drew | apply Kp.drewN | apply Kp.alloc | refine Kp.setCell ?_ _ ?_)); all_goals exact .inr (by first | (simp; done) | (dsimp only; omega) | (simp; omega))) hk5 (fun i hi h => by cases h; omega)
      clear hmz hb4 hm4 hx4 d0 d1 d2 d3 m0 m1 f0 f1
      go_wp2_with fail
      go_roundg (cs.length - (j + 1))
      case measure => omega
      case rel => exact ⟨j + 1, bv', gl, gu, hlt, rfl, by go_num, rfl, hbv', hkw5, hb5, hm5⟩
end Go.Proofs.Ytjgbandmjamcaaa

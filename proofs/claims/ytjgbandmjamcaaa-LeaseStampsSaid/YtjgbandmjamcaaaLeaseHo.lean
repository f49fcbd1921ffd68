/- The walk of LeaseHolders: a holder and a source beside the document's, round by round. -/
import Derived.Test.YtjgbandmjamcaaaLeaseE
namespace Go.Proofs.Ytjgbandmjamcaaa
open Go.RowKit

structure HeardD where
  voter : Int
  till : Int
  lo : Int
  hi : Int
  av : Value
  above : List Int
def HeardD.cells (c : HeardD) : List Value := [.int .i64 c.voter, .int .i64 c.till, .int .i64 c.lo, .int .i64 c.hi, c.av]
theorem flat5h {α : Type} (f : α → List Value) (hf : ∀ c, (f c).length = 5) : ∀ (l : List α) (i j : Nat), j < 5 → (l.flatMap f)[i * 5 + j]? = (l[i]?).bind fun c => (f c)[j]? := by
  intro l
  induction l with
  | nil => intro i j hj; simp
  | cons c l ih =>
    intro i j hj
    rw [List.flatMap_cons]
    cases i with
    | zero => rw [List.getElem?_append_left (by rw [hf]; omega)]; simp
    | succ i =>
      rw [List.getElem?_append_right (by rw [hf]; omega), hf, show (i + 1) * 5 + j - 5 = i * 5 + j from by omega, ih i j hj]
      simp
theorem Il.take' {ok : Nat → Prop} {w : World} {A : Option Addr} {n cap : Nat} {xs : List Int} (h : Il ok w (.slice A n cap) xs) (hn : n = xs.length) (m : Nat) (hm : m ≤ n) : Il ok w (.slice A m cap) (xs.take m) := by
  subst hn
  obtain ⟨_, A', cap', h2, h3, h3', h4⟩ := h
  injection h2 with h2 h2' h2''
  subst h2
  subst h2''
  have hl : (xs.take m).length = m := by simp; omega
  refine ⟨by simp [ints], A, cap, by rw [hl], by omega, h3', fun hn => ?_⟩
  obtain ⟨b, off, e, hb, hlt, hc⟩ := h4 (by omega)
  refine ⟨b, off, e, hb, hlt, fun j u hu => hc j u ?_⟩
  unfold ints at hu ⊢
  rw [List.getElem?_map, List.getElem?_take] at hu
  split at hu
  · rw [List.getElem?_map]; exact hu
  · cases hu
theorem heardP_len (n : Nat) (us : List Int) (v u : Int) : (heardP n us v u).2.length = us.length := by
  unfold heardP
  split
  · rfl
  · split
    · rfl
    · simp
theorem heardP_bd (n : Nat) (us : List Int) (v u : Int) (h : ∀ x ∈ us, 0 ≤ x ∧ x ≤ 1125899906842624) : ∀ x ∈ (heardP n us v u).2, 0 ≤ x ∧ x ≤ 1125899906842624 := by
  unfold heardP
  split
  · exact h
  · split
    · exact h
    · intro x hx
      rcases List.mem_or_eq_of_mem_set hx with hx | hx
      · exact h x hx
      · have : 0 ≤ us[v.toNat]?.getD 0 ∧ us[v.toNat]?.getD 0 ≤ 1125899906842624 := by
          cases hq : us[v.toNat]? with
          | none => simp
          | some y => exact h y (List.mem_of_getElem? hq)
        omega
theorem stampR_len (hs ms : List Int) (lo hi : Int) (xs : List Int) : (stampR hs ms lo hi xs).1.length ≤ ms.length + 1 := by
  have := nextRef_len ms lo hi xs
  unfold stampR
  split
  · split
    · split
      · simp
      · exact this
    · simp
  · simp
theorem set_same {us : List Int} {v : Nat} {x : Int} (h : us[v]? = some x) : us.set v x = us := by
  obtain ⟨hv, rfl⟩ := List.getElem?_eq_some_iff.1 h
  exact List.set_getElem_self hv
theorem hold.drewN {b n : Nat} {us : List Int} {w : World} (h : hold b w n us) (k : Nat) : hold b (w.drewN k) n us := h
theorem make67_1 (w : World) : (Instr.makeSlice 67 (.int .i64 (1 : Nat)) (.int .i64 (1 : Nat))).run Try.prog w = .ok (.slice (some ⟨w.heap.size, 0, none⟩) 1 1) (w.alloc (.cells (ints (List.replicate 1 0)).toArray 2)) := by kernel_rfl
theorem make67_2 (w : World) : (Instr.makeSlice 67 (.int .i64 (2 : Nat)) (.int .i64 (2 : Nat))).run Try.prog w = .ok (.slice (some ⟨w.heap.size, 0, none⟩) 2 2) (w.alloc (.cells (ints (List.replicate 2 0)).toArray 2)) := by kernel_rfl
theorem make67_3 (w : World) : (Instr.makeSlice 67 (.int .i64 (3 : Nat)) (.int .i64 (3 : Nat))).run Try.prog w = .ok (.slice (some ⟨w.heap.size, 0, none⟩) 3 3) (w.alloc (.cells (ints (List.replicate 3 0)).toArray 2)) := by kernel_rfl
theorem make67_4 (w : World) : (Instr.makeSlice 67 (.int .i64 (4 : Nat)) (.int .i64 (4 : Nat))).run Try.prog w = .ok (.slice (some ⟨w.heap.size, 0, none⟩) 4 4) (w.alloc (.cells (ints (List.replicate 4 0)).toArray 2)) := by kernel_rfl
theorem make67_5 (w : World) : (Instr.makeSlice 67 (.int .i64 (5 : Nat)) (.int .i64 (5 : Nat))).run Try.prog w = .ok (.slice (some ⟨w.heap.size, 0, none⟩) 5 5) (w.alloc (.cells (ints (List.replicate 5 0)).toArray 2)) := by kernel_rfl
def zeros67 (n : Nat) : Array Value := (ints (List.replicate n 0)).toArray
theorem make67 (n : Nat) (hn1 : 1 ≤ n) (hn5 : n ≤ 5) (w : World) : (Instr.makeSlice 67 (.int .i64 n) (.int .i64 n)).run Try.prog w = .ok (.slice (some ⟨w.heap.size, 0, none⟩) n n) (w.alloc (.cells (zeros67 n) 2)) := by
  have h : n = 1 ∨ n = 2 ∨ n = 3 ∨ n = 4 ∨ n = 5 := by omega
  rcases h with rfl | rfl | rfl | rfl | rfl
  · exact make67_1 w
  · exact make67_2 w
  · exact make67_3 w
  · exact make67_4 w
  · exact make67_5 w
set_option maxRecDepth 100000 in
set_option maxHeartbeats 16000000 in
theorem leaseHolders_walk (W : World) (voters : Int) (v : Value) (cs : List HeardD) (hv : Sl (fun _ => True) W 5 v cs.length (cs.flatMap HeardD.cells)) (hi : ∀ c ∈ cs, Il (fun _ => True) W c.av c.above) :
    Calls Try.prog 5 #[.int .i64 voters, v] W (Ret (.bool true) (Kp none_ W)) := by
  obtain ⟨A, cap, rfl, hcap, hmax⟩ := hv.form
  unfold maxLen at hmax
  by_cases hn : 1 ≤ voters ∧ voters ≤ 5
  case neg =>
    have h12 : voters < 1 ∨ 5 < voters := by omega
    rcases h12 with h1 | h2
    · go_enter Try.func5, Try.ntmps5
      go_wp2_with fail
      refine (lease_NewHolder voters _).mono ?_
      intro e w1 h
      unfold newHolderOut at h
      rw [if_neg hn] at h
      obtain ⟨rfl, rfl⟩ := h
      go_wp2_with fail
      refine (stamp_New _).mono ?_; rintro e w2 ⟨rfl, rfl⟩
      go_wp2_with fail
      refine (lease_awake _).mono ?_; rintro e w3 ⟨rfl, hk3⟩
      go_wp2_with fail
      go_ret
      exact ⟨rfl, ((Kp.refl none_ W).alloc _).then_ hk3⟩
    · have h1 : 1 ≤ voters := by omega
      go_enter Try.func5, Try.ntmps5
      go_wp2_with fail
      refine (lease_NewHolder voters _).mono ?_
      intro e w1 h
      unfold newHolderOut at h
      rw [if_neg hn] at h
      obtain ⟨rfl, rfl⟩ := h
      go_wp2_with fail
      refine (stamp_New _).mono ?_; rintro e w2 ⟨rfl, rfl⟩
      go_wp2_with fail
      refine (lease_awake _).mono ?_; rintro e w3 ⟨rfl, hk3⟩
      go_wp2_with fail
      go_ret
      exact ⟨rfl, ((Kp.refl none_ W).alloc _).then_ hk3⟩
  obtain ⟨n, rfl⟩ := Int.eq_ofNat_of_zero_le (a := voters) (by omega)
  obtain ⟨hn1, hn5⟩ := hn
  have hn1' : 1 ≤ n := by omega
  have hn5' : n ≤ 5 := by omega
  go_enter Try.func5, Try.ntmps5
  go_wp2_with fail
  refine (lease_NewHolder n _).mono ?_
  intro e w1 h
  obtain ⟨rfl, hk1, hh1⟩ := newHolder_ok h ⟨by omega, by omega⟩
  clear h
  rw [Int.toNat_natCast] at hh1
  have hbl := hh1.1.lt
  go_wp2_with fail
  refine (stamp_New _).mono ?_; rintro e w2 ⟨rfl, rfl⟩
  have hs2 := Blk.new w1 102 #[.int .i64 0]
  have hh2 := hh1.alloc (.cells #[.int .i64 0] 102)
  have hk2 := hk1.alloc (.cells #[.int .i64 0] 102)
  go_wp2_with fail
  refine (lease_awake _).mono ?_; rintro e w3 ⟨rfl, hk3⟩
  have hs3 := hs2.kp hk3 (fun h => h)
  have hh3 := hh2.kp hk3 (fun h => h)
  have hkw3 := hk2.then_ hk3
  have hsl := hs3.lt
  have hmk := make67 n hn1' hn5'
  go_wp2_with fail
  have hm4 : Blk (w3.alloc (.cells (zeros67 n) 2)) w3.heap.size 2 (ints ([0, 0, 0, 0, 0].take n)).toArray := by
    have e : zeros67 n = (ints (([0, 0, 0, 0, 0] : List Int).take n)).toArray := by
      unfold zeros67
      have h : n = 1 ∨ n = 2 ∨ n = 3 ∨ n = 4 ∨ n = 5 := by omega
      rcases h with rfl | rfl | rfl | rfl | rfl <;> rfl
    rw [← e]
    exact Blk.new _ _ _
  have hK : Kp none_ W ((w3.alloc (.cells (zeros67 n) 2)).alloc (.cells #[] 2)) := (hkw3.alloc _).alloc _
  have hH := (hh3.alloc (.cells (zeros67 n) 2)).alloc (.cells #[] 2)
  have hS := (hs3.alloc (.cells (zeros67 n) 2)).alloc (.cells #[] 2)
  have hM := hm4.alloc (.cells #[] 2)
  have hG : Il (fun k => k ≠ W.heap.size ∧ k ≠ w1.heap.size ∧ k ≠ w3.heap.size) ((w3.alloc (.cells (zeros67 n) 2)).alloc (.cells #[] 2)) (.slice (some ⟨w3.heap.size + 1, 0, none⟩) 0 0) [] := ⟨rfl, _, 0, rfl, Nat.le_refl _, by unfold maxLen; omega, fun h => absurd h (by simp)⟩
  have hb12 : W.heap.size < w1.heap.size := by omega
  have hb23 : w1.heap.size < w3.heap.size := by omega
  go_wp2_with fail
  generalize hwX : (w3.alloc (.cells (zeros67 n) 2)).alloc (.cells #[] 2) = wX at *
  clear hwX hm4 hmk hbl hsl hs2 hh1 hh2 hk1 hk2 hk3 hs3 hh3 hkw3
  go_loopg [9, 10] cs.length (fun gk gv i wr => ∃ (j : Nat) (us ms : List Int), j ≤ cs.length ∧ gk = cs.length - j ∧ i = .int .i64 j ∧ ms.length ≤ j ∧ j ≤ 40 ∧ (∀ x ∈ us, 0 ≤ x ∧ x ≤ 1125899906842624) ∧ Kp none_ W wr ∧ hold W.heap.size wr n us ∧ Blk wr w1.heap.size 102 #[.int .i64 (mxl 0 ms)] ∧ Blk wr w3.heap.size 2 (ints (us.take n)).toArray ∧ Il (fun k => k ≠ W.heap.size ∧ k ≠ w1.heap.size ∧ k ≠ w3.heap.size) wr gv ms)
  case atStart => exact ⟨0, [0, 0, 0, 0, 0], [], by omega, rfl, rfl, by simp, by omega, by simp, hK, hH, hS, hM, hG⟩
  case round =>
    clear hK hH hS hM hG wX
    obtain ⟨j, us, ms, hj, rfl, rfl, hml, h40', hus, hk, hh, hs, hm, hg⟩ := hrel
    by_cases hlt : j < cs.length
    case neg =>
      go_wp2_with fail
      go_ret
      exact ⟨rfl, hk⟩
    by_cases h40 : j < 40
    case neg =>
      go_wp2_with fail
      go_ret
      exact ⟨rfl, hk⟩
    obtain ⟨ba, off, rfl, _, hbl, hcl⟩ := hv.cells (by omega)
    have hcj : ∀ q u, q < 5 → (HeardD.cells cs[j])[q]? = some u → wr.cell? ⟨ba, off + j * 5 + q, none⟩ = some u := fun q u hq hu => by
      rw [Nat.add_assoc]
      exact (hk.below.cell (p := ⟨ba, off + (j * 5 + q), none⟩) hbl).trans (hcl _ u (by rw [flat5h _ (fun _ => rfl) _ _ _ hq, List.getElem?_eq_getElem hlt]; exact hu))
    clear hcl
    obtain ⟨c, hc⟩ : ∃ c, c = cs[j] := ⟨_, rfl⟩
    have hcm : c ∈ cs := by rw [hc]; exact List.getElem_mem hlt
    have hic0 := hi c hcm
    rw [← hc] at hcj
    have c0 : wr.cell? ⟨ba, off + j * 5, none⟩ = _ := hcj 0 _ (by omega) rfl
    have c1 := hcj 1 _ (by omega) rfl
    have c2 := hcj 2 _ (by omega) rfl
    have c3 := hcj 3 _ (by omega) rfl
    have c4 := hcj 4 _ (by omega) rfl
    clear hcj hc hcm
    obtain ⟨voter, till, lo, hi', av, above⟩ := c
    dsimp only at c0 c1 c2 c3 c4 hic0
    obtain ⟨A4, cap4, rfl, hc4, hm4⟩ := hic0.form
    unfold maxLen at hm4
    have hx := Blk.new wr 69 #[.int .i64 voter, .int .i64 till, .int .i64 lo, .int .i64 hi', .slice A4 above.length cap4]
    have hk1 := hk.alloc (.cells #[.int .i64 voter, .int .i64 till, .int .i64 lo, .int .i64 hi', .slice A4 above.length cap4] 69)
    have zz := hm.lt
    have zs := hs.lt
    have zh := hh.1.lt
    have hK1 := (Kp.refl none_ wr).alloc (.cells #[.int .i64 voter, .int .i64 till, .int .i64 lo, .int .i64 hi', .slice A4 above.length cap4] 69)
    go_upto_if 73 with fail
    go_cut [11] (fun s11 wx => ∃ (xs : List Int) (av : Value), s11 = .pointer (some ⟨wr.heap.size, 0, none⟩) ∧ xs.length ≤ 10 ∧ Kp none_ wr wx ∧ Blk wx wr.heap.size 69 #[.int .i64 voter, .int .i64 till, .int .i64 lo, .int .i64 hi', av] ∧ Il (fun k => k < W.heap.size) wx av xs)
    case first =>
      have hicr := (hic0.mono (ok' := fun k => k < W.heap.size) (fun k h _ => h)).then_ hk
      have hic := hicr.alloc (.cells #[.int .i64 voter, .int .i64 till, .int .i64 lo, .int .i64 hi', .slice A4 above.length cap4] 69)
      by_cases h10 : 10 < above.length
      · go_wp2_with fail
        go_meet
        exact ⟨_, _, rfl, by rw [List.length_take]; omega, (Kp.refl _ _).alloc _, Blk.new _ _ _, (Il.take' hicr rfl 10 (by omega)).alloc _⟩
      · go_wp2_with fail
        go_meet
        exact ⟨above, _, rfl, by omega, hK1, hx, hic⟩
    case rest =>
      obtain ⟨xs, av, rfl, hxl, hkx, hx1, hi1⟩ := hcut
      rename World => w4
      have hh4 := hh.kp hkx (fun h => h)
      have hs4 := hs.kp hkx (fun h => h)
      have hm4' := hm.kp hkx (fun h => h)
      have hg4 := hg.then_ hkx
      have hkw4 := hk.then_ hkx
      have hi4 := hi1.mono (ok' := fun k => k ≠ W.heap.size ∧ k ≠ w1.heap.size ∧ k ≠ w3.heap.size) (fun k _ h => by omega)
      have x0 := hx1.cell 0
      have x1 := hx1.cell 1
      simp at x0 x1
      clear hh hs hm hg hk hx hk1 hK1 c0 c1 c2 c3 c4 hic0 hi1 hc4 hm4
      go_wp2_with fail
      refine (lease_Heard W.heap.size n us voter till _ hh4).mono ?_; rintro e w5 ⟨rfl, hk5, hh5⟩
      have hs5 := hs4.kp hk5 (only_ne (by omega))
      have hm5 := hm4'.kp hk5 (only_ne (by omega))
      have hg5 := hg4.kp hk5 (fun k _ h => h.1)
      have hi5 := hi4.kp hk5 (fun k _ h => h.1)
      have hx5 := hx1.kp hk5 (only_ne (by omega))
      have hkw5 : Kp none_ W w5 := hkw4.trans hk5 (fun i hi h => by cases h; omega)
      clear x0 x1
      have x0 := hx5.cell 0
      have x1 := hx5.cell 1
      simp at x0 x1
      clear hh4 hs4 hm4' hg4 hkw4 hi4 hx1 hkx
      go_upto_region 15 with fail
      go_step
      go_step
      go_step
      go_step
      go_step
      go_step
      go_step
      go_step
      go_cut [13] (fun s13 wx => s13 = .int .i64 (heardP n us voter till).1 ∧ Kp (only w3.heap.size) w5 wx ∧ Blk wx w3.heap.size 2 (ints ((heardP n us voter till).2.take n)).toArray)
      case first =>
        have z5 := hm5.lt
        by_cases hv0 : voter < 0
        · have e : heardP n us voter till = (242, us) := by rw [heardP, if_pos (.inl hv0)]
          have HE := Lib.hid e
          clear e
          go_wp2_with fail
          go_meet
          rw [HE.out]
          exact ⟨rfl, Kp.refl _ _, hm5⟩
        by_cases hvn : (n : Int) ≤ voter
        · have e : heardP n us voter till = (242, us) := by rw [heardP, if_pos (.inr hvn)]
          have HE := Lib.hid e
          clear e
          go_wp2_with fail
          go_meet
          rw [HE.out]
          exact ⟨rfl, Kp.refl _ _, hm5⟩
        have hA : ¬ (voter < 0 ∨ (n : Int) ≤ voter) := by omega
        by_cases ht0 : till < 0
        · have e : heardP n us voter till = (240, us) := by rw [heardP, if_neg hA, if_pos (.inl ht0)]
          have HE := Lib.hid e
          clear e
          go_wp2_with fail
          go_meet
          rw [HE.out]
          exact ⟨rfl, Kp.refl _ _, hm5⟩
        by_cases htn : 1125899906842624 < till
        · have e : heardP n us voter till = (240, us) := by rw [heardP, if_neg hA, if_pos (.inr htn)]
          have HE := Lib.hid e
          clear e
          go_wp2_with fail
          go_meet
          rw [HE.out]
          exact ⟨rfl, Kp.refl _ _, hm5⟩
        have hB : ¬ (till < 0 ∨ 1125899906842624 < till) := by omega
        obtain ⟨v, rfl⟩ := Int.eq_ofNat_of_zero_le (a := voter) (by omega)
        have hl5 : us.length = 5 := (heardP_len n us v till).symm.trans hh5.2.1
        obtain ⟨old, hold'⟩ : ∃ old, us[v]? = some old := ⟨us[v], List.getElem?_eq_getElem (by omega)⟩
        have e : heardP n us v till = (0, us.set v (max old till)) := by rw [heardP, if_neg hA, if_neg hB, Int.toNat_natCast, hold']; rfl
        have cm : w5.cell? ⟨w3.heap.size, v, none⟩ = some (.int .i64 old) := by
          rw [hm5.cell, List.getElem?_toArray, ints, List.getElem?_map, List.getElem?_take, if_pos (by omega), hold']; rfl
        have fm := hm5.frozen v
        have HE := Lib.hid e
        have hvn' : v < n := by omega
        clear e
        by_cases hmore : old < till
        · have hset : (ints ((us.set v (max old till)).take n)).toArray = (ints (us.take n)).toArray.setIfInBounds v (.int .i64 till) := by
            rw [Int.max_eq_right (by omega), List.setIfInBounds_toArray, List.take_set, ints, List.map_set]; rfl
          go_wp2_with fail
          go_quiet (fail)
          go_wp2_with fail
          go_meet
          rw [HE.out]
          refine ⟨rfl, ((Kp.refl (only w3.heap.size) w5).drewN _).setCell (p := ⟨w3.heap.size, v, none⟩) _ (.inl rfl), ?_⟩
          rw [hset]
          exact (hm5.drewN _).set v _
        · have hset : Hid (us.set v (max old till) = us) := Lib.hid (by
            rw [Int.max_eq_left (by omega)]
            exact set_same hold')
          go_wp2_with fail
          go_quiet (fail)
          go_wp2_with fail
          go_meet
          rw [HE.out, hset.out]
          exact ⟨rfl, (Kp.refl _ _).drewN _, hm5.drewN _⟩
      case rest =>
        obtain ⟨rfl, hk6, hm6⟩ := hcut
        rename World => w6
        have hus' := heardP_bd n us voter till hus
        have hh6 := hh5.kp hk6 (only_ne (by omega))
        have hs6 := hs5.kp hk6 (only_ne (by omega))
        have hg6 := hg5.kp hk6 (fun k _ h => h.2.2)
        have hi6 := hi5.kp hk6 (fun k _ h => h.2.2)
        have hx6 := hx5.kp hk6 (only_ne (by omega))
        have hkw6 : Kp none_ W w6 := hkw5.trans hk6 (fun i hi h => by cases h; omega)
        clear hh5 hs5 hm5 hg5 hi5 hx5 hk5 hkw5 x0 x1 hk6
        generalize heardP n us voter till = H at *
        obtain ⟨g, us'⟩ := H
        dsimp only at hus' hh6 hm6 ⊢
        have x2 := hx6.cell 2
        have x3 := hx6.cell 3
        have x4 := hx6.cell 4
        simp at x2 x3 x4
        have hl' : us'.length = 5 := hh6.2.1
        have hmi : Il (fun _ => True) w6 (.slice (some ⟨w3.heap.size, 0, none⟩) n n) (us'.take n) := by
          have e : (us'.take n).length = n := by rw [List.length_take]; omega
          have h := Sl.of_blk (ok := fun _ => True) hm6 trivial n 1 (by simp [ints]; omega) (by unfold maxLen; omega)
          show Sl _ _ _ _ (us'.take n).length _
          rw [e]
          exact h
        go_wp2_with fail
        refine (ref_Stamp (fun _ => True) (fun k => k ≠ W.heap.size ∧ k ≠ w1.heap.size ∧ k ≠ w3.heap.size) _ u9 av (us'.take n) ms xs lo hi' _ hmi hg6 hi6 (by rw [List.length_take]; omega) (by omega) (by omega)).mono ?_
        rintro e w7 ⟨v', rfl, hk7, hg7⟩
        have hM := until_bd n us' hn1' (by omega) hus'
        have hu := untilF_R n us' hn1' (by omega) (fun x hx => (hus' x hx).1)
        have SA := Lib.hid (stamp_alike n us' (us'.take n) ms lo hi' xs hu (by rw [← hu]; exact hM.2))
        have hsl := stampR_len (us'.take n) ms lo hi' xs
        generalize stampR (us'.take n) ms lo hi' xs = r at *
        obtain ⟨ms', t, e⟩ := r
        dsimp only at hg7 SA hsl ⊢
        have hh7 := hh6.kp hk7 (fun h => h)
        have hs7 := hs6.kp hk7 (fun h => h)
        have hm7 := hm6.kp hk7 (fun h => h)
        have hi7 := hi6.then_ hk7
        have hx7 := hx6.kp hk7 (fun h => h)
        have hkw7 := hkw6.then_ hk7
        have hg7' := hg7.mono (ok' := fun k => k ≠ W.heap.size ∧ k ≠ w1.heap.size ∧ k ≠ w3.heap.size) (fun k _ h => by have := hm6.lt; rcases h with h | h; exact h; omega)
        clear x2 x3 x4 hh6 hs6 hm6 hi6 hx6 hkw6 hg7 hmi hg6
        have x2 := hx7.cell 2
        have x3 := hx7.cell 3
        have x4 := hx7.cell 4
        simp at x2 x3 x4
        go_wp2_with fail
        refine (lease_Stamp W.heap.size n w1.heap.size us' (mxl 0 ms) lo hi' av xs _ hh7 hs7 (hi7.mono (fun k _ h => h.2.1)) (by omega) hM).mono ?_
        rintro e w8 ⟨rfl, hk8, hs8⟩
        rw [SA.out] at hs8 ⊢
        dsimp only at hs8 ⊢
        have hh8 := hh7.kp hk8 (only_ne (by omega))
        have hm8 := hm7.kp hk8 (only_ne (by omega))
        have hg8 := hg7'.kp hk8 (fun k _ h => h.2.1)
        have hx8 := hx7.kp hk8 (only_ne (by omega))
        have hkw8 : Kp none_ W w8 := hkw7.trans hk8 (fun i hi h => by cases h; omega)
        clear hh7 hs7 hm7 hi7 hx7 hkw7 hg7' x2 x3 x4
        have x2 := hx8.cell 2
        have x3 := hx8.cell 3
        simp at x2 x3
        have hm8i : Il (fun _ => True) w8 (.slice (some ⟨w3.heap.size, 0, none⟩) n n) (us'.take n) := by
          have e : (us'.take n).length = n := by rw [List.length_take]; omega
          have h := Sl.of_blk (ok := fun _ => True) hm8 trivial n 1 (by simp [ints]; omega) (by unfold maxLen; omega)
          show Sl _ _ _ _ (us'.take n).length _
          rw [e]
          exact h
        have hln : (us'.take n).length ≤ 1000 := by rw [List.length_take]; omega
        have hh2 : holdsB n us' lo hi' = holdsR (us'.take n) lo hi' := by unfold holdsB holdsR; rw [hu]
        obtain ⟨U, hU⟩ : ∃ U, untilR (us'.take n) = U := ⟨_, rfl⟩
        obtain ⟨B, hB⟩ : ∃ B, holdsR (us'.take n) lo hi' = B := ⟨_, rfl⟩
        have HUF : Hid (untilF n us' = U) := Lib.hid (hu.trans hU)
        have HUR := Lib.hid hU
        have HBF : Hid (holdsB n us' lo hi' = B) := Lib.hid (hh2.trans hB)
        have HBR := Lib.hid hB
        clear hu hh2 hU hB hM SA
        go_upto_region 25 with fail
        go_region_held3 (fun w' => w'.cell? ⟨wr.heap.size, 2, none⟩ = some (.int .i64 lo) ∧ w'.cell? ⟨wr.heap.size, 3, none⟩ = some (.int .i64 hi')) (first | go_keep | (exact ⟨x2, x3⟩)) (first
          | (go_at_call 31; refine (lease_Until W.heap.size n us' _ (by with_reducible repeat (first | exact hh8 | apply hold.drew | apply hold.drewN))).mono ?_; rintro e w9 ⟨rfl, hk9⟩; rw [HUF.out]; have hK9 : Kp none_ w8 w9 := Kp.then_ (by with_reducible repeat (first | exact Kp.refl _ _ | apply Kp.drew | apply Kp.drewN | apply Kp.alloc)) hk9; have hm9 := hm8i.then_ hK9; have hx9 := hx8.kp hK9 (fun h => h); have hh9 := hh8.kp hK9 (fun h => h); have x2 := hx9.cell 2; have x3 := hx9.cell 3; simp at x2 x3)
          | (go_at_call 32; refine (ref_Until _ _ (us'.take n) _ (by with_reducible repeat (first | exact hm9 | apply Sl.drew | apply Sl.drewN)) hln).mono ?_; rintro e wA ⟨rfl, nq, rfl⟩; rw [HUR.out])
          | (go_at_call 33; refine (lease_Holds W.heap.size n us' lo hi' _ (by with_reducible repeat (first | exact hh9 | apply hold.drew | apply hold.drewN))).mono ?_; rintro e wB ⟨rfl, hkB⟩; rw [HBF.out]; have hKB : Kp none_ w8 wB := Kp.then_ (by with_reducible repeat (first | exact hK9 | apply Kp.drew | apply Kp.drewN)) hkB; have hmB := hm8i.then_ hKB; have hxB := hx8.kp hKB (fun h => h); have x2 := hxB.cell 2; have x3 := hxB.cell 3; simp at x2 x3)
          | (go_at_call 34; refine (ref_Holds _ _ (us'.take n) lo hi' _ (by with_reducible repeat (first | exact hmB | apply Sl.drew | apply Sl.drewN)) hln).mono ?_; rintro e wC ⟨rfl, hkC⟩; rw [HBR.out]; have hKC : Kp none_ w8 wC := Kp.then_ (by with_reducible repeat (first | exact hKB | apply Kp.drew | apply Kp.drewN)) hkC; have hxC := hx8.kp hKC (fun h => h); have hsC := hs8.kp hKC (fun h => h); have hgC := hg8.then_ hKC; have x2 := hxC.cell 2; have x3 := hxC.cell 3; simp at x2 x3)
          | (go_at_call 16; refine (stamp_Last w1.heap.size _ _ (by with_reducible repeat (first | exact hsC | apply Blk.drew | apply Blk.drewN))).mono ?_; rintro e wD ⟨rfl, rfl⟩)
          | (go_at_call 17; refine (ref_Last _ ms' _ _ (by with_reducible repeat (first | exact hgC | apply Sl.drew | apply Sl.drewN))).mono ?_; rintro e wE ⟨rfl, rfl⟩))
        all_goals go_wp2_with fail
        all_goals go_roundg (cs.length - (j + 1))
        case measure => omega
        case rel => exact ⟨j + 1, us', ms', hlt, rfl, by go_num, by omega, by omega, hus', hkw8.then_ hKC, hh8.kp hKC (fun h => h), hsC, hm8.kp hKC (fun h => h), hgC⟩
end Go.Proofs.Ytjgbandmjamcaaa

/- The walk of LeaseHalf: more than half granted up to Until, and no further. -/
import Derived.Test.YtjgbandmjamcaaaLeaseE
namespace Go.Proofs.Ytjgbandmjamcaaa
open Go.RowKit

theorem i64_and50 (n : Int) : bits .and .i64 n 1125899906842623 = n % 1125899906842624 := by
  have h127 : (BitVec.ofInt 64 1125899906842623).toNat = 2 ^ 50 - 1 := by decide
  have key : (BitVec.ofInt 64 n &&& BitVec.ofInt 64 1125899906842623).toNat = (n % ((2 ^ 64 : Nat) : Int)).toNat % 2 ^ 50 := by
    rw [BitVec.toNat_and, BitVec.toNat_ofInt, h127, Nat.and_two_pow_sub_one_eq_mod]
  show IntKind.i64.wrap ((BitVec.ofInt 64 n &&& BitVec.ofInt 64 1125899906842623).toNat : Nat) = n % 1125899906842624
  rw [key, IntKind.wrap_i64]
  omega
/-- The first k brought below 2^50. -/
def masked (l : List Int) (k : Nat) : List Int := (l.take k).map (· % 1125899906842624) ++ l.drop k
theorem masked_len (l : List Int) (k : Nat) : (masked l k).length = l.length := by
  simp [masked]
  omega
theorem masked_at (l : List Int) (k : Nat) (h : k < l.length) : (masked l k)[k]? = some l[k] := by
  unfold masked
  rw [List.getElem?_append_right (by simp; omega)]
  simp [Nat.min_eq_left (Nat.le_of_lt h), h]
theorem masked_set (l : List Int) (k : Nat) (h : k < l.length) : (masked l k).set k (l[k] % 1125899906842624) = masked l (k + 1) := by
  have h1 : ((l.take k).map (· % 1125899906842624)).length = k := by simp; omega
  unfold masked
  rw [List.set_append_right _ _ (by omega), h1, Nat.sub_self, List.drop_eq_getElem_cons h, List.set_cons_zero, List.take_succ_eq_append_getElem h, List.map_append, List.append_assoc]
  rfl
/-- The first k of what was heard; the others nought. -/
def heardTo (l : List Int) (k : Nat) : List Int := (l.take k).map (· % 1125899906842624) ++ List.replicate (5 - k) 0
theorem heardTo_len (l : List Int) (k : Nat) (h : k ≤ l.length) (h5 : k ≤ 5) : (heardTo l k).length = 5 := by
  simp [heardTo]
  omega
theorem heardTo_step (l : List Int) (n k : Nat) (h : k < l.length) (h5 : k < 5) (hk : k < n) : heardP n (heardTo l k) k (l[k] % 1125899906842624) = (0, heardTo l (k + 1)) := by
  have h1 : ((l.take k).map (· % 1125899906842624)).length = k := by simp; omega
  obtain ⟨q, hq⟩ : ∃ q, 5 - k = q + 1 := ⟨4 - k, by omega⟩
  have hq2 : 5 - (k + 1) = q := by omega
  have h2 : 0 ≤ l[k] % 1125899906842624 := by omega
  unfold heardP
  rw [if_neg (by omega), if_neg (by omega)]
  unfold heardTo
  rw [Int.toNat_natCast, hq, hq2, List.replicate_succ, List.set_append_right _ _ (by omega), List.getElem?_append_right (by omega), h1, Nat.sub_self, List.set_cons_zero, List.take_succ_eq_append_getElem h, List.map_append, List.append_assoc]
  simp only [List.getElem?_cons_zero, Option.getD_some]
  rw [Int.max_eq_right h2]
  rfl
/-- What the middle of a row of times tells. -/
theorem half_facts (l : List Int) (n : Nat) (hl : l.length = 5) (h1 : 1 ≤ n) (h5 : n ≤ 5) :
    ∃ hs u, hs = (masked l n).take n ∧ hs.length = n ∧ u = untilF n (heardTo l n) ∧ 0 ≤ u ∧ u ≤ 1125899906842623 ∧ n < 2 * atLeast hs u ∧ 2 * atLeast hs (u + 1) ≤ n := by
  obtain ⟨hs, hhs⟩ : ∃ hs, hs = (l.take n).map (· % 1125899906842624) := ⟨_, rfl⟩
  have hlen : hs.length = n := by rw [hhs]; simp; omega
  have e1 : (masked l n).take n = hs := by unfold masked; rw [← hhs, List.take_append_of_le_length (by omega), List.take_of_length_le (by omega)]
  have e2 : (heardTo l n).take n = hs := by unfold heardTo; rw [← hhs, List.take_append_of_le_length (by omega), List.take_of_length_le (by omega)]
  obtain ⟨t, htdef⟩ : ∃ t, t = hs.mergeSort (fun a b => decide (a ≤ b)) := ⟨_, rfl⟩
  have hperm : t.Perm hs := by rw [htdef]; exact List.mergeSort_perm _ _
  have hsort : Sorted t := by
    have h1 := List.pairwise_mergeSort (le := fun a b : Int => decide (a ≤ b)) (fun a b c h1 h2 => by simp at *; omega) (fun a b => by simp; omega) hs
    rw [htdef]
    exact h1.imp (fun h => by simpa using h)
  have htl : t.length = n := by rw [hperm.length_eq, hlen]
  have hm : (n - 1) / 2 < t.length := by omega
  have hu : untilF n (heardTo l n) = t[(n - 1) / 2] := by
    unfold untilF
    rw [e2, ← htdef, List.getElem?_eq_getElem hm]
    rfl
  have hget : t[(n - 1) / 2]? = some (untilF n (heardTo l n)) := by rw [hu, List.getElem?_eq_getElem hm]
  have hmem : untilF n (heardTo l n) ∈ hs := by rw [hu]; exact hperm.mem_iff.1 (List.getElem_mem hm)
  have g1 := atLeast_sorted_ge hsort hget
  have g2 := atLeast_sorted_lt hsort hget (x := untilF n (heardTo l n) + 1) (by omega)
  rw [atLeast_perm hperm] at g1 g2
  refine ⟨hs, _, e1.symm, hlen, rfl, ?_, ?_, by omega, by omega⟩
  · rw [hhs] at hmem
    obtain ⟨x, _, hx⟩ := List.mem_map.1 hmem
    omega
  · rw [hhs] at hmem
    obtain ⟨x, _, hx⟩ := List.mem_map.1 hmem
    omega
set_option maxRecDepth 100000 in
set_option maxHeartbeats 8000000 in
theorem leaseHalf_walk (W : World) (a b c d e : Int) (s : Nat) (hs : s < 256) : Calls Try.prog 6 #[.agg #[.int .i64 a, .int .i64 b, .int .i64 c, .int .i64 d, .int .i64 e], .int .u8 s] W (Ret (.bool true) (Kp none_ W)) := by
  obtain ⟨n, hn⟩ : ∃ n : Nat, n = 1 + s % 5 := ⟨_, rfl⟩
  have hn1 : 1 ≤ n := by omega
  have hn5 : n ≤ 5 := by omega
  have HN := Lib.hid hn
  clear hn
  have h0 : 0 ≤ (s : Int) % 5 := by omega
  have h5 : (s : Int) % 5 ≤ 4 := by omega
  go_enter Try.func6, Try.ntmps6
  go_wp2_with fail
  rw [show (1 + (s : Int) % 5) = (n : Int) from by have := HN.out; omega]
  clear HN h0 h5
  refine (lease_NewHolder n _).mono ?_
  intro e' w1 h
  obtain ⟨rfl, hk1, hh1⟩ := newHolder_ok h ⟨by omega, by omega⟩
  clear h
  rw [Int.toNat_natCast] at hh1
  simp only [World.size_alloc] at hh1 ⊢
  have hx1 := (Blk.new W 77 #[.int .i64 a, .int .i64 b, .int .i64 c, .int .i64 d, .int .i64 e]).kp hk1 (fun h => h)
  have hkw1 := ((Kp.refl none_ W).alloc _).then_ hk1
  go_wp2_with fail
  refine (lease_awake _).mono ?_; rintro e' w2 ⟨rfl, hk2⟩
  have hx2 := hx1.kp hk2 (fun h => h)
  have hh2 := hh1.kp hk2 (fun h => h)
  have hkw2 := hkw1.then_ hk2
  obtain ⟨l, hl⟩ : ∃ l, l = [a, b, c, d, e] := ⟨_, rfl⟩
  have hl5 : l.length = 5 := by rw [hl]; rfl
  have hx : Blk w2 W.heap.size 77 (ints (masked l 0)).toArray := by rw [hl]; exact hx2
  have hh : hold (W.heap.size + 1) w2 n (heardTo l 0) := hh2
  clear hx1 hx2 hh1 hh2 hk1 hk2 hkw1 w1 hl
  go_wp2_with fail
  go_loopg [8] n (fun gk i wr => ∃ k : Nat, k ≤ n ∧ gk = n - k ∧ i = .int .i64 k ∧ Kp none_ W wr ∧ Blk wr W.heap.size 77 (ints (masked l k)).toArray ∧ hold (W.heap.size + 1) wr n (heardTo l k))
  case atStart => exact ⟨0, by omega, rfl, rfl, hkw2, hx, hh⟩
  case round =>
    clear hkw2 hx hh w2
    obtain ⟨k, hk, rfl, rfl, hkw, hx, hh⟩ := hrel
    by_cases hlt : k < n
    · have ck := hx.cell k
      rw [List.getElem?_toArray, ints, List.getElem?_map, masked_at l k (by omega), Option.map_some] at ck
      have fk := hx.frozen k
      have hset := Lib.hid (masked_set l k (by omega))
      have hstep := Lib.hid (heardTo_step l n k (by omega) (by omega) hlt)
      generalize l[k] = v at *
      have hand := i64_and50 v
      have hm0 : 0 ≤ v % 1125899906842624 := by omega
      have hx2 : Blk (wr.setCell ⟨W.heap.size, k, none⟩ (.int .i64 (v % 1125899906842624))) W.heap.size 77 (ints (masked l (k + 1))).toArray := by
        have := hx.set k (.int .i64 (v % 1125899906842624))
        rw [ints_set, hset.out] at this
        exact this
      go_wp2_with fail
      refine (lease_Heard (W.heap.size + 1) n (heardTo l k) k (v % 1125899906842624) _ ⟨hh.1.far (by simp) _, hh.2⟩).mono ?_; rintro e' w3 ⟨rfl, hk3, hh3⟩
      rw [hstep.out] at hh3 ⊢
      have hx3 := hx2.kp hk3 (only_ne (by omega))
      have hkw3 : Kp none_ W w3 := (hkw.setCell (p := ⟨W.heap.size, k, none⟩) _ (.inr (Nat.le_refl _))).trans hk3 (fun i hi h => by cases h; omega)
      go_wp2_with fail
      go_roundg (n - (k + 1))
      case measure => omega
      case rel => exact ⟨k + 1, hlt, rfl, by go_num, hkw3, hx3, hh3⟩
    · obtain rfl : k = n := by omega
      obtain ⟨hs', u, hhs, hlen, hu, hu0, hu1, hat, hab⟩ := half_facts l k hl5 hn1 hn5
      have HU := Lib.hid hu
      have hcells : ∀ q (hq : q < k), wr.cell? ⟨W.heap.size, q, none⟩ = some (.int .i64 (hs'[q]'(by omega))) := by
        intro q hq
        have h9 : (masked l k)[q]? = some (hs'[q]'(by omega)) := by
          have h8 : hs'[q]? = (masked l k)[q]? := by rw [hhs, List.getElem?_take, if_pos hq]
          rw [← h8, List.getElem?_eq_getElem (by omega)]
        rw [hx.cell, List.getElem?_toArray, ints, List.getElem?_map, h9]
        rfl
      have HC := Lib.hid hcells
      have hu' : untilF k (heardTo l k) = u := hu.symm
      have hb1 : holdsB k (heardTo l k) 0 u = false := by unfold holdsB; rw [hu']; simp
      have hb2 : u ≠ 0 → holdsB k (heardTo l k) 0 (u - 1) = true := by
        intro h0
        unfold holdsB
        rw [hu', isSpan_iff.2 ⟨by omega, by omega, by omega⟩]
        simp
        omega
      have HB1 := Lib.hid hb1
      have HB2 := Lib.hid hb2
      clear hx hcells hhs hu hu' hb1 hb2
      go_wp2_with fail
      refine (lease_Until (W.heap.size + 1) k _ _ hh).mono ?_; rintro e' w3 ⟨rfl, hk3⟩
      rw [← HU.out]
      have hh3 := hh.kp hk3 (fun h => h)
      have hkw3 := hkw.then_ hk3
      have hblt : W.heap.size < wr.heap.size := by have := hh.1.lt; omega
      go_wp2_with fail
      go_loop [10, 11, 12] (fun ab at_ i => ∃ q : Nat, q ≤ k ∧ i = .int .i64 q ∧ ab = .int .i64 (atLeast (hs'.take q) (u + 1)) ∧ at_ = .int .i64 (atLeast (hs'.take q) u)) (fun _ _ i => k - (intOf i).toNat)
      case atStart => exact ⟨0, by omega, rfl, rfl, rfl⟩
      case round =>
        obtain ⟨q, hq, rfl, rfl, rfl⟩ := hrel
        have g1 := atLeast_le (hs'.take q) u
        have g2 := atLeast_le (hs'.take q) (u + 1)
        rw [List.length_take] at g1 g2
        by_cases hql : q < k
        · have cq : w3.cell? ⟨W.heap.size, q, none⟩ = some (.int .i64 (hs'[q]'(by omega))) := (hk3.below.cell (p := ⟨W.heap.size, q, none⟩) hblt).trans (HC.out q hql)
          have s1 := Lib.hid (atLeast_take hs' u q (by omega))
          have s2 := Lib.hid (atLeast_take hs' (u + 1) q (by omega))
          generalize hs'[q] = x at *
          generalize atLeast (hs'.take q) u = m1 at *
          generalize atLeast (hs'.take q) (u + 1) = m2 at *
          by_cases hx1 : u ≤ x
          · by_cases hx2 : u < x
            · go_wp2_with fail
              go_round
              case rel => exact ⟨q + 1, hql, by go_num, by rw [s2.out, if_pos (by omega)]; go_num, by rw [s1.out, if_pos (by omega)]; go_num⟩
              case measure => simp [intOf]; omega
            · go_wp2_with fail
              go_round
              case rel => exact ⟨q + 1, hql, by go_num, by rw [s2.out, if_neg (by omega)]; rfl, by rw [s1.out, if_pos (by omega)]; go_num⟩
              case measure => simp [intOf]; omega
          · go_wp2_with fail
            go_round
            case rel => exact ⟨q + 1, hql, by go_num, by rw [s2.out, if_neg (by omega)]; rfl, by rw [s1.out, if_neg (by omega)]; rfl⟩
            case measure => simp [intOf]; omega
        · obtain rfl : q = k := by omega
          rw [List.take_of_length_le (by omega)]
          clear g1 g2
          have g1 := atLeast_le hs' u
          have g2 := atLeast_le hs' (u + 1)
          rw [hlen] at g1 g2
          generalize atLeast hs' u = m1 at *
          generalize atLeast hs' (u + 1) = m2 at *
          go_wp2_with fail
          refine (lease_Holds (W.heap.size + 1) q _ 0 u _ hh3).mono ?_; rintro e' w4 ⟨rfl, hk4⟩
          rw [HB1.out]
          have hh4 := hh3.kp hk4 (fun h => h)
          have hkw4 := hkw3.then_ hk4
          by_cases h0 : u = 0
          · subst h0
            go_wp2_with fail
            go_ret
            exact ⟨rfl, hkw4⟩
          · have h0' : (u == 0) = false := by simpa using h0
            have hb := Lib.hid (HB2.out h0)
            clear h0
            go_wp2_with fail
            refine (lease_Holds (W.heap.size + 1) q _ 0 (u - 1) _ hh4).mono ?_; rintro e' w5 ⟨rfl, hk5⟩
            rw [hb.out]
            go_wp2_with fail
            go_ret
            exact ⟨rfl, hkw4.then_ hk5⟩
end Go.Proofs.Ytjgbandmjamcaaa

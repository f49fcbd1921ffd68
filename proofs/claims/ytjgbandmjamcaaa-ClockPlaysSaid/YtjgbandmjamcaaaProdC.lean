/- Contract: the document's product of a number and a rate, rounded up. -/
import Derived.Test.YtjgbandmjamcaaaProdB
namespace Go.Proofs.Ytjgbandmjamcaaa
open Go.RowKit
attribute [local go_sem] bits_of

theorem bit_52 (b : Nat) (hb : b < 18446744073709551616) : bits .and .u64 (b : Int) 4503599627370495 = ((b % 4503599627370496 : Nat) : Int) := by
  have h := u64_and_nat b 4503599627370495 hb (by decide)
  rw [show ((4503599627370495 : Nat) : Int) = 4503599627370495 from rfl] at h
  rw [h, show 4503599627370495 = 2 ^ 52 - 1 from by decide, Nat.and_two_pow_sub_one_eq_mod]
theorem Bl.tail {ok : Nat → Prop} {w : World} {b off len cap : Nat} {xs : List Nat} (h : Bl ok w (.slice (some ⟨b, off, none⟩) len cap) xs) (h0 : 0 < len) (_ : cap ≠ 1) : Bl ok w (.slice (some ⟨b, off + 1, none⟩) (len - 1) (cap - 1)) (xs.drop 1) := by
  obtain ⟨h1, A, cp, h2, h3, h3', h4⟩ := h
  injection h2 with e1 e2 e3
  subst e1 e2 e3
  obtain ⟨b', off', e, hk, hl, hcl⟩ := h4 h0
  injection e with e
  injection e with e1 e2
  subst e1 e2
  refine ⟨by rw [u8s_len]; omega, _, cap - 1, ?_, ?_, by omega, fun hn => ⟨b, off + 1, rfl, hk, hl, fun j u hj => ?_⟩⟩
  · rw [List.length_drop]
  · rw [List.length_drop]; omega
  · have e : (u8s xs)[1 + j]? = some u := by
      rw [← hj]
      unfold u8s
      rw [List.getElem?_map, List.getElem?_map, List.getElem?_drop]
    have := hcl (1 + j) u e
    rw [← Nat.add_assoc] at this
    exact this
theorem Bl.last {ok : Nat → Prop} {w : World} {b off len : Nat} {xs : List Nat} (h : Bl ok w (.slice (some ⟨b, off, none⟩) len 1) xs) (h0 : 0 < len) : Bl ok w (.slice (some ⟨b, off, none⟩) 0 0) (xs.drop 1) ∧ len = 1 := by
  obtain ⟨h1, A, cp, h2, h3, h3', h4⟩ := h
  injection h2 with e1 e2 e3
  have hl1 : xs.length = 1 := by omega
  have hd : xs.drop 1 = [] := List.drop_eq_nil_of_le (by omega)
  rw [hd]
  exact ⟨⟨rfl, _, 0, rfl, Nat.le_refl _, by unfold maxLen; omega, fun h => absurd h (by simp)⟩, by omega⟩
theorem ceil_le (a q m : Nat) (hq : 0 < q) (h : a ≤ m * q) : ceilDiv a q ≤ m := by
  unfold ceilDiv
  have h1 : a / q ≤ m := by rw [Nat.div_le_iff_le_mul hq]; omega
  split
  · exact h1
  · rename_i hr
    rcases Nat.lt_or_eq_of_le h1 with h2 | h2
    · exact h2
    · have := Nat.div_add_mod a q
      have e : q * (a / q) = m * q := by rw [h2, Nat.mul_comm]
      omega
/-- Behind t digits that are cut off. -/
def CutI (w : World) (ds : List Nat) (t : Nat) (v : Value) (lost : Bool) : Prop := Bl (fun _ => True) w v (ds.drop t) ∧ lost = decide (val ds % 2 ^ t ≠ 0)
theorem cut_lost (ds : List Nat) (hb : Bits ds) (t : Nat) (ht : t < ds.length) : decide (val ds % 2 ^ (t + 1) ≠ 0) = (decide (val ds % 2 ^ t ≠ 0) || decide (ds[t]?.getD 0 = 1)) := by
  have hh := drop_head ds hb t ht
  rw [mod_succ_bit, ← hh]
  have hx := bits_get hb t
  have hp := Nat.two_pow_pos t
  generalize ds[t]?.getD 0 = x at *
  have e : x = 0 ∨ x = 1 := by omega
  rcases e with rfl | rfl
  · simp
  · simp
theorem cut_over (ds : List Nat) (hb : Bits ds) (t : Nat) (ht : ds.length ≤ t) : decide (val ds % 2 ^ (t + 1) ≠ 0) = decide (val ds % 2 ^ t ≠ 0) := by
  have h1 : val ds % 2 ^ t = val ds := by rw [← (val_drop ds hb t).2, List.take_of_length_le ht]
  have h2 : val ds % 2 ^ (t + 1) = val ds := by rw [← (val_drop ds hb (t + 1)).2, List.take_of_length_le (by omega)]
  rw [h1, h2]
set_option maxRecDepth 100000 in
set_option maxHeartbeats 4000000 in
theorem ref_Product (n b : Nat) (hn : n ≤ 1125899906842624) (hb : isRateC b) (w : World) :
    Calls Try.prog 51 #[.int .i64 n, .float .f64 b, .bool true] w (Ret (.tuple #[.int .i64 (grow n b), .int .i64 0]) (Kp none_ w)) := by
  obtain ⟨hr1, hr2, hr3, hr4⟩ := ref_bounds b hb
  have hgr := grow_ref n b hb
  obtain ⟨E, hE⟩ : ∃ E, E = b / 4503599627370496 % 2048 := ⟨_, rfl⟩
  obtain ⟨M, hM⟩ : ∃ M, M = b % 4503599627370496 := ⟨_, rfl⟩
  obtain ⟨neg, hneg⟩ : ∃ neg : Bool, neg = decide (b = 9223372036854775808) := ⟨_, rfl⟩
  have hbl : b < 18446744073709551616 := by rcases hb with h | h | h <;> omega
  have hE1 : E ≤ 1022 := by rcases hb with h | h | h <;> omega
  have hM1 : M < 4503599627370496 := by omega
  have k1 : (((b : Int) / 9223372036854775808) == 1) = neg := by
    rw [hneg]
    rcases hb with rfl | rfl | ⟨h1, h2⟩
    · decide
    · decide
    · rw [show (b : Int) / 9223372036854775808 = 0 from by omega]; simp; omega
  have k2 : bits .and .u64 ((b : Int) / 4503599627370496) 2047 = (E : Int) := by
    rw [show (b : Int) / 4503599627370496 = ((b / 4503599627370496 : Nat) : Int) from by omega, bit_2047 _ (by omega), hE]
  have k3 : bits .and .u64 (b : Int) 4503599627370495 = (M : Int) := by rw [bit_52 b hbl, hM]
  have hnp : neg = true → refPart b = 0 := by
    rw [hneg]
    intro h
    have h' : b = 9223372036854775808 := by simpa using h
    subst h'
    decide
  obtain ⟨e, he⟩ : ∃ e, e = refExp b := ⟨_, rfl⟩
  obtain ⟨p, hp⟩ : ∃ p, p = refPart b := ⟨_, rfl⟩
  have he0 : E = 0 → e = 1 ∧ p = M := fun h => by rw [he, hp, hM]; unfold refExp refPart; rw [if_pos (by omega), if_pos (by omega)]; exact ⟨rfl, rfl⟩
  have he1 : E ≠ 0 → e = E ∧ p = M + 4503599627370496 := fun h => by rw [he, hp, hM, hE]; unfold refExp refPart; rw [if_neg (by omega), if_neg (by omega)]; exact ⟨rfl, rfl⟩
  rw [← he, ← hp] at hgr
  rw [← he] at hr1 hr2 hr4
  rw [← hp] at hr3 hr4 hnp
  have HG := Lib.hid hgr
  have HNP := Lib.hid hnp
  have H0 := Lib.hid he0
  have H1 := Lib.hid he1
  have HR4 := Lib.hid hr4
  clear hgr hnp he0 he1 he hp hr4 hneg hM hE hb
  have n0 : ¬ (n : Int) < 0 := by omega
  have n1 : decide ((n : Int) < 0) = false := by simp
  have e2 : ((E : Int) == 2047) = false := by simp; omega
  have e3 : IntKind.i64.wrap (E : Int) = (E : Int) := by rw [IntKind.wrap_i64]; omega
  clear hbl
  go_enter Try.func51, Try.ntmps51
  go_upto_block 0 with fail
  go_cut [10, 11] (fun s10 s11 wx => s10 = .int .i64 e ∧ s11 = .int .u64 p ∧ wx = w)
  case first =>
    by_cases hz : E = 0
    · obtain ⟨rfl, rfl⟩ := H0.out hz
      subst hz
      go_wp2_with fail
      go_meet
      exact ⟨rfl, rfl, rfl⟩
    · obtain ⟨rfl, rfl⟩ := H1.out hz
      have e4 : ((e : Int) == 0) = false := by simp; omega
      have e5 : IntKind.u64.wrap ((M : Int) + 4503599627370496) = ((M + 4503599627370496 : Nat) : Int) := by rw [IntKind.wrap_u64]; omega
      go_wp2_with fail
      go_meet
      exact ⟨rfl, rfl, rfl⟩
  case rest =>
    obtain ⟨rfl, rfl, rfl⟩ := hcut
    clear k1 k2 k3 n1 e2 e3 H0 H1
    have hsz := fun w => ref_Size (n : Int) (by omega) (by omega) w
    rw [Int.toNat_natCast] at hsz
    go_wp2_with fail
    refine (hsz _).mono ?_; rintro e' w1 ⟨rfl, rfl⟩
    clear hsz
    go_wp2_with fail
    refine (ref_digits n (by omega) _).mono ?_
    rintro e' w2 ⟨va, da, rfl, hk2, hva, hba, hda, hla⟩
    go_wp2_with fail
    refine (ref_digits p (by omega) _).mono ?_
    rintro e' w3 ⟨vb, db, rfl, hk3, hvb, hbb, hdb, hlb⟩
    have hva3 := hva.then_ hk3
    go_wp2_with fail
    refine (ref_product va vb da db _ hva3 hvb hba hbb (by omega) (by omega)).mono ?_
    rintro e' w4 ⟨vd, ds, rfl, hk4, hvd, hbd, hdd, hld⟩
    have hkw := (hk2.then_ hk3).then_ hk4
    rw [hda, hdb] at hdd
    have HDD := Lib.hid hdd
    have HBD := Lib.hid hbd
    have hld2 : ds.length ≤ 200 := by omega
    clear hdd hbd hld hda hdb hla hlb hva hva3 hvb hba hbb hk2 hk3 hk4
    go_wp2_with fail
    go_loopg [12, 13] 0 (fun gk d i wr => gk = 0 ∧ vd = d ∧ i = .int .i64 1075 ∧ w4 = wr)
    case atStart => exact ⟨rfl, rfl, rfl, rfl⟩
    case round =>
      obtain ⟨rfl, rfl, rfl, rfl⟩ := hrel
      have hst : CutI w4 ds 0 vd false := ⟨by rw [List.drop_zero]; exact hvd, by rw [Nat.pow_zero, Nat.mod_one]; simp⟩
      have hlt : (e : Int) ≤ 1075 := by omega
      go_wp2_with fail
      clear hlt hvd
      go_loopg [12, 14, 15] (1075 - e) (fun gk d lost i wr => ∃ (t : Nat) (l : Bool), t ≤ 1075 - e ∧ gk = 1075 - e - t ∧ i = .int .i64 (e + t : Nat) ∧ lost = .bool l ∧ w4 = wr ∧ CutI w4 ds t d l)
      case atStart => exact ⟨0, false, by omega, rfl, rfl, rfl, rfl, hst⟩
      case round =>
        clear hst
        obtain ⟨t, l, ht, rfl, rfl, rfl, rfl, hbl, hlo⟩ := hrel
        obtain ⟨A, cap, hv, hcap, hmax⟩ := hbl.form
        unfold maxLen at hmax
        have HLO := Lib.hid hlo
        clear hlo
        have hdl : (ds.drop t).length = ds.length - t := List.length_drop ..
        rw [hdl] at hv hcap
        subst hv
        by_cases hlt : t < 1075 - e
        · have i1 : ((e + t : Nat) : Int) < 1075 := by omega
          by_cases hl : t < ds.length
          · have hx := u8s_get (xs := ds.drop t) (k := 0) (by omega)
            rw [List.getElem?_drop, Nat.add_zero] at hx
            have hbl2 : Sl (fun _ => True) w4 1 (.slice A (ds.length - t) cap) (ds.length - t) (u8s (ds.drop t)) := by have h := hbl; unfold Bl at h; rw [hdl] at h; exact h
            obtain ⟨bb, off, rfl, _, _, hcl⟩ := hbl2.cells (by omega)
            clear hbl2
            have c0 : w4.cell? ⟨bb, off, none⟩ = some (.int .u8 (ds[t]?.getD 0 : Nat)) := by have := hcl 0 _ hx; rw [Nat.add_zero] at this; exact this
            clear hcl hx
            have hxb := bits_get HBD.out t
            have hlost := cut_lost ds HBD.out t hl
            rw [← HLO.out] at hlost
            have hdrop : (ds.drop t).drop 1 = ds.drop (t + 1) := by rw [List.drop_drop]
            by_cases hc1 : cap = 1
            · subst hc1
              obtain ⟨hbt, hone⟩ := Bl.last hbl (by omega)
              rw [hdrop] at hbt
              have hnx : ∀ l', l' = (l || decide (ds[t]?.getD 0 = 1)) → CutI w4 ds (t + 1) (.slice (some ⟨bb, off, none⟩) 0 0) l' := fun l' h => ⟨hbt, by rw [h, hlost]⟩
              have HNX := Lib.hid hnx
              rw [hone] at hcap ⊢
              clear hnx hbt hbl hdrop hlost hdl
              cases l with
              | true =>
                go_wp2_with fail
                go_roundg (1075 - e - (t + 1))
                case measure => omega
                case rel => exact ⟨t + 1, true, by omega, rfl, by go_num, rfl, rfl, HNX.out _ (by simp)⟩
              | false =>
                by_cases h1 : ds[t]?.getD 0 = 1
                · rw [h1] at c0 HNX
                  go_wp2_with fail
                  go_roundg (1075 - e - (t + 1))
                  case measure => omega
                  case rel => exact ⟨t + 1, true, by omega, rfl, by go_num, rfl, rfl, HNX.out _ (by simp)⟩
                · have h0 : ds[t]?.getD 0 = 0 := by omega
                  rw [h0] at c0 HNX
                  clear h1 h0
                  go_wp2_with fail
                  go_roundg (1075 - e - (t + 1))
                  case measure => omega
                  case rel => exact ⟨t + 1, false, by omega, rfl, by go_num, rfl, rfl, HNX.out _ (by simp)⟩
            · have hbt := Bl.tail hbl (by omega) hc1
              rw [hdrop] at hbt
              have hnx : ∀ l', l' = (l || decide (ds[t]?.getD 0 = 1)) → CutI w4 ds (t + 1) (.slice (some ⟨bb, off + 1, none⟩) (ds.length - t - 1) (cap - 1)) l' := fun l' h => ⟨hbt, by rw [h, hlost]⟩
              have HNX := Lib.hid hnx
              obtain ⟨len, hlen⟩ : ∃ len, len = ds.length - t := ⟨_, rfl⟩
              rw [← hlen] at hcap HNX ⊢
              have hlen0 : 0 < len := by omega
              have hcap2 : 2 ≤ cap := by omega
              clear hnx hbt hbl hdrop hlost hdl hlen hc1
              cases l with
              | true =>
                go_wp2_with fail
                go_roundg (1075 - e - (t + 1))
                case measure => omega
                case rel => exact ⟨t + 1, true, by omega, rfl, by go_num, rfl, rfl, HNX.out _ (by simp)⟩
              | false =>
                by_cases h1 : ds[t]?.getD 0 = 1
                · rw [h1] at c0 HNX
                  go_wp2_with fail
                  go_roundg (1075 - e - (t + 1))
                  case measure => omega
                  case rel => exact ⟨t + 1, true, by omega, rfl, by go_num, rfl, rfl, HNX.out _ (by simp)⟩
                · have h0 : ds[t]?.getD 0 = 0 := by omega
                  rw [h0] at c0 HNX
                  clear h1 h0
                  go_wp2_with fail
                  go_roundg (1075 - e - (t + 1))
                  case measure => omega
                  case rel => exact ⟨t + 1, false, by omega, rfl, by go_num, rfl, rfl, HNX.out _ (by simp)⟩
          · have hnl : ds.length - t = 0 := by omega
            have hnx : Hid (CutI w4 ds (t + 1) (.slice A (ds.length - t) cap) l) := Lib.hid ⟨by rw [show ds.drop (t + 1) = ds.drop t from by rw [List.drop_eq_nil_of_le (by omega), List.drop_eq_nil_of_le (by omega)]]; exact hbl, by rw [cut_over ds HBD.out t (by omega)]; exact HLO.out⟩
            rw [hnl] at hnx hcap ⊢
            clear hbl hdl hnl
            go_wp2_with fail
            go_roundg (1075 - e - (t + 1))
            case measure => omega
            case rel => exact ⟨t + 1, l, by omega, rfl, by go_num, rfl, rfl, hnx.out⟩
        · obtain rfl : t = 1075 - e := by omega
          have i1 : (1075 : Int) ≤ ((e + (1075 - e) : Nat) : Int) := by omega
          have hvd := (val_drop ds HBD.out (1075 - e)).1
          have hbD := bits_drop HBD.out (1075 - e)
          have hlo := HLO.out
          rw [HDD.out] at hvd hlo
          have hR : ceilDiv (n * p) (2 ^ (1075 - e)) ≤ n := ceil_le _ _ _ (Nat.two_pow_pos _) (Nat.mul_le_mul_left _ (by have := HR4.out; omega))
          have hRl : l = false → val (ds.drop (1075 - e)) = ceilDiv (n * p) (2 ^ (1075 - e)) := fun h => by
            rw [h] at hlo
            have hlo' : n * p % 2 ^ (1075 - e) = 0 := by simpa using hlo
            unfold ceilDiv
            rw [if_pos hlo']
            exact hvd
          have hRt : l = true → val (ds.drop (1075 - e)) + 1 = ceilDiv (n * p) (2 ^ (1075 - e)) ∧ neg = false := fun h => by
            rw [h] at hlo
            have hlo' : ¬ n * p % 2 ^ (1075 - e) = 0 := by simpa using hlo
            unfold ceilDiv
            rw [if_neg hlo', hvd]
            refine ⟨rfl, ?_⟩
            cases hng : neg with
            | false => rfl
            | true =>
              have := HNP.out hng
              rw [this, Nat.mul_zero, Nat.zero_mod] at hlo'
              exact absurd rfl hlo'
          have hRz : neg = true → ceilDiv (n * p) (2 ^ (1075 - e)) = 0 := fun h => by
            rw [HNP.out h, Nat.mul_zero]
            unfold ceilDiv
            rw [Nat.zero_mod, if_pos rfl, Nat.zero_div]
          generalize ceilDiv (n * p) (2 ^ (1075 - e)) = R at *
          generalize ds.drop (1075 - e) = D at *
          have HRL := Lib.hid hRl
          have HRT := Lib.hid hRt
          have HRZ := Lib.hid hRz
          have HBB := Lib.hid hbD
          have HBL := Lib.hid hbl
          have HDL := Lib.hid hdl
          clear hRl hRt hRz hbD hbl hlo hvd hdl
          obtain ⟨len, hlen⟩ : ∃ len, len = ds.length - (1075 - e) := ⟨_, rfl⟩
          rw [← hlen] at HDL HBL hcap ⊢
          have hlen2 : len ≤ 1000 := by omega
          clear hlen
          cases l with
          | false =>
            have hv2 := HRL.out rfl
            go_wp2_with fail
            refine (ref_number _ D neg _ HBL.out HBB.out (by rw [hv2]; omega) (fun h => by rw [hv2]; exact HRZ.out h)).mono ?_; rintro e' w5 ⟨rfl, rfl⟩
            rw [hv2]
            clear hv2
            go_wp2_with fail
            go_ret2
            rw [HG.out]
            exact ⟨rfl, hkw⟩
          | true =>
            obtain ⟨hd1, rfl⟩ := HRT.out rfl
            have HD1 := Lib.hid hd1
            clear hd1
            go_wp2_with fail
            refine (ref_more _ D _ HBL.out HBB.out (by have := HDL.out; omega)).mono ?_
            rintro e' w5 ⟨v5, ys, rfl, hk5, hv5, hb5, hd5⟩
            rw [HD1.out] at hd5
            go_wp2_with fail
            refine (ref_number v5 ys false _ hv5 hb5 (by rw [hd5]; omega) (fun h => by cases h)).mono ?_; rintro e' w6 ⟨rfl, rfl⟩
            rw [hd5]
            clear hd5
            go_wp2_with fail
            go_ret2
            rw [HG.out]
            exact ⟨rfl, hkw.then_ hk5⟩
end Go.Proofs.Ytjgbandmjamcaaa

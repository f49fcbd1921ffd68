/- Contract: the document's product of digits. -/
import Derived.Test.YtjgbandmjamcaaaProdA
import Derived.Laws.MakeOwn
namespace Go.Proofs.Ytjgbandmjamcaaa
open Go.RowKit

def zerosB (n : Nat) : Array Value := madeCells (Value.int .u8 0).cells (n * 1)
theorem zerosB_list (n : Nat) : (zerosB n).toList = u8s (List.replicate n 0) := by
  unfold zerosB madeCells u8s
  rw [Array.toList_map, Array.toList_range, Nat.mul_one, List.map_replicate]
  apply List.ext_getElem
  · simp
  · intro i h1 h2
    have e : i % (Value.int .u8 0).cells.size = 0 := by rw [show (Value.int .u8 0).cells.size = 1 from rfl]; omega
    simp [e]
    rfl
theorem make134 (n : Nat) (hn : n ≤ 100000) (w : World) : (Instr.makeSlice 134 (.int .i64 n) (.int .i64 n)).run Try.prog w = .ok (.slice (some ⟨w.heap.size, 0, none⟩) n n) (w.alloc (.cells (zerosB n) 5)) := by
  obtain ⟨i0, hi, hz0, hz1, hz2⟩ := info_parts info_u8
  have h := run_make (P := Try.prog) w 134 5 i0 (.int .u8 0) Try.underlying134 hi hz0 .i64 .i64 n n (by omega) (by omega) (by rw [hz2]; omega) (by omega)
  rw [hz1, Int.toNat_natCast] at h
  exact h
theorem Rw.zeros (w : World) (n : Nat) (hn : n ≤ 100000) : Rw (w.alloc (.cells (zerosB n) 5)) w.heap.size n (List.replicate n 0) := by
  refine ⟨zerosB n, Blk.new _ _ _, ?_, by simp, by unfold maxLen; omega⟩
  rw [zerosB_list, List.length_replicate, List.take_of_length_le (by rw [u8s_len, List.length_replicate]; omega)]
theorem prod_step {zs : List Nat} {p c x V : Nat} (hp : p < zs.length) (h : val zs + 2 ^ p * c = V) : val (zs.set p ((zs[p]?.getD 0 + c + x) % 2)) + 2 ^ (p + 1) * ((zs[p]?.getD 0 + c + x) / 2) = V + 2 ^ p * x := by
  have hs := val_set zs p ((zs[p]?.getD 0 + c + x) % 2) hp
  generalize zs[p]?.getD 0 = o at *
  have e : 2 ^ p * ((o + c + x) % 2) + 2 ^ (p + 1) * ((o + c + x) / 2) = 2 ^ p * o + 2 ^ p * c + 2 ^ p * x := by
    rw [Nat.pow_succ, Nat.mul_assoc, ← Nat.mul_add, ← Nat.mul_add, ← Nat.mul_add]
    congr 1
    omega
  omega
theorem prod_done {ds bs zs zs' : List Nat} {i c : Nat} (ha : Bits ds) (hb : Bits bs) (hi : i < ds.length) (h : val zs = val (ds.take i) * val bs) (h1 : ds[i]?.getD 0 = 1) (hv : val zs' + 2 ^ (i + (bs.length + 1)) * c = val zs + 2 ^ i * val bs) : c = 0 ∧ val zs' = val (ds.take (i + 1)) * val bs := by
  have hA := val_lt (bits_take ha i)
  rw [List.length_take, Nat.min_eq_left (by omega)] at hA
  have hB := val_lt hb
  have e : val (ds.take (i + 1)) * val bs = val zs + 2 ^ i * val bs := by
    rw [val_take_succ _ _ hi, h1, Nat.mul_one, Nat.add_mul, h]
  have hlt : val zs + 2 ^ i * val bs < 2 ^ (i + (bs.length + 1)) := by
    rw [h, ← Nat.add_mul, Nat.pow_add, Nat.pow_succ, Nat.mul_comm (2 ^ bs.length) 2, ← Nat.mul_assoc]
    refine Nat.lt_of_le_of_lt (Nat.mul_le_mul_right _ (show val (ds.take i) + 2 ^ i ≤ 2 ^ i * 2 by omega)) ?_
    exact Nat.mul_lt_mul_of_pos_left hB (by have := Nat.two_pow_pos i; omega)
  have hc : c = 0 := by
    rcases Nat.eq_zero_or_pos c with h | h
    · exact h
    · have := Nat.mul_le_mul_left (2 ^ (i + (bs.length + 1))) h
      omega
  subst hc
  exact ⟨rfl, by omega⟩
theorem prod_none {ds bs zs : List Nat} {i : Nat} (hi : i < ds.length) (h : val zs = val (ds.take i) * val bs) (h0 : ds[i]?.getD 0 = 0) : val zs = val (ds.take (i + 1)) * val bs := by
  rw [val_take_succ _ _ hi, h0, Nat.mul_zero, Nat.add_zero, h]
/-- A product of two numbers' digits. -/
def prodOut (n m : Nat) (w : World) (e : Ending) (w' : World) : Prop := ∃ v ys, e = .returned v ∧ Kp none_ w w' ∧ Bl (fun _ => True) w' v ys ∧ Bits ys ∧ val ys = n ∧ ys.length = m
/-- Behind i rounds. -/
def ProdI (W : World) (g N : Nat) (ds bs : List Nat) (i : Nat) (w : World) : Prop := ∃ zs, Kp none_ W w ∧ Rw w g N zs ∧ zs.length = N ∧ Bits zs ∧ val zs = val (ds.take i) * val bs
/-- Within a round. -/
def ProdK (W : World) (g N : Nat) (zs0 bs : List Nat) (i k c : Nat) (w : World) : Prop := ∃ zs, Kp none_ W w ∧ Rw w g N zs ∧ zs.length = N ∧ Bits zs ∧ c ≤ 1 ∧ val zs + 2 ^ (i + k) * c = val zs0 + 2 ^ i * val (bs.take k)
set_option maxRecDepth 100000 in
set_option maxHeartbeats 2000000 in
theorem ref_product (va vb : Value) (ds bs : List Nat) (w : World) (hva : Bl (fun _ => True) w va ds) (hvb : Bl (fun _ => True) w vb bs) (ha : Bits ds) (hb : Bits bs) (hla : ds.length ≤ 1000) (hlb : bs.length ≤ 1000) :
    Calls Try.prog 60 #[va, vb] w (prodOut (val ds * val bs) (ds.length + bs.length + 1) w) := by
  obtain ⟨A, capa, rfl, hca, hma⟩ := hva.form
  obtain ⟨B, capb, rfl, hcb, hmb⟩ := hvb.form
  unfold maxLen at hma hmb
  obtain ⟨N, hN⟩ : ∃ N, N = ds.length + bs.length + 1 := ⟨_, rfl⟩
  have hmk := make134 N (by omega)
  have hz := Rw.zeros w N (by omega)
  have e1 : (ds.length : Int) + (bs.length : Int) + 1 = (N : Int) := by omega
  have hst : ProdI w w.heap.size N ds bs 0 (w.alloc (.cells (zerosB N) 5)) := ⟨_, (Kp.refl none_ w).alloc _, hz, by simp, bits_zeros N, by rw [val_zeros]; simp [val]⟩
  have HA := Lib.hid ha
  have HB := Lib.hid hb
  clear ha hb hz
  rw [← hN]
  have HN := Lib.hid hN
  clear hN
  go_enter Try.func60, Try.ntmps60
  go_wp2_with fail
  clear hmk e1
  rename_i w0
  generalize hg : w.heap.size = g at *
  have HG := Lib.hid hg
  clear hg
  go_loopg [6] ds.length (fun gk i wr => ∃ q : Nat, q ≤ ds.length ∧ gk = ds.length - q ∧ i = .int .i64 q ∧ ProdI w g N ds bs q wr)
  case atStart => exact ⟨0, by omega, rfl, rfl, hst⟩
  case round =>
    clear hst
    obtain ⟨i, hi, rfl, rfl, zs, hkp, hr, hlz, hbz, hvz⟩ := hrel
    have HV := Lib.hid hvz
    clear hvz
    by_cases hlt : i < ds.length
    · have hx := u8s_get hlt
      have hxb := bits_get HA.out i
      have hst : ProdK w g N zs bs i 0 0 wr := ⟨zs, hkp, hr, hlz, hbz, by omega, by simp [val]⟩
      have HBZ := Lib.hid hbz
      have hr0 := Lib.hid hr
      clear hr hbz
      go_wp2_with fail
      obtain ⟨ba, offa, rfl, _, hba, hcla⟩ := hva.cells (by omega)
      have HC := Lib.hid (hcla i _ hx)
      clear hcla hx hr0
      go_loopg [7, 8] (bs.length + 1) (fun gk cc kk wr => ∃ k c : Nat, k ≤ bs.length + 1 ∧ gk = bs.length + 1 - k ∧ kk = .int .i64 k ∧ cc = .int .u8 c ∧ (ds[i]?.getD 0 = 0 → k = 0 ∧ c = 0) ∧ ProdK w g N zs bs i k c wr)
      case atStart => exact ⟨0, 0, by omega, rfl, rfl, rfl, fun _ => ⟨rfl, rfl⟩, hst⟩
      case round =>
        clear hst hkp
        obtain ⟨k, c, hk, rfl, rfl, rfl, hak, zk, hkp, hr, hlk, hbk, hc1, hvk⟩ := hrel
        have HVK := Lib.hid hvk
        clear hvk
        have ca : wr.cell? ⟨ba, offa + i, none⟩ = some (.int .u8 (ds[i]?.getD 0 : Nat)) := (hkp.below.cell (p := ⟨ba, offa + i, none⟩) hba).trans HC.out
        have hN : N ≤ ds.length + bs.length + 1 := by have := HN.out; omega
        have hN' : ds.length + bs.length + 1 ≤ N := by have := HN.out; omega
        by_cases h1 : ds[i]?.getD 0 = 1
        · rw [h1] at ca
          by_cases hk1 : k < bs.length + 1
          · have cz := hr.cell (k := i + k) (by omega)
            have fz := hr.frozen (i + k)
            have hob := bits_get hbk (i + k)
            by_cases hk2 : k < bs.length
            · obtain ⟨bb, offb, rfl, _, hbb, hclb⟩ := hvb.cells (by omega)
              have cb : wr.cell? ⟨bb, offb + k, none⟩ = some (.int .u8 (bs[k]?.getD 0 : Nat)) := (hkp.below.cell (p := ⟨bb, offb + k, none⟩) hbb).trans (hclb k _ (u8s_get hk2))
              have hxb2 := bits_get HB.out k
              clear hclb
              have hps := prod_step (x := bs[k]?.getD 0) (by omega : i + k < zk.length) HVK.out
              have hr2 := hr.set (k := i + k) (by omega) ((zk[i + k]?.getD 0 + c + bs[k]?.getD 0) % 2)
              have hb2 := bits_set hbk (i + k) (d := (zk[i + k]?.getD 0 + c + bs[k]?.getD 0) % 2) (by omega)
              have hts := val_take_succ bs k hk2
              have hnx : ∀ w', Kp none_ w w' → Rw w' g N (zk.set (i + k) ((zk[i + k]?.getD 0 + c + bs[k]?.getD 0) % 2)) → ProdK w g N zs bs i (k + 1) ((zk[i + k]?.getD 0 + c + bs[k]?.getD 0) / 2) w' := fun w' hk' hr' =>
                ⟨_, hk', hr', by rw [List.length_set]; exact hlk, hb2, by omega, by rw [hts, Nat.mul_add, ← Nat.mul_assoc, ← Nat.pow_add, ← Nat.add_assoc i k 1, ← Nat.add_assoc]; exact hps⟩
              have HNX := Lib.hid hnx
              clear hps hb2 hts hnx hbk
              generalize zk[i + k]?.getD 0 = o at *
              generalize bs[k]?.getD 0 = x at *
              have d1 : (((o + c + x) % 2 : Nat) : Int) = ((o : Int) + (c : Int) + (x : Int)) % 2 := by omega
              have d2 : (((o + c + x) / 2 : Nat) : Int) = ((o : Int) + (c : Int) + (x : Int)) / 2 := by omega
              rw [d1] at hr2
              have HR2 := Lib.hid hr2
              have HD2 := Lib.hid d2
              have hkp2 := hkp.setCell (p := ⟨g, i + k, none⟩) (.int .u8 (((o : Int) + (c : Int) + (x : Int)) % 2)) (.inr (by show w.heap.size ≤ g; have := HG.out; omega))
              clear d1 d2 hr2 hr
              go_wp2_with fail
              go_roundg (bs.length + 1 - (k + 1))
              case measure => omega
              case rel => exact ⟨k + 1, _, by omega, rfl, by go_num, by rw [HD2.out], fun h => absurd h (by omega), HNX.out _ hkp2 HR2.out⟩
            · obtain rfl : k = bs.length := by omega
              have hps := prod_step (x := 0) (by omega : i + bs.length < zk.length) HVK.out
              have hr2 := hr.set (k := i + bs.length) (by omega) ((zk[i + bs.length]?.getD 0 + c + 0) % 2)
              have hb2 := bits_set hbk (i + bs.length) (d := (zk[i + bs.length]?.getD 0 + c + 0) % 2) (by omega)
              have hnx : ∀ w', Kp none_ w w' → Rw w' g N (zk.set (i + bs.length) ((zk[i + bs.length]?.getD 0 + c + 0) % 2)) → ProdK w g N zs bs i (bs.length + 1) ((zk[i + bs.length]?.getD 0 + c + 0) / 2) w' := fun w' hk' hr' =>
                ⟨_, hk', hr', by rw [List.length_set]; exact hlk, hb2, by omega, by rw [List.take_of_length_le (by omega), ← Nat.add_assoc]; rw [List.take_length, Nat.mul_zero, Nat.add_zero] at hps; exact hps⟩
              have HNX := Lib.hid hnx
              clear hps hb2 hnx hbk
              generalize zk[i + bs.length]?.getD 0 = o at *
              have d1 : (((o + c + 0) % 2 : Nat) : Int) = ((o : Int) + (c : Int)) % 2 := by omega
              have d2 : (((o + c + 0) / 2 : Nat) : Int) = ((o : Int) + (c : Int)) / 2 := by omega
              rw [d1] at hr2
              have HR2 := Lib.hid hr2
              have HD2 := Lib.hid d2
              have hkp2 := hkp.setCell (p := ⟨g, i + bs.length, none⟩) (.int .u8 (((o : Int) + (c : Int)) % 2)) (.inr (by show w.heap.size ≤ g; have := HG.out; omega))
              clear d1 d2 hr2 hr
              go_wp2_with fail
              go_roundg (bs.length + 1 - (bs.length + 1))
              case measure => omega
              case rel => exact ⟨bs.length + 1, _, by omega, rfl, by go_num, by rw [HD2.out], fun h => absurd h (by omega), HNX.out _ hkp2 HR2.out⟩
          · obtain rfl : k = bs.length + 1 := by omega
            have hvk := HVK.out
            rw [List.take_of_length_le (by omega)] at hvk
            obtain ⟨hc0, hdn⟩ := prod_done HA.out HB.out hlt HV.out h1 hvk
            subst hc0
            have hfin : ProdI w g N ds bs (i + 1) wr := ⟨zk, hkp, hr, hlk, hbk, hdn⟩
            clear hvk hdn hbk hr
            go_wp2_with fail
            go_roundg (ds.length - (i + 1))
            case measure => omega
            case rel => exact ⟨i + 1, by omega, rfl, by go_num, hfin⟩
        · have h0 : ds[i]?.getD 0 = 0 := by omega
          rw [h0] at ca
          obtain ⟨rfl, rfl⟩ := hak h0
          have hvk := HVK.out
          have hfin : ProdI w g N ds bs (i + 1) wr := ⟨zk, hkp, hr, hlk, hbk, by
            rw [Nat.mul_zero, Nat.add_zero, List.take_zero, val_nil, Nat.mul_zero, Nat.add_zero] at hvk
            rw [hvk]
            exact prod_none hlt HV.out h0⟩
          clear hvk hbk hr
          go_wp2_with fail
          go_roundg (ds.length - (i + 1))
          case measure => omega
          case rel => exact ⟨i + 1, by omega, rfl, by go_num, hfin⟩
    · obtain rfl : i = ds.length := by omega
      have hvz := HV.out
      rw [List.take_length] at hvz
      have hbl := hr.bl
      rw [hlz] at hbl
      have hfin : Hid (prodOut (val ds * val bs) N w (.returned (.slice (some ⟨g, 0, none⟩) N N)) wr) := Lib.hid ⟨_, zs, rfl, hkp, hbl, hbz, hvz, hlz⟩
      clear hvz hbl hr hkp hbz
      go_wp2_with fail
      go_ret
      exact hfin.out
end Go.Proofs.Ytjgbandmjamcaaa

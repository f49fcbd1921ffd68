/- Contracts: the document's digits. -/
import Derived.Test.YtjgbandmjamcaaaProdM
import Derived.Test.YtjgbandmjamcaaaAppSl
import Derived.Test.YtjgbandmjamcaaaStampB
namespace Go.Proofs.Ytjgbandmjamcaaa
open Go.RowKit

def u8s (xs : List Nat) : List Value := xs.map fun (x : Nat) => Value.int .u8 (x : Int)
theorem u8s_len (xs : List Nat) : (u8s xs).length = xs.length := by simp [u8s]
theorem u8s_append (xs ys : List Nat) : u8s xs ++ u8s ys = u8s (xs ++ ys) := by simp [u8s]
theorem u8s_one (xs : List Nat) : ∀ u ∈ u8s xs, u.oneCell' = true := by
  intro u hu
  obtain ⟨x, _, rfl⟩ := List.mem_map.1 hu
  rfl
theorem u8s_get {xs : List Nat} {k : Nat} (h : k < xs.length) : (u8s xs)[k]? = some (.int .u8 (xs[k]?.getD 0 : Nat)) := by
  unfold u8s
  rw [List.getElem?_map, List.getElem?_eq_getElem h]
  rfl
abbrev Bl (ok : Nat → Prop) (w : World) (v : Value) (xs : List Nat) : Prop := Sl ok w 1 v xs.length (u8s xs)
theorem Bl.of_own {ok : Nat → Prop} {w : World} {base n : Nat} {v : Value} {xs : List Nat} (h : w.ownsRow base 5 1 v n (u8s xs)) (hn : n = xs.length) (hok : ∀ k, base ≤ k → ok k) : Bl ok w v xs := by
  subst hn
  exact Sl.of_own h hok
theorem info_u8 : (Try.prog.info? 5).map (fun i => (i.zero, i.size, i.bytes)) = some (some (.int .u8 0), 1, 1) := by kernel_rfl
/-- Some digits of a number. -/
def digOut (n : Nat) (w : World) (e : Ending) (w' : World) : Prop := ∃ v ys, e = .returned v ∧ Kp none_ w w' ∧ Bl (fun _ => True) w' v ys ∧ Bits ys ∧ val ys = n ∧ ys.length ≤ 64
/-- How far the digits of a number are laid out. -/
def DigI (W : World) (n m : Nat) (v : Value) (ys : List Nat) (w : World) : Prop := Kp none_ W w ∧ w.ownsRow W.heap.size 5 1 v ys.length (u8s ys) ∧ Bits ys ∧ val ys + 2 ^ ys.length * m = n ∧ ys.length ≤ 64
theorem dig_len {n m : Nat} {ys : List Nat} (h : val ys + 2 ^ ys.length * m = n) (hn : n < 18446744073709551616) (hm : 0 < m) : ys.length < 64 := by
  rcases Nat.lt_or_ge ys.length 64 with h' | h'
  · exact h'
  · have h1 : 2 ^ 64 ≤ 2 ^ ys.length := Nat.pow_le_pow_right (by decide) h'
    have h2 : 2 ^ ys.length * 1 ≤ 2 ^ ys.length * m := Nat.mul_le_mul_left _ hm
    have e64 : (2 : Nat) ^ 64 = 18446744073709551616 := by decide
    omega
theorem dig_next {n m : Nat} {ys : List Nat} (h : val ys + 2 ^ ys.length * m = n) : val (ys ++ [m % 2]) + 2 ^ (ys ++ [m % 2]).length * (m / 2) = n := by
  rw [val_append, List.length_append, List.length_singleton, Nat.pow_succ]
  have e : val [m % 2] = m % 2 := by simp [val]
  rw [e, ← h, Nat.mul_assoc, Nat.add_assoc, ← Nat.mul_add]
  congr 2
  omega
set_option maxRecDepth 100000 in
set_option maxHeartbeats 1000000 in
theorem ref_digits (n : Nat) (hn : n < 18446744073709551616) (w : World) : Calls Try.prog 61 #[.int .u64 n] w (digOut n w) := by
  obtain ⟨i0, hi, hz0, hz1, hz2⟩ := info_parts info_u8
  have HN := Lib.hid hn
  clear hn
  go_enter Try.func61, Try.ntmps61
  have ho := owns_empty w w.heap.size 5 1 (Nat.le_refl _)
  have hst : DigI w n n (.slice (some ⟨w.heap.size, 0, none⟩) 0 0) [] (w.alloc (.cells #[] 5)) := ⟨(Kp.refl none_ w).alloc _, ho, (fun x hx => by cases hx), (by simp [val]), by simp⟩
  clear ho
  go_wp2_with fail
  go_loopg [0, 3] n (fun gk nn v wr => ∃ (m : Nat) (ys : List Nat), gk = m ∧ nn = .int .u64 m ∧ DigI w n m v ys wr)
  case atStart => exact ⟨n, [], rfl, rfl, hst⟩
  case round =>
    clear hst
    obtain ⟨m, ys, rfl, rfl, hd⟩ := hrel
    by_cases h0 : 0 < gk
    · have hlen := dig_len hd.2.2.2.1 HN.out h0
      have HD := Lib.hid hd
      clear hd
      have hm : gk < 18446744073709551616 := by
        have h := HD.out.2.2.2.1
        have := HN.out
        have h2 : 1 * gk ≤ 2 ^ ys.length * gk := Nat.mul_le_mul_right _ (Nat.two_pow_pos _)
        omega
      have HM := Lib.hid hm
      clear hm
      have s1 : IntKind.u64.wrap ((gk : Int) / 2) = (gk : Int) / 2 := by rw [IntKind.wrap_u64]; have := HM.out; omega
      have b0 : (0 : Int) ≤ (gk : Int) % 2 := by omega
      have b1 : (gk : Int) % 2 ≤ 1 := by omega
      have hd := HD.out
      obtain ⟨hk, ho, hb, hv, _⟩ := hd
      have HV := Lib.hid hv
      have HB := Lib.hid hb
      clear hv hb
      have ho2 := owns_alloc ho (.cells #[.int .u8 ((gk : Int) % 2)] 5)
      have hb2 : Blk (wr.alloc (.cells #[.int .u8 ((gk : Int) % 2)] 5)) wr.heap.size 5 #[.int .u8 ((gk : Int) % 2)] := Blk.new _ _ _
      have hsz := hk.size
      go_wp2_with (at_builtin; refine wpList_append_sl _ rfl (.tmp 9) (.tmp 13) 134 rfl w.heap.size 5 i0 (.int .u8 0) 1 1 Try.underlying134 hi hz0 hz1 hz2 rfl (by decide) _ ys.length (u8s ys) rfl ho2 (fun _ => True) (.slice (some ⟨wr.heap.size, 0, none⟩) 1 1) 1 [.int .u8 ((gk : Int) % 2)] rfl ?ca ?cb ?cc ?cd ?ce ?_)
      case ca => exact Sl.one hb2 trivial
      case cb => simp [Value.oneCell']
      case cc => unfold maxLen; omega
      case cd => omega
      case ce => simp; omega
      intro v1 w1 ho1 hg1 hat1
      have hk1 : Kp none_ w w1 := (hk.alloc _).grown hg1 (fun k hk => .inr (owns_ge ho2 k hk).1)
      have e1 : u8s ys ++ [Value.int .u8 ((gk : Int) % 2)] = u8s (ys ++ [gk % 2]) := by rw [← u8s_append]; rfl
      rw [e1] at ho1
      have hn1 : DigI w n (gk / 2) v1 (ys ++ [gk % 2]) w1 := ⟨hk1, by rw [List.length_append]; exact ho1, bits_append HB.out (fun x hx => by simp at hx; omega), dig_next HV.out, by rw [List.length_append, List.length_singleton]; omega⟩
      clear ho ho1 ho2 hg1 hat1 hb2
      go_wp2_with fail
      go_roundg (gk / 2)
      case measure => omega
      case rel => exact ⟨gk / 2, _, rfl, by go_num, hn1⟩
    · obtain rfl : gk = 0 := by omega
      obtain ⟨hk, ho, hb, hv, hlen⟩ := hd
      have hfin : digOut n w (.returned _) wr := ⟨_, ys, rfl, hk, Bl.of_own ho rfl (fun _ _ => trivial), hb, by rw [Nat.mul_zero, Nat.add_zero] at hv; exact hv, hlen⟩
      clear ho hb hv
      go_wp2_with fail
      go_ret
      exact hfin
set_option maxRecDepth 100000 in
set_option maxHeartbeats 1000000 in
theorem ref_number (v : Value) (ds : List Nat) (neg : Bool) (w : World) (hv : Bl (fun _ => True) w v ds) (hb : Bits ds) (hlt : val ds < 9223372036854775808) (hneg : neg = true → val ds = 0) :
    Calls Try.prog 64 #[v, .bool neg] w (Ret (.tuple #[.int .i64 (val ds : Nat), .bool true]) (· = w)) := by
  obtain ⟨A, cap, rfl, hcap, hmax⟩ := hv.form
  unfold maxLen at hmax
  have HL := Lib.hid hlt
  clear hlt
  have HNG := Lib.hid hneg
  clear hneg
  have HB := Lib.hid hb
  clear hb
  have hd0 : val (ds.drop ds.length) = 0 := by rw [List.drop_length]; rfl
  have HD0 := Lib.hid hd0
  clear hd0
  go_enter Try.func64, Try.ntmps64
  go_wp2_with fail
  go_loopg [6, 7] ds.length (fun gk out i wr => ∃ k : Nat, k ≤ ds.length ∧ gk = k ∧ wr = w ∧ i = .int .i64 ((k : Int) - 1) ∧ out = .int .u64 (val (ds.drop k) : Nat))
  case atStart => exact ⟨ds.length, Nat.le_refl _, rfl, rfl, rfl, by rw [HD0.out]; rfl⟩
  case round =>
    obtain ⟨k, hk, rfl, rfl, rfl, rfl⟩ := hrel
    have hle := val_drop_le ds HB.out gk
    have hV : val (ds.drop gk) < 9223372036854775808 := Nat.lt_of_le_of_lt hle HL.out
    cases gk with
    | zero =>
      rw [List.drop_zero] at hV ⊢
      have HV := Lib.hid hV
      clear hV hle
      have HX : Hid (∀ V : Nat, V = val ds → Ret (.tuple #[.int .i64 (V : Nat), .bool true]) (fun x => x = wr) = Ret (.tuple #[.int .i64 (val ds : Nat), .bool true]) (fun x => x = wr)) := Lib.hid (fun V h => by rw [h])
      obtain ⟨V, hVe⟩ : ∃ V, V = val ds := ⟨_, rfl⟩
      rw [← hVe] at HV HNG ⊢
      have HE := Lib.hid hVe
      clear hVe HX
      have g1 : decide ((9223372036854775808 : Int) ≤ (V : Int)) = false := by have := HV.out; simp; omega
      have g2 : ((V : Int) == 9223372036854775808) = false := by have := HV.out; simp; omega
      have s1 : IntKind.i64.wrap (V : Int) = (V : Int) := by have := HV.out; rw [IntKind.wrap_i64]; omega
      rw [show (((0 : Nat) : Int) - 1) = -1 from rfl]
      cases neg with
      | false =>
        go_wp2_with fail
        go_ret2
        rw [← HE.out]
        exact ⟨rfl, rfl⟩
      | true =>
        have hz := HNG.out rfl
        subst hz
        go_wp2_with fail
        go_ret2
        rw [← HE.out]
        exact ⟨rfl, rfl⟩
    | succ k =>
      have hs := val_drop_succ ds k (by omega)
      have hxb := bits_get HB.out k
      have hx := u8s_get (xs := ds) (k := k) (by omega)
      have hle2 := val_drop_le ds HB.out k
      obtain ⟨ba, off, rfl, _, _, hcl⟩ := hv.cells (by omega)
      have hck := hcl k _ hx
      clear hcl hx
      have HS := Lib.hid hs
      have HL2 := Lib.hid (Nat.lt_of_le_of_lt hle2 HL.out)
      rw [hs] at HL2
      have HV := Lib.hid hV
      clear hV hle hle2 hs
      generalize val (ds.drop (k + 1)) = V at *
      generalize ds[k]?.getD 0 = x at *
      have g1 : decide ((9223372036854775808 : Int) ≤ (V : Int)) = false := by have := HV.out; simp; omega
      have s1 : IntKind.u64.wrap (2 * (V : Int)) = 2 * (V : Int) := by have := HV.out; rw [IntKind.wrap_u64]; omega
      have s2 : IntKind.u64.wrap (2 * (V : Int) + (x : Int)) = ((x + 2 * V : Nat) : Int) := by have := HV.out; rw [IntKind.wrap_u64]; omega
      rw [show (((k + 1 : Nat) : Int) - 1) = (k : Int) from by omega]
      go_wp2_with fail
      go_roundg k
      case measure => omega
      case rel => exact ⟨k, by omega, rfl, rfl, rfl, by rw [HS.out]; exact congrArg (Value.int .u64) (by omega)⟩
set_option maxRecDepth 100000 in
theorem ref_Size (n : Int) (h0 : 0 ≤ n) (h1 : n ≤ 1125899906842624) (w : World) : Calls Try.prog 62 #[.int .i64 n] w (Ret (.int .u64 (n.toNat : Nat)) (· = w)) := by
  have e : ((n.toNat : Nat) : Int) = n := by omega
  rw [e]
  clear e
  go_enter Try.func62, Try.ntmps62
  go_wp2_with fail
  go_ret
  exact ⟨rfl, rfl⟩
/-- The first cells of a block are such digits. -/
def Rw (w : World) (g cap : Nat) (zs : List Nat) : Prop := ∃ cur, Blk w g 5 cur ∧ cur.toList.take zs.length = u8s zs ∧ zs.length ≤ cap ∧ cap ≤ maxLen
section
variable {w w' : World} {g cap : Nat} {zs : List Nat}
theorem Rw.lt (h : Rw w g cap zs) : g < w.heap.size := by obtain ⟨cur, hb, _⟩ := h; exact hb.lt
theorem Rw.cell (h : Rw w g cap zs) {k : Nat} (hk : k < zs.length) : w.cell? ⟨g, k, none⟩ = some (.int .u8 (zs[k]?.getD 0 : Nat)) := by
  obtain ⟨cur, hb, ht, _⟩ := h
  rw [hb.cell, ← Array.getElem?_toList, ← u8s_get hk, ← ht, List.getElem?_take, if_pos hk]
theorem Rw.frozen (h : Rw w g cap zs) (k : Nat) : w.frozen? ⟨g, k, none⟩ = false := by
  obtain ⟨cur, hb, _⟩ := h
  exact hb.frozen k
theorem Rw.kp {S : Nat → Prop} (h : Rw w g cap zs) (k : Kp S w w') (hs : ¬ S g) : Rw w' g cap zs := by
  obtain ⟨cur, hb, ht⟩ := h
  exact ⟨cur, hb.kp k hs, ht⟩
theorem Rw.set (h : Rw w g cap zs) {k : Nat} (_ : k < zs.length) (d : Nat) : Rw (w.setCell ⟨g, k, none⟩ (.int .u8 (d : Int))) g cap (zs.set k d) := by
  obtain ⟨cur, hb, ht, hc⟩ := h
  refine ⟨_, hb.set k _, ?_, by rw [List.length_set]; exact hc⟩
  rw [Array.toList_setIfInBounds, List.length_set, List.take_set, ht]
  unfold u8s
  rw [List.map_set]
theorem Rw.bl (h : Rw w g cap zs) : Bl (fun _ => True) w (.slice (some ⟨g, 0, none⟩) zs.length cap) zs := by
  obtain ⟨cur, hb, ht, hc, hm⟩ := h
  refine ⟨by rw [u8s_len]; omega, _, cap, rfl, hc, hm, fun _ => ⟨g, 0, rfl, trivial, hb.lt, fun j u hj => ?_⟩⟩
  rw [Nat.zero_add, hb.cell, ← Array.getElem?_toList]
  rw [← ht, List.getElem?_take] at hj
  split at hj
  · exact hj
  · cases hj
theorem Rw.of_own {base n : Nat} (h : w.ownsRow base 5 1 (.slice (some ⟨g, 0, none⟩) n cap) n (u8s zs)) (hn : n = zs.length) (_ : 0 < n) : Rw w g cap zs := by
  rcases h.2 with ⟨e, _⟩ | ⟨g', cap', cur, e, hb, hgc, hc1, hc2, hc3, hc4⟩
  · cases e
  · injection e with e1 e2 e3
    injection e1 with e1
    injection e1 with e1
    subst e1 e3
    exact ⟨cur, hgc, by rw [← hn, ← hc4, Nat.mul_one], by omega, hc2⟩
end
/-- The same digits for a number more by one. -/
def moreOut (n : Nat) (w : World) (e : Ending) (w' : World) : Prop := ∃ v ys, e = .returned v ∧ Kp none_ w w' ∧ Bl (fun _ => True) w' v ys ∧ Bits ys ∧ val ys = n
/-- What is laid out when the first k were ones. -/
theorem more_step {zs : List Nat} {k N : Nat} (hk : k < zs.length) (h : val zs + 2 ^ k = N) (h1 : zs[k]?.getD 0 = 1) : val (zs.set k 0) + 2 ^ (k + 1) = N := by
  have hs := val_set zs k 0 hk
  rw [h1] at hs
  rw [Nat.pow_succ]
  omega
theorem more_last {zs : List Nat} {k N : Nat} (hk : k < zs.length) (h : val zs + 2 ^ k = N) (h1 : zs[k]?.getD 0 = 0) : val (zs.set k 1) = N := by
  have hs := val_set zs k 1 hk
  rw [h1] at hs
  omega
set_option maxRecDepth 100000 in
set_option maxHeartbeats 1000000 in
theorem ref_more (v : Value) (ds : List Nat) (w : World) (hv : Bl (fun _ => True) w v ds) (hb : Bits ds) (hl : ds.length ≤ 1000) : Calls Try.prog 63 #[v] w (moreOut (val ds + 1) w) := by
  obtain ⟨i0, hi, hz0, hz1, hz2⟩ := info_parts info_u8
  go_enter Try.func63, Try.ntmps63
  have ho := owns_empty w w.heap.size 5 1 (Nat.le_refl _)
  go_wp2_with (at_builtin; refine wpList_append_sl (P := Try.prog) (w.alloc (.cells #[] 5)) (by rfl) (.tmp 5) (.tmp 6) 134 (by rfl) w.heap.size 5 i0 (.int .u8 0) 1 1 Try.underlying134 hi hz0 hz1 hz2 (by rfl) (by decide) (.slice (some ⟨w.heap.size, 0, none⟩) 0 0) 0 [] (by rfl) ho (fun _ => True) v ds.length (u8s ds) (by rfl) ?ca ?cb ?cc ?cd ?ce ?_)
  case ca => exact hv.alloc _
  case cb => exact u8s_one ds
  case cc => unfold maxLen; omega
  case cd => omega
  case ce => simp
  intro v1 w2 ho1 hg1 hat1
  have ho2 := owns_alloc ho1 (.cells #[.int .u8 0] 5)
  have hb2 : Blk (w2.alloc (.cells #[.int .u8 0] 5)) w2.heap.size 5 #[.int .u8 0] := Blk.new _ _ _
  have hk2 : Kp none_ w w2 := ((Kp.refl none_ w).alloc _).grown hg1 (fun k hk => .inr (by cases hk; simp))
  go_wp2_with (at_builtin; refine wpList_append_sl (P := Try.prog) (w2.alloc (.cells #[.int .u8 0] 5)) (by rfl) (.tmp 7) (.tmp 8) 134 (by rfl) w.heap.size 5 i0 (.int .u8 0) 1 1 Try.underlying134 hi hz0 hz1 hz2 (by rfl) (by decide) v1 ds.length (u8s ds) (by rfl) ho2 (fun k => w.heap.size ≤ k) (.slice (some ⟨w2.heap.size, 0, none⟩) 1 1) 1 [.int .u8 0] (by rfl) ?ca ?cb ?cc ?cd ?ce ?_)
  case ca => exact Sl.one hb2 hk2.size
  case cb => simp [Value.oneCell']
  case cc => unfold maxLen; omega
  case cd => omega
  case ce => have := hk2.size; simp; omega
  intro v3 w3 ho3 hg3 hat3
  have hk3 : Kp none_ w w3 := (hk2.alloc _).grown hg3 (fun k hk => .inr (owns_ge ho2 k hk).1)
  have e1 : u8s ds ++ [Value.int .u8 0] = u8s (ds ++ [0]) := by rw [← u8s_append]; rfl
  rw [e1] at ho3
  have hl3 : (ds ++ [0]).length = ds.length + 1 := by simp
  obtain ⟨g, cap, hv3, hgb⟩ : ∃ g cap, v3 = .slice (some ⟨g, 0, none⟩) (ds.length + 1) cap ∧ w.heap.size ≤ g := by
    rcases ho3.2 with ⟨_, h0⟩ | ⟨g, cap, cur, e, hgb, _⟩
    · omega
    · exact ⟨g, cap, e, hgb⟩
  subst hv3
  have hr3 : Rw w3 g cap (ds ++ [0]) := Rw.of_own ho3 hl3.symm (by omega)
  have hb3 : Bits (ds ++ [0]) := bits_append hb (fun x hx => by simp at hx; omega)
  have hv4 : val (ds ++ [0]) + 2 ^ 0 = val ds + 1 := by rw [val_append]; simp [val]
  have hz4 : (ds ++ [0])[ds.length]?.getD 0 = 0 := by simp
  clear ho ho1 ho2 ho3 hg1 hg3 hat1 hat3 hb2 hk2 hb hv e1
  obtain ⟨N, hN⟩ : ∃ N, N = val ds + 1 := ⟨_, rfl⟩
  rw [← hN] at hv4 ⊢
  have HN := Lib.hid hN
  clear hN
  have HST := Lib.hid (And.intro hk3 (And.intro hr3 (And.intro hl3 (And.intro hb3 (And.intro hv4 hz4)))))
  clear hk3 hr3 hl3 hb3 hv4 hz4
  go_wp2_with fail
  rename_i w0
  go_loopg [4] (ds.length + 1) (fun gk i wr => ∃ (k : Nat) (zs : List Nat), k ≤ ds.length ∧ gk = ds.length + 1 - k ∧ i = .int .i64 k ∧ Hid (Kp none_ w wr ∧ Rw wr g cap zs ∧ zs.length = ds.length + 1 ∧ Bits zs ∧ val zs + 2 ^ k = N ∧ zs[ds.length]?.getD 0 = 0))
  case atStart => exact ⟨0, ds ++ [0], by omega, rfl, rfl, HST⟩
  case round =>
    clear HST
    obtain ⟨k, zs, hk, rfl, rfl, hh⟩ := hrel
    obtain ⟨hkp, hr, hlz, hbz, hvz, hz0⟩ := hh.out
    have c0 := hr.cell (k := k) (by omega)
    have f0 := hr.frozen k
    have hbk := bits_get hbz k
    have i0' : (k : Int) < (ds.length : Int) + 1 := by omega
    by_cases h1 : zs[k]?.getD 0 = 1
    · have hkl : k < ds.length := by
        rcases Nat.lt_or_eq_of_le hk with h | h
        · exact h
        · subst h; omega
      have hst : Hid (Kp none_ w (wr.setCell ⟨g, k, none⟩ (.int .u8 (0 : Nat))) ∧ Rw (wr.setCell ⟨g, k, none⟩ (.int .u8 (0 : Nat))) g cap (zs.set k 0) ∧ (zs.set k 0).length = ds.length + 1 ∧ Bits (zs.set k 0) ∧ val (zs.set k 0) + 2 ^ (k + 1) = N ∧ (zs.set k 0)[ds.length]?.getD 0 = 0) :=
        Lib.hid ⟨hkp.setCell (p := ⟨g, k, none⟩) _ (.inr hgb), hr.set (by omega) 0, by rw [List.length_set]; exact hlz, bits_set hbz k (by omega), more_step (by omega) hvz h1, by rw [List.getElem?_set_ne (by omega)]; exact hz0⟩
      rw [h1] at c0
      clear hh hkp hr hlz hbz hvz hz0 h1 hbk
      go_wp2_with fail
      go_roundg (ds.length + 1 - (k + 1))
      case measure => omega
      case rel => exact ⟨k + 1, _, by omega, rfl, by go_num, hst⟩
    · have h0 : zs[k]?.getD 0 = 0 := by omega
      have hst : Hid (moreOut N w (.returned (.slice (some ⟨g, 0, none⟩) (ds.length + 1) cap)) (wr.setCell ⟨g, k, none⟩ (.int .u8 (1 : Nat)))) :=
        Lib.hid ⟨_, zs.set k 1, rfl, hkp.setCell (p := ⟨g, k, none⟩) _ (.inr hgb), by have := (hr.set (k := k) (by omega) 1).bl; rw [List.length_set, hlz] at this; exact this, bits_set hbz k (by omega), more_last (by omega) hvz h0⟩
      rw [h0] at c0
      clear hh hkp hr hlz hbz hvz hz0 h1 h0 hbk
      go_wp2_with fail
      go_ret
      rw [← HN.out]
      exact hst.out
end Go.Proofs.Ytjgbandmjamcaaa

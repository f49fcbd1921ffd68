/- Contracts: the lease's voters and holders. -/
import Derived.Test.YtjgbandmjamcaaaStampC
import Derived.Test.YtjgbandmjamcaaaSortI
namespace Go.Proofs.Ytjgbandmjamcaaa
open Go.RowKit

/-! voters: block b of two cells, leader and until -/
set_option maxHeartbeats 400000 in
theorem lease_NewVoter (w : World) : Calls Try.prog 35 #[] w (Ret (.pointer (some ⟨w.heap.size, 0, none⟩)) fun w' => w' = w.alloc (.cells #[.int .i64 0, .int .i64 0] 122)) := by
  go_enter Try.func35, Try.ntmps35
  go_wp2
  go_ret
  exact ⟨rfl, rfl⟩
/-- Reborn: nothing where now is no span. -/
def rebornOut (lo hi : Int) (w : World) (e : Ending) (w' : World) : Prop :=
  if isSpan lo hi = true then ∃ g, e = .returned (.tuple #[.pointer (some ⟨g, 0, none⟩), .int .i64 0]) ∧ Kp none_ w w' ∧ w.heap.size ≤ g ∧ Blk w' g 122 #[.int .i64 0, .int .i64 (min (hi + 1048576) 1125899906842624)]
  else e = .returned (.tuple #[.pointer none, .int .i64 240]) ∧ Kp none_ w w'
set_option maxHeartbeats 1000000 in
theorem lease_Reborn (lo hi : Int) (w : World) : Calls Try.prog 36 #[.agg #[.int .i64 lo, .int .i64 hi]] w (rebornOut lo hi w) := by
  by_cases hs : isSpan lo hi = true
  · have hc : checkSpan lo hi = 0 := by simp [checkSpan, hs]
    obtain ⟨b1, b2, b3⟩ := isSpan_iff.1 hs
    go_enter Try.func36, Try.ntmps36
    go_wp2_with fail
    refine (span_Check _ _ _).mono ?_; rintro e w1 ⟨rfl, hk1⟩
    rw [hc]
    have hp1 := (Blk.new w 28 #[.int .i64 lo, .int .i64 hi]).kp hk1 (fun h => h)
    have c1 := hp1.cell 1
    simp at c1
    have hk0 := ((Kp.refl none_ w).alloc _).then_ hk1
    have z1 := hp1.lt
    go_wp2_with fail
    go_ret2
    rw [rebornOut, if_pos hs]
    exact ⟨_, rfl, hk0.alloc _, hk0.size, Blk.new _ _ _⟩
  · have hc : checkSpan lo hi = 50 := by simp [checkSpan, hs]
    go_enter Try.func36, Try.ntmps36
    go_wp2_with fail
    refine (span_Check _ _ _).mono ?_; rintro e w1 ⟨rfl, hk1⟩
    rw [hc]
    go_wp2_with fail
    go_ret2
    rw [rebornOut, if_neg hs]
    exact ⟨rfl, ((Kp.refl none_ w).alloc _).then_ hk1⟩
/-- A grant: the answer, the error, and the voter then. -/
def grantP (ld un lo hi leader len : Int) : Int × Int × Int × Int :=
  if isSpan lo hi = true ∧ 1 ≤ len ∧ len ≤ 1048576 then
    if leader < 1 then (0, 242, ld, un)
    else if ld = leader then (max (min (lo + len) 1125899906842624) un, 0, leader, max (min (lo + len) 1125899906842624) un)
    else if lo ≤ un then (0, 241, ld, un)
    else (min (lo + len) 1125899906842624, 0, leader, min (lo + len) 1125899906842624)
  else (0, 240, ld, un)
set_option maxRecDepth 100000 in
set_option maxHeartbeats 4000000 in
theorem lease_Grant (b : Nat) (ld un lo hi leader len : Int) (w : World) (hb : Blk w b 122 #[.int .i64 ld, .int .i64 un]) :
    Calls Try.prog 39 #[.pointer (some ⟨b, 0, none⟩), .agg #[.int .i64 lo, .int .i64 hi], .int .i64 leader, .int .i64 len] w (Ret (.tuple #[.int .i64 (grantP ld un lo hi leader len).1, .int .i64 (grantP ld un lo hi leader len).2.1]) fun w' => Kp (only b) w w' ∧ Blk w' b 122 #[.int .i64 (grantP ld un lo hi leader len).2.2.1, .int .i64 (grantP ld un lo hi leader len).2.2.2]) := by
  obtain ⟨r, hr⟩ : ∃ r, r = grantP ld un lo hi leader len := ⟨_, rfl⟩
  rw [← hr]
  have HR := Lib.hid hr
  clear hr
  have hb1 := hb.alloc (.cells #[.int .i64 lo, .int .i64 hi] 28)
  by_cases hs : isSpan lo hi = true
  case neg =>
    have hc : checkSpan lo hi = 50 := by simp [checkSpan, hs]
    go_enter Try.func39, Try.ntmps39
    go_wp2_with fail
    refine (span_Check _ _ _).mono ?_; rintro e w1 ⟨rfl, hk1⟩
    rw [hc]
    go_wp2_with fail
    go_ret2
    rw [HR.out, grantP, if_neg (fun h => hs h.1)]
    exact ⟨rfl, (((Kp.refl none_ w).alloc _).then_ hk1).mono (fun _ _ h => h.elim), hb1.kp hk1 (fun h => h)⟩
  have hc : checkSpan lo hi = 0 := by simp [checkSpan, hs]
  obtain ⟨b1, b2, b3⟩ := isSpan_iff.1 hs
  go_enter Try.func39, Try.ntmps39
  go_wp2_with fail
  refine (span_Check _ _ _).mono ?_; rintro e w1 ⟨rfl, hk1⟩
  rw [hc]
  have hp1 := (Blk.new w 28 #[.int .i64 lo, .int .i64 hi]).kp hk1 (fun h => h)
  have hbw := hb1.kp hk1 (fun h => h)
  have hkw := (((Kp.refl none_ w).alloc _).then_ hk1).mono (T := only b) (fun _ _ h => h.elim)
  have c0 := hp1.cell 0
  have d0 := hbw.cell 0
  have d1 := hbw.cell 1
  have f0 := hbw.frozen 0
  have f1 := hbw.frozen 1
  simp at c0 d0 d1
  by_cases h1 : len < 1
  · go_wp2_with fail
    go_ret2
    rw [HR.out, grantP, if_neg (by omega)]
    exact ⟨rfl, hkw, hbw⟩
  by_cases h2 : 1048576 < len
  · go_wp2_with fail
    go_ret2
    rw [HR.out, grantP, if_neg (by omega)]
    exact ⟨rfl, hkw, hbw⟩
  by_cases h3 : leader < 1
  · go_wp2_with fail
    go_ret2
    rw [HR.out, grantP, if_pos ⟨hs, by omega, by omega⟩, if_pos h3]
    exact ⟨rfl, hkw, hbw⟩
  by_cases h4 : ld = leader
  · have h4' : (ld == leader) = true := by simp [h4]
    have H4 := Lib.hid h4
    clear h4
    go_wp2_with fail
    go_ret2
    rw [HR.out, grantP, if_pos ⟨hs, by omega, by omega⟩, if_neg (by omega), if_pos H4.out]
    exact ⟨rfl, (hkw.setCell (p := ⟨b, 0, none⟩) _ (.inl rfl)).setCell (p := ⟨b, 1, none⟩) _ (.inl rfl), (hbw.set 0 _).set 1 _⟩
  · have h4' : (ld == leader) = false := by simp [h4]
    have H4 := Lib.hid h4
    clear h4
    by_cases h5 : lo ≤ un
    · go_wp2_with fail
      go_quiet (fail)
      go_wp2_with fail
      go_ret2
      rw [HR.out, grantP, if_pos ⟨hs, by omega, by omega⟩, if_neg (by omega), if_neg H4.out, if_pos h5]
      exact ⟨rfl, hkw.drewN _, hbw.drewN _⟩
    · have h5' : decide (lo ≤ un) = false := by simpa using h5
      go_wp2_with fail
      go_quiet (fail)
      go_wp2_with fail
      go_ret2
      rw [HR.out, grantP, if_pos ⟨hs, by omega, by omega⟩, if_neg (by omega), if_neg H4.out, if_neg (by omega)]
      exact ⟨rfl, ((hkw.drewN _).setCell (p := ⟨b, 0, none⟩) _ (.inl rfl)).setCell (p := ⟨b, 1, none⟩) _ (.inl rfl), ((hbw.drewN _).set 0 _).set 1 _⟩

/-! holders: block b of type 119: the number of voters, and five times -/
def hold (b : Nat) (w : World) (n : Nat) (us : List Int) : Prop := Blk w b 119 (Value.int .i64 n :: ints us).toArray ∧ us.length = 5 ∧ 1 ≤ n ∧ n ≤ 5
/-- NewHolder. -/
def newHolderOut (n : Int) (w : World) (e : Ending) (w' : World) : Prop :=
  if 1 ≤ n ∧ n ≤ 5 then e = .returned (.tuple #[.pointer (some ⟨w.heap.size, 0, none⟩), .int .i64 0]) ∧ Kp none_ w w' ∧ hold w.heap.size w' n.toNat [0, 0, 0, 0, 0]
  else e = .returned (.tuple #[.pointer none, .int .i64 242]) ∧ w = w'
set_option maxHeartbeats 1000000 in
theorem lease_NewHolder (n : Int) (w : World) : Calls Try.prog 26 #[.int .i64 n] w (newHolderOut n w) := by
  by_cases h1 : n < 1
  · go_enter Try.func26, Try.ntmps26
    go_wp2_with fail
    go_ret2
    rw [newHolderOut, if_neg (by omega)]
    exact ⟨rfl, rfl⟩
  by_cases h2 : 5 < n
  · go_enter Try.func26, Try.ntmps26
    go_wp2_with fail
    go_ret2
    rw [newHolderOut, if_neg (by omega)]
    exact ⟨rfl, rfl⟩
  go_enter Try.func26, Try.ntmps26
  go_wp2_with fail
  go_ret2
  rw [newHolderOut, if_pos ⟨by omega, by omega⟩]
  have e : ((n.toNat : Nat) : Int) = n := by omega
  refine ⟨rfl, (Kp.refl _ _).alloc _, ?_, rfl, by omega, by omega⟩
  rw [e]
  exact Blk.new _ _ _
/-- Heard: the error, and what was heard then. -/
def heardP (n : Nat) (us : List Int) (v u : Int) : Int × List Int :=
  if v < 0 ∨ (n : Int) ≤ v then (242, us)
  else if u < 0 ∨ 1125899906842624 < u then (240, us)
  else (0, us.set v.toNat (max (us[v.toNat]?.getD 0) u))
set_option maxRecDepth 100000 in
set_option maxHeartbeats 2000000 in
theorem lease_Heard (b n : Nat) (us : List Int) (v u : Int) (w : World) (hh : hold b w n us) :
    Calls Try.prog 28 #[.pointer (some ⟨b, 0, none⟩), .int .i64 v, .int .i64 u] w (Ret (.int .i64 (heardP n us v u).1) fun w' => Kp (only b) w w' ∧ hold b w' n (heardP n us v u).2) := by
  obtain ⟨hb, hl, hn1, hn5⟩ := hh
  obtain ⟨r, hr⟩ : ∃ r, r = heardP n us v u := ⟨_, rfl⟩
  rw [← hr]
  have HR := Lib.hid hr
  clear hr
  have c0 := hb.cell 0
  simp at c0
  by_cases h1 : v < 0
  · go_enter Try.func28, Try.ntmps28
    go_wp2_with fail
    go_ret
    rw [HR.out, heardP, if_pos (.inl h1)]
    exact ⟨rfl, Kp.refl _ _, hb, hl, hn1, hn5⟩
  by_cases h2 : (n : Int) ≤ v
  · go_enter Try.func28, Try.ntmps28
    go_wp2_with fail
    go_ret
    rw [HR.out, heardP, if_pos (.inr h2)]
    exact ⟨rfl, Kp.refl _ _, hb, hl, hn1, hn5⟩
  by_cases h3 : u < 0
  · go_enter Try.func28, Try.ntmps28
    go_wp2_with fail
    go_ret
    rw [HR.out, heardP, if_neg (by omega), if_pos (.inl h3)]
    exact ⟨rfl, Kp.refl _ _, hb, hl, hn1, hn5⟩
  by_cases h4 : 1125899906842624 < u
  · go_enter Try.func28, Try.ntmps28
    go_wp2_with fail
    go_ret
    rw [HR.out, heardP, if_neg (by omega), if_pos (.inr h4)]
    exact ⟨rfl, Kp.refl _ _, hb, hl, hn1, hn5⟩
  obtain ⟨k, rfl⟩ := Int.eq_ofNat_of_zero_le (a := v) (by omega)
  have hk5 : k < 5 := by omega
  have hx := ints_get (xs := us) (k := k) (by omega)
  obtain ⟨x, hxe⟩ : ∃ x, x = us[k]?.getD 0 := ⟨_, rfl⟩
  rw [← hxe] at hx
  have ck : w.cell? ⟨b, 1 + k, none⟩ = some (.int .i64 x) := by
    rw [hb.cell, List.getElem?_toArray, Nat.add_comm, List.getElem?_cons_succ]
    exact hx
  have fk := hb.frozen (1 + k)
  have HX := Lib.hid hxe
  clear hxe hx
  go_enter Try.func28, Try.ntmps28
  go_wp2_with fail
  go_region
  all_goals go_wp2_with fail
  go_ret
  rw [HR.out, heardP, if_neg (by omega), if_neg (by omega)]
  refine ⟨rfl, ((Kp.refl (only b) _).setCell (p := ⟨b, 1 + k, none⟩) _ (.inl rfl)).drew, ?_, by simp [hl], hn1, hn5⟩
  have h9 := hb.set (1 + k) (.int .i64 (max x u))
  have e9 : (Value.int .i64 n :: ints us).toArray.setIfInBounds (1 + k) (.int .i64 (max x u)) = (Value.int .i64 n :: ints (us.set k (max (us[k]?.getD 0) u))).toArray := by
    rw [← HX.out, List.setIfInBounds_toArray, Nat.add_comm 1 k, List.set_cons_succ]
    simp [ints, List.map_set]
  rw [e9] at h9
  exact h9
theorem five {us : List Int} (h : us.length = 5) : ∃ a b c d e, us = [a, b, c, d, e] := by
  match us, h with
  | [a, b, c, d, e], _ => exact ⟨a, b, c, d, e, rfl⟩
/-- Up to when more than half granted: the middle one, in order. -/
def untilF (n : Nat) (us : List Int) : Int := ((us.take n).mergeSort (fun a b => decide (a ≤ b)))[(n - 1) / 2]?.getD 0
theorem sortOf_mid {n : Nat} {us ys : List Int} (h : SortOf us ys n) (hn : 1 ≤ n) (_hu : n ≤ us.length) : ys[(n - 1) / 2]? = some (untilF n us) := by
  obtain ⟨s, rfl, hl, hs, hp⟩ := h
  have hm : ((us.take n).mergeSort (fun a b => decide (a ≤ b))) = s := by
    refine List.Perm.eq_of_pairwise (le := fun a b : Int => a ≤ b) (fun a b _ _ h1 h2 => by omega) ?_ hs ((List.mergeSort_perm _ _).trans hp.symm)
    have h1 := List.pairwise_mergeSort (le := fun a b : Int => decide (a ≤ b)) (fun a b c h1 h2 => by simp at *; omega) (fun a b => by simp; omega) (us.take n)
    exact h1.imp (fun h => by simpa using h)
  have hlt : (n - 1) / 2 < s.length := by omega
  unfold untilF
  rw [hm, List.getElem?_append_left hlt, List.getElem?_eq_getElem hlt]
  rfl
theorem slice77_1 (g : Nat) (w : World) : (Instr.sliceAt 77 (.pointer (some ⟨g, 0, none⟩)) none (some (.int .i64 (1 : Nat))) none).run Try.prog w = .ok (.slice (some ⟨g, 0, none⟩) 1 5) w := by kernel_rfl
theorem slice77_2 (g : Nat) (w : World) : (Instr.sliceAt 77 (.pointer (some ⟨g, 0, none⟩)) none (some (.int .i64 (2 : Nat))) none).run Try.prog w = .ok (.slice (some ⟨g, 0, none⟩) 2 5) w := by kernel_rfl
theorem slice77_3 (g : Nat) (w : World) : (Instr.sliceAt 77 (.pointer (some ⟨g, 0, none⟩)) none (some (.int .i64 (3 : Nat))) none).run Try.prog w = .ok (.slice (some ⟨g, 0, none⟩) 3 5) w := by kernel_rfl
theorem slice77_4 (g : Nat) (w : World) : (Instr.sliceAt 77 (.pointer (some ⟨g, 0, none⟩)) none (some (.int .i64 (4 : Nat))) none).run Try.prog w = .ok (.slice (some ⟨g, 0, none⟩) 4 5) w := by kernel_rfl
theorem slice77_5 (g : Nat) (w : World) : (Instr.sliceAt 77 (.pointer (some ⟨g, 0, none⟩)) none (some (.int .i64 (5 : Nat))) none).run Try.prog w = .ok (.slice (some ⟨g, 0, none⟩) 5 5) w := by kernel_rfl
theorem slice77 (n : Nat) (hn1 : 1 ≤ n) (hn5 : n ≤ 5) (g : Nat) (w : World) : (Instr.sliceAt 77 (.pointer (some ⟨g, 0, none⟩)) none (some (.int .i64 n)) none).run Try.prog w = .ok (.slice (some ⟨g, 0, none⟩) n 5) w := by
  have h : n = 1 ∨ n = 2 ∨ n = 3 ∨ n = 4 ∨ n = 5 := by omega
  rcases h with rfl | rfl | rfl | rfl | rfl
  · exact slice77_1 g w
  · exact slice77_2 g w
  · exact slice77_3 g w
  · exact slice77_4 g w
  · exact slice77_5 g w
set_option maxRecDepth 100000 in
set_option maxHeartbeats 4000000 in
theorem lease_Until (b n : Nat) (us : List Int) (w : World) (hh : hold b w n us) :
    Calls Try.prog 31 #[.pointer (some ⟨b, 0, none⟩)] w (Ret (.int .i64 (untilF n us)) (Kp none_ w)) := by
  obtain ⟨hb, hl, hn1, hn5⟩ := hh
  obtain ⟨u0, u1, u2, u3, u4, rfl⟩ := five hl
  have hmid : ∀ ys, SortOf [u0, u1, u2, u3, u4] ys n → ys[(n - 1) / 2]? = some (untilF n [u0, u1, u2, u3, u4]) := fun ys h => sortOf_mid h hn1 hn5
  generalize untilF n [u0, u1, u2, u3, u4] = r at *
  have c0 := hb.cell 0
  have c1 := hb.cell 1
  have c2 := hb.cell 2
  have c3 := hb.cell 3
  have c4 := hb.cell 4
  have c5 := hb.cell 5
  simp [ints] at c0 c1 c2 c3 c4 c5
  have hMID := Lib.hid hmid
  clear hmid
  have hblt := hb.lt
  have hsl := slice77 n hn1 hn5 w.heap.size
  go_enter Try.func31, Try.ntmps31
  go_wp2_with fail
  refine (sort_small w.heap.size 77 5 n [u0, u1, u2, u3, u4] _ (Blk.new _ _ _) hn5 hn5 (by simp) (by omega)).mono ?_
  rintro e w1 ⟨_, rfl, rfl, ys, hso, hk1, hy1⟩
  have hm := hMID.out ys hso
  have hyl : ys.length = 5 := by obtain ⟨s, rfl, h1, _⟩ := hso; simp [h1]; omega
  have hkw : Kp none_ w w1 := ((Kp.refl none_ w).alloc _).trans hk1 (fun i hi h => by cases h; omega)
  have hb1 := (hb.alloc (.cells #[.int .i64 u0, .int .i64 u1, .int .i64 u2, .int .i64 u3, .int .i64 u4] 77)).kp hk1 (fun h => by cases h; omega)
  have d0 := hb1.cell 0
  simp at d0
  have dm : w1.cell? ⟨w.heap.size, (n - 1) / 2, none⟩ = some (.int .i64 r) := by
    rw [hy1.cell, List.getElem?_toArray, ints, List.getElem?_map, hm]
    rfl
  clear hso hy1 hm hMID
  have en : ((n : Int) - 1) / 2 = ((n - 1) / 2 : Nat) := by omega
  have hm5 : (n - 1) / 2 < 5 := by omega
  generalize (n - 1) / 2 = mid at *
  have EN := Lib.hid en
  go_wp2_with fail
  go_ret
  exact ⟨rfl, hkw⟩

theorem hold.kp {b n : Nat} {us : List Int} {w w' : World} {S : Nat → Prop} (h : hold b w n us) (k : Kp S w w') (hs : ¬ S b) : hold b w' n us := ⟨h.1.kp k hs, h.2⟩
theorem hold.drew {b n : Nat} {us : List Int} {w : World} (h : hold b w n us) : hold b w.drew n us := h
theorem hold.alloc {b n : Nat} {us : List Int} {w : World} (h : hold b w n us) (o : Obj) : hold b (w.alloc o) n us := ⟨h.1.alloc o, h.2⟩
def holdsB (n : Nat) (us : List Int) (lo hi : Int) : Bool := isSpan lo hi && decide (hi < untilF n us)
set_option maxRecDepth 100000 in
set_option maxHeartbeats 4000000 in
theorem lease_Holds (b n : Nat) (us : List Int) (lo hi : Int) (w : World) (hh : hold b w n us) :
    Calls Try.prog 33 #[.pointer (some ⟨b, 0, none⟩), .agg #[.int .i64 lo, .int .i64 hi]] w (Ret (.bool (holdsB n us lo hi)) (Kp none_ w)) := by
  have hh1 : hold b (w.alloc (.cells #[.int .i64 lo, .int .i64 hi] 28)) n us := ⟨hh.1.alloc _, hh.2⟩
  by_cases hs : isSpan lo hi = true
  · have hc : checkSpan lo hi = 0 := by simp [checkSpan, hs]
    have hr : holdsB n us lo hi = decide (hi < untilF n us) := by simp [holdsB, hs]
    rw [hr]
    generalize hu : untilF n us = u at *
    have HU := Lib.hid hu
    clear hu hr
    have hp := Blk.new w 28 #[.int .i64 lo, .int .i64 hi]
    go_enter Try.func33, Try.ntmps33
    go_wp2_with fail
    go_region_held3 (fun w' => w'.cell? ⟨w.heap.size, 0, none⟩ = some (.int .i64 lo) ∧ w'.cell? ⟨w.heap.size, 1, none⟩ = some (.int .i64 hi)) (first | go_keep | assumption) (first
      | (go_at_call 42; refine (span_Check _ _ _).mono ?_; rintro e w1 ⟨rfl, hk1⟩; rw [hc]; have hp1 := hp.drew.kp hk1 (fun h => h); have hh2 := hh1.drew.kp hk1 (fun h => h); have d0 := hp1.cell 0; have d1 := hp1.cell 1; simp at d0 d1)
      | (go_at_call 31; refine (lease_Until b n us _ hh2).mono ?_; rintro e w2 ⟨rfl, hk2⟩; rw [HU.out]; have hp2 := hp1.kp hk2 (fun h => h); have d0 := hp2.cell 0; have d1 := hp2.cell 1; simp at d0 d1))
    go_wp2_with fail
    go_ret
    exact ⟨rfl, ((Kp.refl none_ w).alloc _).drew.then_ (hk1.then_ hk2)⟩
  · have hc : checkSpan lo hi = 50 := by simp [checkSpan, hs]
    have hs' : isSpan lo hi = false := by simpa using hs
    have hr : holdsB n us lo hi = false := by simp [holdsB, hs']
    rw [hr]
    have hp := Blk.new w 28 #[.int .i64 lo, .int .i64 hi]
    go_enter Try.func33, Try.ntmps33
    go_wp2_with fail
    first | go_region_with (go_at_call 42; refine (span_Check _ _ _).mono ?_; rintro e w1 ⟨rfl, hk1⟩; rw [hc]) | fail
    all_goals (go_wp2_with fail; go_ret; exact ⟨rfl, ((Kp.refl none_ w).alloc _).drew.then_ hk1⟩)

/-- A stamp under the lease: the answer, the error, the source's last stamp then. -/
def stampP (n : Nat) (us : List Int) (last lo hi : Int) (above : List Int) : Int × Int × Int :=
  if isSpan lo hi = true then
    if holdsB n us lo hi = true then
      if ∃ x ∈ last :: hi :: above, untilF n us - 1 ≤ x then (0, 244, last)
      else nextP last lo hi above
    else (0, 243, last)
  else (0, 240, last)

set_option maxRecDepth 100000 in
set_option maxHeartbeats 8000000 in
theorem lease_Stamp (b n bs : Nat) (us : List Int) (last lo hi : Int) (av : Value) (xs : List Int) (w : World) (hh : hold b w n us) (hs0 : Blk w bs 102 #[.int .i64 last]) (ha : Il (fun k => k ≠ bs) w av xs) (hx : xs.length ≤ 1000000)
    (hu : 0 ≤ untilF n us ∧ untilF n us ≤ 1125899906842624) :
    Calls Try.prog 30 #[.pointer (some ⟨b, 0, none⟩), .agg #[.int .i64 lo, .int .i64 hi], .pointer (some ⟨bs, 0, none⟩), av] w (Ret (.tuple #[.int .i64 (stampP n us last lo hi xs).1, .int .i64 (stampP n us last lo hi xs).2.1]) fun w' => Kp (only bs) w w' ∧ Blk w' bs 102 #[.int .i64 (stampP n us last lo hi xs).2.2]) := by
  obtain ⟨hu0, hu1⟩ := hu
  obtain ⟨r, hr⟩ : ∃ r, r = stampP n us last lo hi xs := ⟨_, rfl⟩
  rw [← hr]
  have HR := Lib.hid hr
  clear hr
  have hh1 := hh.alloc (.cells #[.int .i64 lo, .int .i64 hi] 28)
  have hs1 := hs0.alloc (.cells #[.int .i64 lo, .int .i64 hi] 28)
  have ha1 := ha.alloc (.cells #[.int .i64 lo, .int .i64 hi] 28)
  have hp := Blk.new w 28 #[.int .i64 lo, .int .i64 hi]
  by_cases hs : isSpan lo hi = true
  case neg =>
    have hc : checkSpan lo hi = 50 := by simp [checkSpan, hs]
    go_enter Try.func30, Try.ntmps30
    go_wp2_with fail
    refine (span_Check _ _ _).mono ?_; rintro e w1 ⟨rfl, hk1⟩
    rw [hc]
    go_wp2_with fail
    go_ret2
    rw [HR.out, stampP, if_neg hs]
    exact ⟨rfl, (((Kp.refl none_ w).alloc _).then_ hk1).mono (fun _ _ h => h.elim), hs1.kp hk1 (fun h => h)⟩
  have hc : checkSpan lo hi = 0 := by simp [checkSpan, hs]
  go_enter Try.func30, Try.ntmps30
  go_wp2_with fail
  refine (span_Check _ _ _).mono ?_; rintro e w1 ⟨rfl, hk1⟩
  rw [hc]
  have hh2 := hh1.kp hk1 (fun h => h)
  have hs2 := hs1.kp hk1 (fun h => h)
  have ha2 := ha1.then_ hk1
  have hp2 := hp.kp hk1 (fun h => h)
  have c0 := hp2.cell 0
  have c1 := hp2.cell 1
  simp at c0 c1
  have hk2 := ((Kp.refl none_ w).alloc (.cells #[.int .i64 lo, .int .i64 hi] 28)).then_ hk1
  clear hh1 hs1 ha1 hp hk1
  go_wp2_with fail
  refine (lease_Holds b n us lo hi _ hh2).mono ?_; rintro e w2 ⟨rfl, hk3⟩
  have hh3 := hh2.kp hk3 (fun h => h)
  have hs3 := hs2.kp hk3 (fun h => h)
  have ha3 := ha2.then_ hk3
  have hp3 := hp2.kp hk3 (fun h => h)
  have hkw := hk2.then_ hk3
  by_cases hH : holdsB n us lo hi = true
  case neg =>
    have hH' : holdsB n us lo hi = false := by simpa using hH
    rw [hH']
    go_wp2_with fail
    go_ret2
    rw [HR.out, stampP, if_pos hs, if_neg hH]
    exact ⟨rfl, hkw.mono (fun _ _ h => h.elim), hs3⟩
  rw [hH]
  have c0 := hp3.cell 0
  have c1 := hp3.cell 1
  simp at c0 c1
  have zs := hs3.lt
  have zp := hp3.lt
  clear hh2 hs2 ha2 hp2 hk2 hk3
  obtain ⟨i0, hi0, hz0, hz1, hz2⟩ := info_parts info_int64
  go_upto_region 5 with fail
  go_cut [27, 28, 29] (fun s27 s28 s29 wx => Kp none_ w2 wx ∧ Il (fun _ => True) wx s27 (last :: hi :: xs) ∧ s28 = .int .i64 ((last :: hi :: xs).length : Nat) ∧ s29 = .int .i64 0)
  case first =>
    go_region_held3 (fun w' => w'.cell? ⟨w.heap.size, 1, none⟩ = some (.int .i64 hi)) (first | go_keep | assumption) (first
      | (go_at_call 16; refine (stamp_Last bs last _ (by with_reducible repeat (first | exact hs3 | apply Blk.drew | apply Blk.alloc))).mono ?_; rintro e w4 ⟨rfl, rfl⟩)
      | ((with_reducible refine gate_step 27 rfl ?_); refine step_append_sl _ (by rfl) (.tmp 25) (.tmp 26) 26 (by rfl) w2.heap.size 2 i0 (.int .i64 0) 1 8 Try.underlying26 hi0 hz0 hz1 hz2 rfl (by decide) (.slice (some ⟨w2.heap.size, 0, none⟩) 2 2) 2 [.int .i64 last, .int .i64 hi] (by rfl) ?_ (fun k => k ≠ bs) av xs.length (ints xs) (by rfl) ?_ ?_ ?_ ?_ ?_ ?_; (· refine owns_blk (cs := #[.int .i64 last, .int .i64 hi]) ?_ (Nat.le_refl _) rfl (by unfold maxLen; omega); with_reducible repeat (first | exact Blk.new _ _ _ | apply Blk.drew)); (· exact ha3.then_ (by with_reducible repeat (first | exact Kp.refl _ _ | apply Kp.drew | apply Kp.drewN | apply Kp.alloc))); (· exact ints_one xs); (· unfold maxLen; omega); (· omega); (· (first | (simp; done) | (simp; omega) | omega)); intro v2 w5 ho5 hg5 hat5; have hk5 : Kp none_ w2 w5 := Kp.grown (by with_reducible repeat (first | exact Kp.refl _ _ | apply Kp.drew | apply Kp.drewN | apply Kp.alloc)) hg5 (fun k hk => .inr (by cases hk; exact Nat.le_refl _)); have hs5 : Il (fun _ => True) w5 v2 (last :: hi :: xs) := Il.of_own ho5 (by simp; omega) (fun _ _ => trivial); have hp5 := hp3.kp hk5 (fun h => h); have c5 := hp5.cell 1; simp at c5; obtain ⟨A5, cp5, rfl, hc5, hm5⟩ := hs5.form))
    all_goals go_wp2_with fail
    all_goals go_meet
    all_goals exact ⟨hk5, hs5, rfl, rfl⟩
  case rest =>
    obtain ⟨hkc, hsc, rfl, rfl⟩ := hcut
    rename World => w3
    have hh4 := hh3.kp hkc (fun h => h)
    have hs4 := hs3.kp hkc (fun h => h)
    have ha4 := ha3.then_ hkc
    have hp4 := hp3.kp hkc (fun h => h)
    have hkw4 := hkw.then_ hkc
    obtain ⟨zs', hzs⟩ : ∃ zs', zs' = last :: hi :: xs := ⟨_, rfl⟩
    have HZ := Lib.hid hzs
    rw [← hzs] at hsc
    have hR1 : ∀ x ∈ zs', untilF n us - 1 ≤ x → r = (0, 244, last) := fun x hx hle => by
      rw [HR.out, stampP, if_pos hs, if_pos hH, if_pos ⟨x, by rw [← HZ.out]; exact hx, hle⟩]
    have hR2 : (∀ x ∈ zs', x < untilF n us - 1) → r = nextP last lo hi xs := fun hall => by
      rw [HR.out, stampP, if_pos hs, if_pos hH, if_neg]
      rintro ⟨x, hx, hle⟩
      have := hall x (by rw [HZ.out]; exact hx)
      omega
    obtain ⟨u, hu⟩ : ∃ u, u = untilF n us := ⟨_, rfl⟩
    have HU := Lib.hid hu
    rw [← hu] at hR1 hR2 hu0 hu1
    have HR1 := Lib.hid hR1
    have HR2 := Lib.hid hR2
    rw [show (last :: hi :: xs).length = zs'.length from by rw [hzs]]
    clear hzs hh3 hs3 ha3 hp3 hkw hkc hR1 hR2 hu c0 c1 zs zp
    obtain ⟨A9, c9, rfl, hc9, hm9⟩ := hsc.form
    unfold maxLen at hm9
    go_wp2_with fail
    go_loopg [29] zs'.length (fun gk i wr => ∃ j : Nat, j ≤ zs'.length ∧ gk = zs'.length - j ∧ i = .int .i64 j ∧ Kp none_ w3 wr ∧ Hid (∀ x ∈ zs'.take j, x < u - 1))
    case atStart => exact ⟨0, by omega, rfl, rfl, Kp.refl _ _, by intro x hx; simp at hx⟩
    case round =>
      obtain ⟨j, hj, rfl, rfl, hkr, hall⟩ := hrel
      have hh5 := hh4.kp hkr (fun h => h)
      have hs5 := hs4.kp hkr (fun h => h)
      have ha5 := ha4.then_ hkr
      have hp5 := hp4.kp hkr (fun h => h)
      have hsl5 := hsc.then_ hkr
      have hkw5 := hkw4.then_ hkr
      by_cases hlt : j < zs'.length
      · obtain ⟨ba, off, rfl, _, _, hcl⟩ := hsl5.cells (by omega)
        have hcj := hcl j _ (ints_get hlt)
        clear hcl
        obtain ⟨x, hxe⟩ : ∃ x, x = zs'[j]?.getD 0 := ⟨_, rfl⟩
        rw [← hxe] at hcj
        have hxm : Hid (x = zs'[j]) := Lib.hid (by rw [hxe, List.getElem?_eq_getElem hlt]; rfl)
        clear hxe
        go_wp2_with fail
        refine (lease_Until b n us _ hh5).mono ?_; rintro e w6 ⟨rfl, hk6⟩
        rw [← HU.out]
        have hs6 := hs5.kp hk6 (fun h => h)
        have hkw6 := hkw5.then_ hk6
        by_cases hge : u - 1 ≤ x
        · go_wp2_with fail
          go_ret2
          rw [HR1.out x (by rw [hxm.out]; exact List.getElem_mem hlt) hge]
          exact ⟨rfl, hkw6.mono (fun _ _ h => h.elim), hs6⟩
        · go_wp2_with fail
          go_roundg (zs'.length - (j + 1))
          case measure => omega
          case rel =>
            refine ⟨j + 1, hlt, rfl, by go_num, hkr.then_ hk6, ?_⟩
            intro y hy
            rw [List.take_succ_eq_append_getElem hlt, ← hxm.out] at hy
            rcases List.mem_append.1 hy with h | h
            · exact hall y h
            · have : y = x := by simpa using h
              omega
      · obtain rfl : j = zs'.length := by omega
        have hr2 := HR2.out (fun x hx => hall x (by rw [List.take_length]; exact hx))
        have HR3 := Lib.hid hr2
        clear hr2 hall
        have c0 := hp5.cell 0
        have c1 := hp5.cell 1
        simp at c0 c1
        go_wp2_with fail
        refine (stamp_Next' bs last lo hi av xs _ hs5 ha5).mono ?_; rintro e w6 ⟨rfl, hk6, hs6⟩
        rw [← HR3.out] at hs6 ⊢
        go_wp2_with fail
        go_ret2
        exact ⟨rfl, hkw5.mono (T := only bs) (fun _ _ h => h.elim) |>.trans hk6 (fun _ _ h => h), hs6⟩
end Go.Proofs.Ytjgbandmjamcaaa

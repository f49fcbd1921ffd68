/- The chapter's example of leases: 'awake' answers true. -/
import Derived.Test.YtjgbandmjamcaaaLeaseD
namespace Go.Proofs.Ytjgbandmjamcaaa
open Go.RowKit

theorem newHolder_ok {n : Int} {w : World} {e : Ending} {w' : World} (h : newHolderOut n w e w') (hn : 1 ≤ n ∧ n ≤ 5) : e = .returned (.tuple #[.pointer (some ⟨w.heap.size, 0, none⟩), .int .i64 0]) ∧ Kp none_ w w' ∧ hold w.heap.size w' n.toNat [0, 0, 0, 0, 0] := by
  unfold newHolderOut at h
  rw [if_pos hn] at h
  exact h
set_option maxRecDepth 100000 in
set_option maxHeartbeats 8000000 in
theorem lease_awake (w : World) : Calls Try.prog 27 #[] w (Ret (.bool true) (Kp none_ w)) := by
  have u1 : untilF 3 [110, 0, 0, 0, 0] = 0 := by rw [untilF_R 3 _ (by decide) (by decide) (by decide)]; decide
  have u2 : untilF 3 [110, 0, 90, 0, 0] = 90 := by rw [untilF_R 3 _ (by decide) (by decide) (by decide)]; decide
  have s1 : stampP 3 [110, 0, 90, 0, 0] 0 80 87 [] = (88, 0, 88) := by unfold stampP holdsB; rw [u2]; decide
  have s2 : stampP 3 [110, 0, 90, 0, 0] 88 80 89 [] = (0, 244, 88) := by unfold stampP holdsB; rw [u2]; decide
  have b1 : holdsB 3 [110, 0, 90, 0, 0] 80 89 = true := by unfold holdsB; rw [u2]; decide
  have b2 : holdsB 3 [110, 0, 90, 0, 0] 80 90 = false := by unfold holdsB; rw [u2]; decide
  have U1 := Lib.hid u1
  have U2 := Lib.hid u2
  have S1 := Lib.hid s1
  have S2 := Lib.hid s2
  have B1 := Lib.hid b1
  have B2 := Lib.hid b2
  clear u1 u2 s1 s2 b1 b2
  go_enter Try.func27, Try.ntmps27
  go_wp2_with fail
  refine (lease_NewVoter _).mono ?_; rintro e w1 ⟨rfl, rfl⟩
  have hv := Blk.new w 122 #[.int .i64 0, .int .i64 0]
  have hk : Kp none_ w (w.alloc (.cells #[.int .i64 0, .int .i64 0] 122)) := (Kp.refl none_ w).alloc _
  go_wp2_with fail
  refine (lease_NewHolder 3 _).mono ?_
  intro e w2 h
  obtain ⟨rfl, hk2, hh⟩ := newHolder_ok h (by decide)
  clear h
  simp only [World.size_alloc] at hh ⊢
  have hv2 := hv.kp hk2 (fun h => h)
  have hkw2 := hk.then_ hk2
  have hbl := hh.1.lt
  go_wp2_with fail
  refine (stamp_New _).mono ?_; rintro e w3 ⟨rfl, rfl⟩
  have hs := Blk.new w2 102 #[.int .i64 0]
  have hv3 := hv2.alloc (.cells #[.int .i64 0] 102)
  have hh3 := hh.alloc (.cells #[.int .i64 0] 102)
  have hk3 := hkw2.alloc (.cells #[.int .i64 0] 102)
  go_wp2_with fail
  refine (lease_Grant w.heap.size 0 0 10 14 1 100 _ hv3).mono ?_; rintro e w4 ⟨rfl, hk4, hv4⟩
  rw [show grantP 0 0 10 14 1 100 = (110, 0, 1, 110) from by decide] at hv4 ⊢
  have hs4 := hs.kp hk4 (only_ne (by omega))
  have hh4 := hh3.kp hk4 (only_ne (by omega))
  have hkw4 : Kp none_ w w4 := hk3.trans hk4 (fun i hi h => by cases h; omega)
  go_wp2_with fail
  refine (lease_Grant w.heap.size 1 110 110 114 2 5 _ hv4).mono ?_; rintro e w5 ⟨rfl, hk5, hv5⟩
  rw [show grantP 1 110 110 114 2 5 = (0, 241, 1, 110) from by decide] at hv5 ⊢
  have hs5 := hs4.kp hk5 (only_ne (by omega))
  have hh5 := hh4.kp hk5 (only_ne (by omega))
  have hkw5 : Kp none_ w w5 := hkw4.trans hk5 (fun i hi h => by cases h; omega)
  go_wp2_with fail
  refine (lease_Grant w.heap.size 1 110 111 115 2 5 _ hv5).mono ?_; rintro e w6 ⟨rfl, hk6, hv6⟩
  rw [show grantP 1 110 111 115 2 5 = (116, 0, 2, 116) from by decide] at hv6 ⊢
  have hs6 := hs5.kp hk6 (only_ne (by omega))
  have hh6 := hh5.kp hk6 (only_ne (by omega))
  have hkw6 : Kp none_ w w6 := hkw5.trans hk6 (fun i hi h => by cases h; omega)
  go_wp2_with fail
  refine (lease_Heard (w.heap.size + 1) 3 [0, 0, 0, 0, 0] 0 110 _ hh6).mono ?_; rintro e w7 ⟨rfl, hk7, hh7⟩
  rw [show heardP 3 [0, 0, 0, 0, 0] 0 110 = (0, [110, 0, 0, 0, 0]) from by decide] at hh7 ⊢
  have hs7 := hs6.kp hk7 (only_ne (by omega))
  have hkw7 : Kp none_ w w7 := hkw6.trans hk7 (fun i hi h => by cases h; omega)
  go_wp2_with fail
  refine (lease_Until (w.heap.size + 1) 3 _ _ hh7).mono ?_; rintro e w8 ⟨rfl, hk8⟩
  rw [U1.out]
  have hs8 := hs7.kp hk8 (fun h => h)
  have hh8 := hh7.kp hk8 (fun h => h)
  have hkw8 := hkw7.then_ hk8
  go_wp2_with fail
  refine (lease_Heard (w.heap.size + 1) 3 [110, 0, 0, 0, 0] 2 90 _ hh8).mono ?_; rintro e w9 ⟨rfl, hk9, hh9⟩
  rw [show heardP 3 [110, 0, 0, 0, 0] 2 90 = (0, [110, 0, 90, 0, 0]) from by decide] at hh9 ⊢
  have hs9 := hs8.kp hk9 (only_ne (by omega))
  have hkw9 : Kp none_ w w9 := hkw8.trans hk9 (fun i hi h => by cases h; omega)
  clear hv hv2 hv3 hv4 hv5 hv6 hs hs4 hs5 hs6 hs7 hs8 hh hh3 hh4 hh5 hh6 hh7 hh8 hk hk2 hkw2 hk3 hk4 hk5 hk6 hk7 hk8 hk9 hkw4 hkw5 hkw6 hkw7 hkw8
  go_wp2_with fail
  refine (lease_Stamp (w.heap.size + 1) 3 w2.heap.size [110, 0, 90, 0, 0] 0 80 87 (.slice none 0 0) [] _ hh9 hs9 (Sl.nil _ _ _) (by simp) (by rw [U2.out]; decide)).mono ?_; rintro e wa ⟨rfl, hka, hsa⟩
  rw [S1.out] at hsa ⊢
  have hha := hh9.kp hka (only_ne (by omega))
  have hkwa : Kp none_ w wa := hkw9.trans hka (fun i hi h => by cases h; omega)
  go_wp2_with fail
  refine (lease_Stamp (w.heap.size + 1) 3 w2.heap.size [110, 0, 90, 0, 0] 88 80 89 (.slice none 0 0) [] _ hha hsa (Sl.nil _ _ _) (by simp) (by rw [U2.out]; decide)).mono ?_; rintro e wb ⟨rfl, hkb, hsb⟩
  rw [S2.out] at hsb ⊢
  have hhb := hha.kp hkb (only_ne (by omega))
  have hkwb : Kp none_ w wb := hkwa.trans hkb (fun i hi h => by cases h; omega)
  clear hh9 hs9 hkw9 hka hsa hha hkwa hkb hsb
  go_wp2_with fail
  refine (lease_Until (w.heap.size + 1) 3 _ _ hhb).mono ?_; rintro e wc ⟨rfl, hkc⟩
  rw [U2.out]
  have hhc := hhb.kp hkc (fun h => h)
  have hkwc := hkwb.then_ hkc
  go_wp2_with fail
  refine (lease_Holds (w.heap.size + 1) 3 _ 80 89 _ hhc).mono ?_; rintro e wd ⟨rfl, hkd⟩
  rw [B1.out]
  have hhd := hhc.kp hkd (fun h => h)
  have hkwd := hkwc.then_ hkd
  go_wp2_with fail
  refine (lease_Holds (w.heap.size + 1) 3 _ 80 90 _ hhd).mono ?_; rintro e we ⟨rfl, hke⟩
  rw [B2.out]
  have hkwe := hkwd.then_ hke
  go_wp2_with fail
  go_ret
  exact ⟨rfl, hkwe⟩
end Go.Proofs.Ytjgbandmjamcaaa

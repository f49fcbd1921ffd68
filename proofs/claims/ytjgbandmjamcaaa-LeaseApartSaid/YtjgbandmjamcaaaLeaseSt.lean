/- The walks of LeaseStamps, LeaseApart. -/
import Derived.Test.YtjgbandmjamcaaaPlayW
namespace Go.Proofs.Ytjgbandmjamcaaa
open Go.RowKit

set_option maxRecDepth 100000 in
theorem leaseStamps_walk (W : World) (t : Int) (s : Nat) (hs : s < 256) (lv : Value) (cs : List TurnD) (hv : Sl (fun _ => True) W 15 lv cs.length (cs.flatMap TurnD.cells)) (hq : ∀ c ∈ cs, c.ok) : Calls Try.prog 9 #[.int .i64 t, .int .u8 s, lv] W (Ret (.bool true) (Kp none_ W)) := by
  go_enter Try.func9, Try.ntmps9
  go_wp2_with fail
  refine (lease_awake _).mono ?_; rintro e w1 ⟨rfl, hk1⟩
  have hv1 := hv.then_ hk1
  have HQ := Lib.hid hq
  clear hq
  go_wp2_with fail
  refine (play_walk w1 t s hs lv cs hv1 HQ.out).mono ?_; rintro e w2 ⟨rfl, hk2⟩
  go_wp2_with fail
  go_ret
  exact ⟨rfl, hk1.then_ hk2⟩
set_option maxRecDepth 100000 in
set_option maxHeartbeats 1000000 in
theorem leaseApart_walk (W : World) (t : Int) (s : Nat) (hs : s < 256) (lv : Value) (cs : List TurnD) (hv : Sl (fun _ => True) W 15 lv cs.length (cs.flatMap TurnD.cells)) (hq : ∀ c ∈ cs, c.ok) : Calls Try.prog 8 #[.int .i64 t, .int .u8 s, lv] W (Ret (.bool true) (Kp none_ W)) := by
  obtain ⟨A, cap, rfl, hcap, hmax⟩ := hv.form
  unfold maxLen at hmax
  have HQ := Lib.hid hq
  clear hq
  have hfin : ∀ w, Kp none_ W w → Calls Try.prog 40 #[.int .i64 t, .int .u8 s, .slice A cs.length cap] w (Ret (.bool true) (Kp none_ w)) := fun w hk => play_walk w t s hs _ cs (hv.then_ hk) HQ.out
  have HF := Lib.hid hfin
  clear hfin
  go_enter Try.func8, Try.ntmps8
  go_wp2_with fail
  go_loopg [7] cs.length (fun gk i wr => ∃ j : Nat, j ≤ cs.length ∧ gk = cs.length - j ∧ i = .int .i64 j ∧ Kp none_ W wr)
  case atStart => exact ⟨0, by omega, rfl, rfl, Kp.refl _ _⟩
  case round =>
    obtain ⟨j, hj, rfl, rfl, hk⟩ := hrel
    have hend : ∀ w, Kp none_ W w → Kp none_ W w := fun _ h => h
    clear hend
    by_cases hlt : j < cs.length ∧ j < 60
    · obtain ⟨hlt, h60⟩ := hlt
      obtain ⟨ba, off, rfl, _, hbl, hcl⟩ := hv.cells (by omega)
      have c14 : wr.cell? ⟨ba, off + j * 15 + 14, none⟩ = some (.bool cs[j].give) := by
        rw [Nat.add_assoc]
        exact (hk.below.cell (p := ⟨ba, off + (j * 15 + 14), none⟩) hbl).trans (hcl _ _ (by rw [flat15 _ (fun _ => rfl) _ _ _ (by omega), List.getElem?_eq_getElem hlt]; rfl))
      clear hcl
      generalize cs[j].give = gv at *
      cases gv with
      | false =>
        go_wp2_with fail
        go_roundg (cs.length - (j + 1))
        case measure => omega
        case rel => exact ⟨j + 1, hlt, rfl, by go_num, hk⟩
      | true =>
        go_wp2_with fail
        refine (lease_awake _).mono ?_; rintro e w1 ⟨rfl, hk1⟩
        go_wp2_with fail
        go_ret
        exact ⟨rfl, hk.then_ hk1⟩
    · by_cases h1 : j < cs.length
      · have h2 : ¬ j < 60 := fun h => hlt ⟨h1, h⟩
        clear hlt
        go_wp2_with fail
        refine (lease_awake _).mono ?_; rintro e w1 ⟨rfl, hk1⟩
        have hkw := hk.then_ hk1
        go_wp2_with fail
        refine (HF.out w1 hkw).mono ?_; rintro e w2 ⟨rfl, hk2⟩
        go_wp2_with fail
        go_ret
        exact ⟨rfl, hkw.then_ hk2⟩
      · clear hlt
        go_wp2_with fail
        refine (lease_awake _).mono ?_; rintro e w1 ⟨rfl, hk1⟩
        have hkw := hk.then_ hk1
        go_wp2_with fail
        refine (HF.out w1 hkw).mono ?_; rintro e w2 ⟨rfl, hk2⟩
        go_wp2_with fail
        go_ret
        exact ⟨rfl, hkw.then_ hk2⟩
end Go.Proofs.Ytjgbandmjamcaaa

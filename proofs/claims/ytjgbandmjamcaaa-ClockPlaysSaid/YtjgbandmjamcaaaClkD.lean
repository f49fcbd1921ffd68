/- Contracts: clocks at any arguments. -/
import Derived.Test.YtjgbandmjamcaaaClkC
namespace Go.Proofs.Ytjgbandmjamcaaa
open Go.RowKit

def setErr (c : ClkD) (h t e : Int) : Int := if (isTime h && isTime t && isTime e) = true then (if h < c.last then 62 else 0) else 61
def setClk (c : ClkD) (h t e : Int) : ClkD := if setErr c h t e = 0 then ⟨h, t, e, true, c.rate, h, c.floor⟩ else c
def nowErr (c : ClkD) (h : Int) : Int := if isTime h = true then (if c.set = true then (if h < c.last then 62 else if 1125899906842624 < c.time + (h - c.at_) then 64 else 0) else 63) else 61
def nowClk (c : ClkD) (h : Int) : ClkD := if nowErr c h = 0 then ⟨c.at_, c.time, c.width, true, c.rate, h, nowLo c h⟩ else c
def nowLoE (c : ClkD) (h : Int) : Int := if nowErr c h = 0 then nowLo c h else 0
def nowHiE (c : ClkD) (h : Int) : Int := if nowErr c h = 0 then nowHi c h else 0
theorem nowErr_ok {c : ClkD} {h : Int} (hh : nowErr c h = 0) : isTime h = true ∧ c.set = true ∧ c.last ≤ h ∧ c.time + (h - c.at_) ≤ 1125899906842624 := by
  unfold nowErr at hh
  split at hh
  · split at hh
    · split at hh
      · omega
      · split at hh
        · omega
        · exact ⟨by assumption, by assumption, by omega, by omega⟩
    · omega
  · omega
theorem setErr_ok {c : ClkD} {h t e : Int} (hh : setErr c h t e = 0) : isTime h = true ∧ isTime t = true ∧ isTime e = true ∧ c.last ≤ h := by
  unfold setErr at hh
  split at hh
  · rename_i ha
    simp only [Bool.and_eq_true] at ha
    split at hh
    · omega
    · exact ⟨ha.1.1, ha.1.2, ha.2, by omega⟩
  · omega
set_option maxRecDepth 100000 in
set_option maxHeartbeats 800000 in
theorem clock_SetG (g : Nat) (c : ClkD) (h t e : Int) (w : World) (hb : Blk w g 112 c.cells) :
    Calls Try.prog 22 #[.pointer (some ⟨g, 0, none⟩), .int .i64 h, .int .i64 t, .int .i64 e] w (Ret (.int .i64 (setErr c h t e)) fun w' => Kp (only g) w w' ∧ Blk w' g 112 (setClk c h t e).cells) := by
  by_cases h0 : setErr c h t e = 0
  · obtain ⟨h1, h2, h3, h4⟩ := setErr_ok h0
    unfold setClk
    rw [if_pos h0, h0]
    exact clock_Set g c h t e w hb h1 h2 h3 h4
  · unfold setClk
    rw [if_neg h0]
    have c5 := hb.cell 5
    simp [ClkD.cells] at c5
    have HB := Lib.hid hb
    clear hb
    by_cases h1 : isTime h = true
    · by_cases h2 : isTime t = true
      · by_cases h3 : isTime e = true
        · have hl : h < c.last := by
            unfold setErr at h0
            rw [h1, h2, h3] at h0
            simp at h0
            exact h0
          have he : setErr c h t e = 62 := by unfold setErr; rw [h1, h2, h3]; simp [hl]
          rw [he]
          clear he h0
          go_enter Try.func22, Try.ntmps22
          go_wp2_with fail
          refine (clock_in h _).mono ?_; rintro e' w1 ⟨rfl, rfl⟩
          rw [h1]
          go_wp2_with fail
          refine (clock_in t _).mono ?_; rintro e' w2 ⟨rfl, rfl⟩
          rw [h2]
          go_wp2_with fail
          refine (clock_in e _).mono ?_; rintro e' w3 ⟨rfl, rfl⟩
          rw [h3]
          go_wp2_with fail
          go_ret
          exact ⟨rfl, Kp.refl _ _, HB.out⟩
        · have h3' : isTime e = false := by simpa using h3
          have he : setErr c h t e = 61 := by unfold setErr; rw [h1, h2, h3']; rfl
          rw [he]
          clear he h0 h3
          go_enter Try.func22, Try.ntmps22
          go_wp2_with fail
          refine (clock_in h _).mono ?_; rintro e' w1 ⟨rfl, rfl⟩
          rw [h1]
          go_wp2_with fail
          refine (clock_in t _).mono ?_; rintro e' w2 ⟨rfl, rfl⟩
          rw [h2]
          go_wp2_with fail
          refine (clock_in e _).mono ?_; rintro e' w3 ⟨rfl, rfl⟩
          rw [h3']
          go_wp2_with fail
          go_ret
          exact ⟨rfl, Kp.refl _ _, HB.out⟩
      · have h2' : isTime t = false := by simpa using h2
        have he : setErr c h t e = 61 := by unfold setErr; rw [h1, h2']; rfl
        rw [he]
        clear he h0 h2
        go_enter Try.func22, Try.ntmps22
        go_wp2_with fail
        refine (clock_in h _).mono ?_; rintro e' w1 ⟨rfl, rfl⟩
        rw [h1]
        go_wp2_with fail
        refine (clock_in t _).mono ?_; rintro e' w2 ⟨rfl, rfl⟩
        rw [h2']
        go_wp2_with fail
        go_ret
        exact ⟨rfl, Kp.refl _ _, HB.out⟩
    · have h1' : isTime h = false := by simpa using h1
      have he : setErr c h t e = 61 := by unfold setErr; rw [h1']; rfl
      rw [he]
      clear he h0 h1
      go_enter Try.func22, Try.ntmps22
      go_wp2_with fail
      refine (clock_in h _).mono ?_; rintro e' w1 ⟨rfl, rfl⟩
      rw [h1']
      go_wp2_with fail
      go_ret
      exact ⟨rfl, Kp.refl _ _, HB.out⟩
set_option maxRecDepth 100000 in
set_option maxHeartbeats 2000000 in
theorem clock_NowG (g : Nat) (c : ClkD) (h : Int) (w : World) (hb : Blk w g 112 c.cells) (hok : c.ok) :
    Calls Try.prog 24 #[.pointer (some ⟨g, 0, none⟩), .int .i64 h] w (Ret (.tuple #[.agg #[.int .i64 (nowLoE c h), .int .i64 (nowHiE c h)], .int .i64 (nowErr c h)]) fun w' => Kp (only g) w w' ∧ Blk w' g 112 (nowClk c h).cells) := by
  by_cases h0 : nowErr c h = 0
  · obtain ⟨h1, h2, h3, h4⟩ := nowErr_ok h0
    unfold nowClk nowLoE nowHiE
    rw [if_pos h0, if_pos h0, if_pos h0, h0]
    exact clock_Now g c h w hb hok h2 h1 h3 h4
  · unfold nowClk nowLoE nowHiE
    rw [if_neg h0, if_neg h0, if_neg h0]
    have r0 := hb.cell 0
    have r1 := hb.cell 1
    have r3 := hb.cell 3
    have r5 := hb.cell 5
    simp [ClkD.cells] at r0 r1 r3 r5
    have hbA := hb.alloc (.cells #[.int .i64 0, .int .i64 0] 28)
    have hkA : Kp (only g) w (w.alloc (.cells #[.int .i64 0, .int .i64 0] 28)) := (Kp.refl _ _).alloc _
    have zb := hb.lt
    have HB := Lib.hid hbA
    obtain ⟨k0, _, _, k3, _, _, _⟩ := hok
    obtain ⟨k4, k5⟩ := isTime_iff.1 k3
    clear hb hbA
    by_cases h1 : isTime h = true
    · obtain ⟨k6, k7⟩ := isTime_iff.1 h1
      by_cases h2 : c.set = true
      · rw [h2] at r3
        by_cases h3 : h < c.last
        · have he : nowErr c h = 62 := by unfold nowErr; rw [if_pos h1, if_pos h2, if_pos h3]
          rw [he]
          clear he h0
          go_enter Try.func24, Try.ntmps24
          go_wp2_with fail
          refine (clock_in h _).mono ?_; rintro e' w1 ⟨rfl, rfl⟩
          rw [h1]
          go_wp2_with fail
          exact bodyPost_ret (v := .tuple #[.agg #[.int .i64 0, .int .i64 0], .int .i64 62]) (by simp [results, Try.results24, go_sem]) rfl ⟨rfl, hkA, HB.out⟩
        · have h4 : 1125899906842624 < c.time + (h - c.at_) := by
            unfold nowErr at h0
            rw [if_pos h1, if_pos h2, if_neg h3] at h0
            by_cases hh : 1125899906842624 < c.time + (h - c.at_)
            · exact hh
            · rw [if_neg hh] at h0; exact absurd rfl h0
          have he : nowErr c h = 64 := by unfold nowErr; rw [if_pos h1, if_pos h2, if_neg h3, if_pos h4]
          rw [he]
          clear he h0
          have h3' : c.last ≤ h := by omega
          go_enter Try.func24, Try.ntmps24
          go_wp2_with fail
          refine (clock_in h _).mono ?_; rintro e' w1 ⟨rfl, rfl⟩
          rw [h1]
          go_wp2_with fail
          go_quiet (fail)
          go_wp2_with fail
          exact bodyPost_ret (v := .tuple #[.agg #[.int .i64 0, .int .i64 0], .int .i64 64]) (by simp [results, Try.results24, go_sem]) rfl ⟨rfl, ((hkA.drewN nq).setCell (p := ⟨w.heap.size, 0, none⟩) _ (.inr (Nat.le_refl _))).setCell (p := ⟨w.heap.size, 1, none⟩) _ (.inr (Nat.le_refl _)), ((HB.out.drewN nq).far (p := ⟨w.heap.size, 0, none⟩) (Nat.ne_of_lt zb) _).far (p := ⟨w.heap.size, 1, none⟩) (Nat.ne_of_lt zb) _⟩
      · have h2' : c.set = false := by simpa using h2
        rw [h2'] at r3
        have he : nowErr c h = 63 := by unfold nowErr; rw [if_pos h1, if_neg h2]
        rw [he]
        clear he h0 h2
        go_enter Try.func24, Try.ntmps24
        go_wp2_with fail
        refine (clock_in h _).mono ?_; rintro e' w1 ⟨rfl, rfl⟩
        rw [h1]
        go_wp2_with fail
        exact bodyPost_ret (v := .tuple #[.agg #[.int .i64 0, .int .i64 0], .int .i64 63]) (by simp [results, Try.results24, go_sem]) rfl ⟨rfl, hkA, HB.out⟩
    · have h1' : isTime h = false := by simpa using h1
      have he : nowErr c h = 61 := by unfold nowErr; rw [if_neg h1]
      rw [he]
      clear he h0 h1
      go_enter Try.func24, Try.ntmps24
      go_wp2_with fail
      refine (clock_in h _).mono ?_; rintro e' w1 ⟨rfl, rfl⟩
      rw [h1']
      go_wp2_with fail
      exact bodyPost_ret (v := .tuple #[.agg #[.int .i64 0, .int .i64 0], .int .i64 61]) (by simp [results, Try.results24, go_sem]) rfl ⟨rfl, hkA, HB.out⟩
set_option maxRecDepth 100000 in
theorem clock_PastG (g : Nat) (c : ClkD) (t h : Int) (w : World) (hb : Blk w g 112 c.cells) (hok : c.ok) :
    Calls Try.prog 25 #[.pointer (some ⟨g, 0, none⟩), .int .i64 t, .int .i64 h] w (Ret (.tuple #[.bool (nowErr c h == 0 && decide (t < nowLoE c h)), .int .i64 (nowErr c h)]) fun w' => Kp (only g) w w' ∧ Blk w' g 112 (nowClk c h).cells) := by
  have hnow := clock_NowG g c h w hb hok
  generalize nowLoE c h = lo at *
  generalize nowHiE c h = hi at *
  generalize nowErr c h = er at *
  go_enter Try.func25, Try.ntmps25
  go_wp2_with fail
  refine hnow.mono ?_; rintro e' w1 ⟨rfl, hk1, hb1⟩
  by_cases h0 : er = 0
  · subst h0
    go_wp2_with fail
    go_ret2
    exact ⟨by simp, hk1.alloc _, hb1.alloc _⟩
  · have h0' : (er == 0) = false := by simpa using h0
    clear h0
    go_wp2_with fail
    go_ret2
    exact ⟨by simp [h0'], hk1.alloc _, hb1.alloc _⟩
/-- May a clock have this rate? -/
def ratedB (b : Nat) : Bool := decide (b = 0 ∨ b = 9223372036854775808 ∨ (0 < b ∧ b ≤ 4576918229304087675))
theorem ratedB_iff {b : Nat} : ratedB b = true ↔ isRateC b := by unfold ratedB isRateC; simp
end Go.Proofs.Ytjgbandmjamcaaa

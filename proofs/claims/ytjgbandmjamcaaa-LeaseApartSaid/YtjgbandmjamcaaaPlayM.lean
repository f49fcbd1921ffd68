/- Leases in play: the plain law. Spans of clocks hold the true time; no two leaders hold a lease at one time; stamps rise. -/
import Derived.Test.YtjgbandmjamcaaaClkC
import Derived.Test.YtjgbandmjamcaaaLeaseE
namespace Go.Proofs.Ytjgbandmjamcaaa
open Go.RowKit

/-! clocks of rate 1/128 -/
def R128 : Nat := 4575657221408423936
theorem rateC_128 : isRateC R128 := .inr (.inr ⟨by decide, by decide⟩)
theorem rate_128 : isRate R128 := .inr (.inr ⟨by decide, by decide⟩)
theorem grow_128 (e : Int) : grow e R128 = -((-e) / 128) := by
  unfold grow timesF
  have h1 : fP R128 = 0 := by decide
  have h2 : fK R128 = 59 := by decide
  rw [if_neg (by decide), h1, h2]
  have h3 : ((2 ^ 59 : Nat) : Int) = 4503599627370496 * 128 := by decide
  rw [h3, Nat.add_zero, Int.mul_comm (-e)]
  show -(4503599627370496 * -e / (4503599627370496 * 128)) = _
  rw [Int.mul_ediv_mul_of_pos _ _ (by decide)]
def brt (n m : Int) : Int := if n > m then m else if n < -m then -m else n
theorem brt_bd (n m : Int) (h : 0 ≤ m) : -m ≤ brt n m ∧ brt n m ≤ m := by
  unfold brt
  split
  · omega
  · split <;> omega
/-- A clock of the play: set at reading 0 by so much, last read, with a floor. -/
def pclk (b r f : Int) : ClkD := ⟨0, b, 9, true, R128, r, f⟩
/-- Its reading and its floor fit the true time. -/
def ClkI (t0 T r f : Int) : Prop := 0 ≤ t0 ∧ t0 ≤ 1099511627775 ∧ t0 ≤ T ∧ T ≤ t0 + 3932100 ∧ 256 * r ≤ 257 * (T - t0) ∧ 255 * (T - t0) ≤ 256 * r ∧ 0 ≤ f ∧ f ≤ T
theorem nowLo_p (b r f h : Int) : nowLo (pclk b r f) h = max (max (max (b + (h - 0) - 9) 0 - -((-(h - 0)) / 128)) 0) f := by
  rw [← grow_128]
  simp only [nowLo, wLo, pclk]
theorem nowHi_p (b r f h : Int) : nowHi (pclk b r f) h = max (min (min (b + (h - 0) + 9) 1125899906842624 + -((-(h - 0)) / 128)) 1125899906842624) (nowLo (pclk b r f) h) := by
  rw [← grow_128]
  simp only [nowHi, wHi, pclk]
theorem clk_step (t0 T r f d s : Int) (k : Nat) (hk : k < 8) (hi : ClkI t0 T r f) (hd : 0 ≤ d ∧ d ≤ 65535) (hT : T + d ≤ t0 + 3932100) :
    (pclk (t0 + k) r f).ok ∧ r ≤ r + (d - brt s (d / 256)) ∧ isTime (r + (d - brt s (d / 256))) = true ∧ t0 + k + (r + (d - brt s (d / 256)) - 0) ≤ 1125899906842624 ∧
    nowLo (pclk (t0 + k) r f) (r + (d - brt s (d / 256))) ≤ T + d ∧ T + d ≤ nowHi (pclk (t0 + k) r f) (r + (d - brt s (d / 256))) ∧
    isSpan (nowLo (pclk (t0 + k) r f) (r + (d - brt s (d / 256)))) (nowHi (pclk (t0 + k) r f) (r + (d - brt s (d / 256)))) = true ∧
    ClkI t0 (T + d) (r + (d - brt s (d / 256))) (nowLo (pclk (t0 + k) r f) (r + (d - brt s (d / 256)))) := by
  obtain ⟨h1, h2, h3, h4, h5, h6, h7, h8⟩ := hi
  obtain ⟨hb1, hb2⟩ := brt_bd s (d / 256) (by omega)
  generalize brt s (d / 256) = b at *
  obtain ⟨x, hx⟩ : ∃ x, x = r + (d - b) := ⟨_, rfl⟩
  rw [← hx]
  have hx1 : r ≤ x := by omega
  have hx2 : 256 * x ≤ 257 * (T + d - t0) := by omega
  have hx3 : 255 * (T + d - t0) ≤ 256 * x := by omega
  clear hb1 hb2 hx
  have hr0 : 0 ≤ r := by omega
  have hlo := nowLo_p (t0 + k) r f x
  have hhi := nowHi_p (t0 + k) r f x
  obtain ⟨g, hg⟩ : ∃ g, g = -((-(x - 0)) / 128) := ⟨_, rfl⟩
  rw [← hg] at hlo hhi
  have hg1 : x ≤ 128 * g := by omega
  have hg2 : 128 * g ≤ x + 127 := by omega
  clear hg
  have hlo' := Lib.hid hlo
  have hhi' := Lib.hid hhi
  clear hlo hhi
  generalize nowLo (pclk (t0 + k) r f) x = lo at *
  generalize nowHi (pclk (t0 + k) r f) x = hi at *
  have m1 : max (t0 + k + (x - 0) - 9) 0 - g ≤ T + d := by
    rcases Int.le_total (t0 + k + (x - 0) - 9) 0 with h | h
    · rw [Int.max_eq_right h]; omega
    · rw [Int.max_eq_left h]; omega
  have hl1 : lo ≤ T + d := by rw [hlo'.out]; exact Int.max_le.2 ⟨Int.max_le.2 ⟨m1, by omega⟩, by omega⟩
  have hl3 : 0 ≤ lo := by rw [hlo'.out]; exact Int.le_trans (Int.le_max_right _ _) (Int.le_max_left _ _)
  have m2 : T + d ≤ min (t0 + k + (x - 0) + 9) 1125899906842624 + g := by
    rcases Int.le_total (t0 + k + (x - 0) + 9) 1125899906842624 with h | h
    · rw [Int.min_eq_left h]; omega
    · rw [Int.min_eq_right h]; omega
  have hl2 : T + d ≤ hi := by rw [hhi'.out]; exact Int.le_trans (Int.le_min.2 ⟨m2, by omega⟩) (Int.le_max_left _ _)
  have hl4 : hi ≤ 1125899906842624 := by rw [hhi'.out]; exact Int.max_le.2 ⟨Int.min_le_right _ _, by omega⟩
  clear m1 m2 hlo' hhi'
  refine ⟨⟨?_, ?_, ?_, ?_, ?_, ?_, rate_128⟩, by omega, isTime_iff.2 ⟨by omega, by omega⟩, by omega, hl1, hl2, isSpan_iff.2 ⟨hl3, by omega, hl4⟩, ⟨by omega, by omega, by omega, by omega, by omega, by omega, hl3, hl1⟩⟩
  · show (0 : Int) ≤ 0; omega
  · show 0 ≤ r; omega
  · show r ≤ 1125899906842624; omega
  · exact isTime_iff.2 ⟨by show 0 ≤ t0 + k; omega, by show t0 + k ≤ _; omega⟩
  · exact isTime_iff.2 ⟨by show (0 : Int) ≤ 9; omega, by show (9 : Int) ≤ _; omega⟩
  · exact isTime_iff.2 ⟨by show 0 ≤ f; omega, by show f ≤ _; omega⟩
/-! leases -/
def upd {α : Type} (f : Nat → α) (k : Nat) (x : α) : Nat → α := fun j => if j = k then x else f j
theorem upd_same {α : Type} (f : Nat → α) (k : Nat) (x : α) : upd f k x k = x := if_pos rfl
theorem upd_ne {α : Type} (f : Nat → α) {k j : Nat} (x : α) (h : j ≠ k) : upd f k x j = f j := if_neg h
def ug (us : List Int) (v : Nat) : Int := us[v]?.getD 0
theorem until_iff (n : Nat) (us : List Int) (h1 : 1 ≤ n) (hn : n ≤ us.length) (x : Int) : x ≤ untilF n us ↔ n < 2 * atLeast (us.take n) x := by
  obtain ⟨s, hsdef⟩ : ∃ s, s = (us.take n).mergeSort (fun a b => decide (a ≤ b)) := ⟨_, rfl⟩
  have hperm : s.Perm (us.take n) := by rw [hsdef]; exact List.mergeSort_perm _ _
  have hsort : Sorted s := by
    rw [hsdef]
    have h := List.pairwise_mergeSort (le := fun a b : Int => decide (a ≤ b)) (fun a b c h1 h2 => by simp at *; omega) (fun a b => by simp; omega) (us.take n)
    exact h.imp (fun h => by simpa using h)
  have hl : s.length = n := by rw [hperm.length_eq, List.length_take]; omega
  have hm : (n - 1) / 2 < s.length := by omega
  have hu : untilF n us = s[(n - 1) / 2] := by
    unfold untilF
    rw [← hsdef, List.getElem?_eq_getElem hm]
    rfl
  have hget : s[(n - 1) / 2]? = some (untilF n us) := by rw [hu, List.getElem?_eq_getElem hm]
  rw [← atLeast_perm hperm]
  have g1 := atLeast_sorted_ge hsort hget
  constructor
  · intro hx
    have : atLeast s (untilF n us) ≤ atLeast s x := List.countP_mono_left (fun y _ hy => by simp at *; omega)
    omega
  · intro hx
    rcases Int.lt_or_le (untilF n us) x with h | h
    · have g2 := atLeast_sorted_lt hsort hget h
      omega
    · exact h
theorem both_of_many : ∀ (a b : List Int) (x : Int), a.length = b.length → a.length < atLeast a x + atLeast b x → ∃ v, v < a.length ∧ x ≤ ug a v ∧ x ≤ ug b v := by
  intro a
  induction a with
  | nil =>
    intro b x hl h
    have : b = [] := List.eq_nil_of_length_eq_zero hl.symm
    subst this
    simp [atLeast] at h
  | cons y a ih =>
    intro b x hl h
    cases b with
    | nil => cases hl
    | cons z b =>
      have hl' : a.length = b.length := by simpa using hl
      by_cases hyz : x ≤ y ∧ x ≤ z
      · exact ⟨0, by simp, hyz.1, hyz.2⟩
      · have h' : a.length < atLeast a x + atLeast b x := by
          unfold atLeast at h ⊢
          rw [List.countP_cons, List.countP_cons, List.length_cons] at h
          by_cases hy : x ≤ y
          · have hz : ¬ x ≤ z := fun hz => hyz ⟨hy, hz⟩
            simp [hy, hz] at h
            omega
          · by_cases hz : x ≤ z
            · simp [hy, hz] at h
              omega
            · simp [hy, hz] at h
              omega
        obtain ⟨v, hv, h1, h2⟩ := ih b x hl' h'
        exact ⟨v + 1, by simpa using hv, by simpa [ug] using h1, by simpa [ug] using h2⟩
theorem ug_take (us : List Int) (n v : Nat) (h : v < n) : ug (us.take n) v = ug us v := by
  unfold ug
  rw [List.getElem?_take, if_pos h]
theorem ug_set (us : List Int) (v : Nat) (x : Int) (h : v < us.length) : ug (us.set v x) v = x := by
  unfold ug
  rw [List.getElem?_set_self h]
  rfl
theorem ug_set_ne (us : List Int) (v j : Nat) (x : Int) (h : v ≠ j) : ug (us.set v x) j = ug us j := by
  unfold ug
  rw [List.getElem?_set_ne h]
theorem atLeast_mono : ∀ (a b : List Int) (x : Int), a.length = b.length → (∀ v, v < a.length → ug a v ≤ ug b v) → atLeast a x ≤ atLeast b x := by
  intro a
  induction a with
  | nil => intro b x _ _; simp [atLeast]
  | cons y a ih =>
    intro b x hl h
    cases b with
    | nil => cases hl
    | cons z b =>
      have h0 : y ≤ z := h 0 (by simp)
      have hr := ih b x (by simpa using hl) (fun v hv => by have := h (v + 1) (by simpa using hv); simpa [ug] using this)
      unfold atLeast at hr ⊢
      rw [List.countP_cons, List.countP_cons]
      by_cases hy : x ≤ y
      · have hz : x ≤ z := by omega
        simp [hy, hz]; omega
      · by_cases hz : x ≤ z
        · simp [hy, hz]; omega
        · simp [hy, hz]; omega
theorem until_mono (n : Nat) (a b : List Int) (h1 : 1 ≤ n) (hn : n ≤ a.length) (hl : a.length = b.length) (h : ∀ v, v < n → ug a v ≤ ug b v) : untilF n a ≤ untilF n b := by
  rw [until_iff n b h1 (by omega)]
  have := (until_iff n a h1 hn (untilF n a)).1 (Int.le_refl _)
  have hm := atLeast_mono (a.take n) (b.take n) (untilF n a) (by rw [List.length_take, List.length_take]; omega) (fun v hv => by
    rw [List.length_take] at hv
    rw [ug_take _ _ _ (by omega), ug_take _ _ _ (by omega)]
    exact h v (by omega))
  omega
/-- Of two that more than half granted beyond x, one granted both. -/
theorem until_both (n : Nat) (a b : List Int) (x : Int) (h1 : 1 ≤ n) (ha : n ≤ a.length) (hb : n ≤ b.length) (hx : x ≤ untilF n a) (hy : x ≤ untilF n b) : ∃ v, v < n ∧ x ≤ ug a v ∧ x ≤ ug b v := by
  rw [until_iff n a h1 ha] at hx
  rw [until_iff n b h1 hb] at hy
  have e1 : (a.take n).length = n := by rw [List.length_take]; omega
  have e2 : (b.take n).length = n := by rw [List.length_take]; omega
  obtain ⟨v, hv, g1, g2⟩ := both_of_many (a.take n) (b.take n) x (by omega) (by omega)
  rw [e1] at hv
  rw [ug_take _ _ _ hv] at g1 g2
  exact ⟨v, hv, g1, g2⟩

/-- What holds of leases at a true time T: of each voter at most one leader (own) has a grant beyond T. -/
structure LI (T : Int) (n : Nat) (vl vu : Nat → Int) (us : Nat → List Int) (sl : Nat → Int) (last : Int) : Prop where
  n1 : 1 ≤ n
  n5 : n ≤ 5
  t0 : 0 ≤ T
  tm : T ≤ 1100000000000
  len : ∀ j, j < 3 → (us j).length = 5
  bd : ∀ j, j < 3 → ∀ x ∈ us j, 0 ≤ x ∧ x ≤ 1125899906842624
  near : ∀ j, j < 3 → ∀ v, v < n → ug (us j) v ≤ T + 65536
  one : ∀ v, v < n → ∃ own, (∀ j, j < 3 → j ≠ own → ug (us j) v ≤ T) ∧ (own < 3 → ug (us own) v ≤ T ∨ ug (us own) v ≤ vu v) ∧ (vl v = 0 ∨ vl v = (own : Int) + 1)
  vnear : ∀ v, v < n → vl v ≠ 0 → vu v ≤ T + 65536
  vbd : ∀ v, v < n → 0 ≤ vu v ∧ vu v ≤ 1125899906842624
  src : ∀ j, j < 3 → 0 ≤ sl j ∧ sl j ≤ 1125899906842624
  lst : last = 0 ∨ ∃ j, j < 3 ∧ last ≤ sl j ∧ last < untilF n (us j)
section
variable {T : Int} {n : Nat} {vl vu : Nat → Int} {us : Nat → List Int} {sl : Nat → Int} {last : Int}
theorem LI.until_bd (h : LI T n vl vu us sl last) {j : Nat} (hj : j < 3) : 0 ≤ untilF n (us j) ∧ untilF n (us j) ≤ 1125899906842624 :=
  Go.Proofs.Ytjgbandmjamcaaa.until_bd n (us j) h.n1 (by have := h.len j hj; have := h.n5; omega) (h.bd j hj)
theorem LI.time (h : LI T n vl vu us sl last) (d : Int) (hd : 0 ≤ d) (hm : T + d ≤ 1100000000000) : LI (T + d) n vl vu us sl last where
  n1 := h.n1
  n5 := h.n5
  t0 := by have := h.t0; omega
  tm := hm
  len := h.len
  bd := h.bd
  near := fun j hj v hv => by have := h.near j hj v hv; omega
  one := fun v hv => by
    obtain ⟨own, a, b, c⟩ := h.one v hv
    refine ⟨own, fun j hj hne => by have := a j hj hne; omega, fun ho => ?_, c⟩
    rcases b ho with b | b
    · left; omega
    · right; exact b
  vnear := fun v hv hl => by have := h.vnear v hv hl; omega
  vbd := h.vbd
  src := h.src
  lst := h.lst
theorem LI.reborn (h : LI T n vl vu us sl last) (v : Nat) (hi : Int) (hT : T ≤ hi) : LI T n (upd vl v 0) (upd vu v (min (hi + 1048576) 1125899906842624)) us sl last where
  n1 := h.n1
  n5 := h.n5
  t0 := h.t0
  tm := h.tm
  len := h.len
  bd := h.bd
  near := h.near
  one := fun q hq => by
    obtain ⟨own, a, b, c⟩ := h.one q hq
    by_cases e : q = v
    · subst e
      refine ⟨own, a, fun ho => .inr ?_, .inl (upd_same _ _ _)⟩
      rw [upd_same]
      have h1 := h.near own ho q hq
      have h2 := h.tm
      omega
    · rw [upd_ne _ _ e, upd_ne _ _ e]
      exact ⟨own, a, b, c⟩
  vnear := fun q hq => by
    by_cases e : q = v
    · subst e; rw [upd_same]; intro hc; exact absurd rfl hc
    · rw [upd_ne _ _ e, upd_ne _ _ e]; exact h.vnear q hq
  vbd := fun q hq => by
    by_cases e : q = v
    · subst e; rw [upd_same]; have := h.t0; omega
    · rw [upd_ne _ _ e]; exact h.vbd q hq
  src := h.src
  lst := h.lst
/-- A grant: refused, or the leader alone has it then. -/
theorem LI.grant (h : LI T n vl vu us sl last) (v who : Nat) (hv : v < n) (hw : who < 3) (lo hi len : Int) (hlo : lo ≤ T) (hlen : len ≤ 65536) :
    LI T n (upd vl v (grantP (vl v) (vu v) lo hi (who + 1) len).2.2.1) (upd vu v (grantP (vl v) (vu v) lo hi (who + 1) len).2.2.2) us sl last ∧
    ((grantP (vl v) (vu v) lo hi (who + 1) len).2.1 = 0 → 0 ≤ (grantP (vl v) (vu v) lo hi (who + 1) len).1 ∧ (grantP (vl v) (vu v) lo hi (who + 1) len).1 ≤ 1125899906842624 ∧ (grantP (vl v) (vu v) lo hi (who + 1) len).1 = (grantP (vl v) (vu v) lo hi (who + 1) len).2.2.2 ∧ (grantP (vl v) (vu v) lo hi (who + 1) len).2.2.1 = (who : Int) + 1) := by
  have same : LI T n (upd vl v (vl v)) (upd vu v (vu v)) us sl last := by
    have e1 : ∀ {α : Type} (f : Nat → α), upd f v (f v) = f := fun f => by funext j; unfold upd; split <;> simp_all
    rw [e1, e1]; exact h
  unfold grantP
  split
  case isFalse => exact ⟨same, fun hc => absurd hc (by simp)⟩
  rename_i hg
  obtain ⟨hs, hl1, hl2⟩ := hg
  obtain ⟨s1, s2, s3⟩ := isSpan_iff.1 hs
  rw [if_neg (by omega)]
  have hb := h.vbd v hv
  split
  · rename_i hld
    have hne : vl v ≠ 0 := by omega
    have hvn := h.vnear v hv hne
    refine ⟨⟨h.n1, h.n5, h.t0, h.tm, h.len, h.bd, h.near, fun q hq => ?_, fun q hq => ?_, fun q hq => ?_, h.src, h.lst⟩, fun _ => ⟨by dsimp only; omega, by dsimp only; omega, rfl, rfl⟩⟩
    · obtain ⟨own, a, b, c⟩ := h.one q hq
      by_cases e : q = v
      · subst e
        rw [upd_same, upd_same]
        have ho : own = who := by omega
        subst ho
        refine ⟨own, a, fun ho => ?_, .inr rfl⟩
        rcases b ho with b | b
        · exact .inl b
        · right; dsimp only; omega
      · rw [upd_ne _ _ e, upd_ne _ _ e]; exact ⟨own, a, b, c⟩
    · by_cases e : q = v
      · subst e; rw [upd_same, upd_same]; intro _; dsimp only; omega
      · rw [upd_ne _ _ e, upd_ne _ _ e]; exact h.vnear q hq
    · by_cases e : q = v
      · subst e; rw [upd_same]; dsimp only; omega
      · rw [upd_ne _ _ e]; exact h.vbd q hq
  · split
    · exact ⟨same, fun hc => absurd hc (by simp)⟩
    · rename_i hld hlo2
      have hall : ∀ j, j < 3 → ug (us j) v ≤ T := fun j hj => by
        obtain ⟨own, a, b, c⟩ := h.one v hv
        by_cases e : j = own
        · subst e
          rcases b hj with b | b <;> omega
        · exact a j hj e
      refine ⟨⟨h.n1, h.n5, h.t0, h.tm, h.len, h.bd, h.near, fun q hq => ?_, fun q hq => ?_, fun q hq => ?_, h.src, h.lst⟩, fun _ => ⟨by dsimp only; omega, by dsimp only; omega, rfl, rfl⟩⟩
      · by_cases e : q = v
        · subst e
          rw [upd_same, upd_same]
          exact ⟨who, fun j hj _ => hall j hj, fun _ => .inl (hall who hw), .inr rfl⟩
        · rw [upd_ne _ _ e, upd_ne _ _ e]; exact h.one q hq
      · by_cases e : q = v
        · subst e; rw [upd_same, upd_same]; intro _; dsimp only; omega
        · rw [upd_ne _ _ e, upd_ne _ _ e]; exact h.vnear q hq
      · by_cases e : q = v
        · subst e; rw [upd_same]; dsimp only; omega
        · rw [upd_ne _ _ e]; exact h.vbd q hq
/-- A grant that is heard. -/
theorem LI.heard (h : LI T n vl vu us sl last) (v who : Nat) (hv : v < n) (hw : who < 3) (hl : vl v = (who : Int) + 1) :
    heardP n (us who) v (vu v) = (0, (us who).set v (max (ug (us who) v) (vu v))) ∧ LI T n vl vu (upd us who ((us who).set v (max (ug (us who) v) (vu v)))) sl last := by
  have hb := h.vbd v hv
  have hn := h.vnear v hv (by omega)
  have hlen := h.len who hw
  have h5 := h.n5
  constructor
  · unfold heardP
    rw [if_neg (by omega), if_neg (by omega), Int.toNat_natCast]
    rfl
  have hold_le : ∀ j, j < 3 → ∀ q, q < n → ug (us j) q ≤ ug (upd us who ((us who).set v (max (ug (us who) v) (vu v))) j) q := fun j hj q hq => by
    by_cases e : j = who
    · subst e
      rw [upd_same]
      by_cases e2 : q = v
      · subst e2; rw [ug_set _ _ _ (by omega)]; exact Int.le_max_left _ _
      · rw [ug_set_ne _ _ _ _ (Ne.symm e2)]; exact Int.le_refl _
    · rw [upd_ne _ _ e]; exact Int.le_refl _
  refine ⟨h.n1, h.n5, h.t0, h.tm, fun j hj => ?_, fun j hj => ?_, fun j hj q hq => ?_, fun q hq => ?_, h.vnear, h.vbd, h.src, ?_⟩
  · by_cases e : j = who
    · subst e; rw [upd_same, List.length_set]; exact hlen
    · rw [upd_ne _ _ e]; exact h.len j hj
  · by_cases e : j = who
    · subst e
      rw [upd_same]
      intro x hx
      rcases List.mem_or_eq_of_mem_set hx with hx | hx
      · exact h.bd j hj x hx
      · have : 0 ≤ ug (us j) v ∧ ug (us j) v ≤ 1125899906842624 := by
          unfold ug
          rw [List.getElem?_eq_getElem (by omega)]
          exact h.bd j hj _ (List.getElem_mem _)
        omega
    · rw [upd_ne _ _ e]; exact h.bd j hj
  · by_cases e : j = who
    · subst e
      rw [upd_same]
      by_cases e2 : q = v
      · subst e2; rw [ug_set _ _ _ (by omega)]; have := h.near j hj q hq; omega
      · rw [ug_set_ne _ _ _ _ (Ne.symm e2)]; exact h.near j hj q hq
    · rw [upd_ne _ _ e]; exact h.near j hj q hq
  · obtain ⟨own, a, b, c⟩ := h.one q hq
    by_cases e2 : q = v
    · subst e2
      have ho : own = who := by omega
      subst ho
      refine ⟨own, fun j hj hne => by rw [upd_ne _ _ hne]; exact a j hj hne, fun ho => ?_, c⟩
      rw [upd_same, ug_set _ _ _ (by omega)]
      rcases b ho with b | b
      · rcases Int.le_total (ug (us own) q) (vu q) with h | h
        · right; rw [Int.max_eq_right h]; exact Int.le_refl _
        · left; rw [Int.max_eq_left h]; exact b
      · right; rw [Int.max_eq_right b]; exact Int.le_refl _
    · refine ⟨own, fun j hj hne => ?_, fun ho => ?_, c⟩
      · by_cases e : j = who
        · subst e; rw [upd_same, ug_set_ne _ _ _ _ (Ne.symm e2)]; exact a j hj hne
        · rw [upd_ne _ _ e]; exact a j hj hne
      · by_cases e : own = who
        · subst e; rw [upd_same, ug_set_ne _ _ _ _ (Ne.symm e2)]; exact b ho
        · rw [upd_ne _ _ e]; exact b ho
  · rcases h.lst with h0 | ⟨j, hj, h1, h2⟩
    · exact .inl h0
    · refine .inr ⟨j, hj, h1, Int.lt_of_lt_of_le h2 (until_mono n _ _ h.n1 (by have := h.len j hj; omega) ?_ (fun q hq => hold_le j hj q hq))⟩
      by_cases e : j = who
      · subst e; rw [upd_same, List.length_set]
      · rw [upd_ne _ _ e]
/-- At one true time no two hold. -/
theorem LI.apart (h : LI T n vl vu us sl last) {i j : Nat} (hi : i < 3) (hj : j < 3) (hne : i ≠ j) (h1 : T < untilF n (us i)) (h2 : T < untilF n (us j)) : False := by
  have l1 := h.len i hi
  have l2 := h.len j hj
  have h5 := h.n5
  obtain ⟨v, hv, g1, g2⟩ := until_both n (us i) (us j) (T + 1) h.n1 (by omega) (by omega) (by omega) (by omega)
  obtain ⟨own, a, _, _⟩ := h.one v hv
  by_cases e : i = own
  · have := a j hj (by omega); omega
  · have := a i hi e; omega
/-- A stamp that is given is above the last one and the true time; and what holds then. -/
theorem LI.stamp (h : LI T n vl vu us sl last) (who : Nat) (hw : who < 3) (lo hi : Int) (hT : T ≤ hi) :
    LI T n vl vu us (upd sl who (stampP n (us who) (sl who) lo hi []).2.2) last ∧
    ((stampP n (us who) (sl who) lo hi []).2.1 = 0 → last < (stampP n (us who) (sl who) lo hi []).1 ∧ T < (stampP n (us who) (sl who) lo hi []).1 ∧ holdsB n (us who) lo hi = true ∧
      LI T n vl vu us (upd sl who (stampP n (us who) (sl who) lo hi []).2.2) (stampP n (us who) (sl who) lo hi []).1) := by
  have same : LI T n vl vu us (upd sl who (sl who)) last := by
    have e1 : upd sl who (sl who) = sl := by funext j; unfold upd; split <;> simp_all
    rw [e1]; exact h
  have hsrc := h.src who hw
  have hub := h.until_bd hw
  unfold stampP
  split
  case isFalse => exact ⟨same, fun hc => absurd hc (by simp)⟩
  rename_i hs
  split
  case isFalse => exact ⟨same, fun hc => absurd hc (by simp)⟩
  rename_i hh
  split
  · exact ⟨same, fun hc => absurd hc (by simp)⟩
  rename_i hx
  have hx1 : sl who < untilF n (us who) - 1 := by
    rcases Int.lt_or_le (sl who) (untilF n (us who) - 1) with h | h
    · exact h
    · exact absurd ⟨sl who, by simp, h⟩ hx
  have hx2 : hi < untilF n (us who) - 1 := by
    rcases Int.lt_or_le hi (untilF n (us who) - 1) with h | h
    · exact h
    · exact absurd ⟨hi, by simp, h⟩ hx
  obtain ⟨s1, s2, s3⟩ := isSpan_iff.1 hs
  have hm : mxl (max (sl who) hi) [] = max (sl who) hi := rfl
  unfold nextP
  rw [if_pos hs, hm, if_neg (by omega)]
  dsimp only
  have hgt : last < max (sl who) hi + 1 := by
    rcases h.lst with h0 | ⟨j, hj, g1, g2⟩
    · omega
    · by_cases e : j = who
      · subst e; omega
      · rcases Int.lt_or_le T (untilF n (us j)) with hc | hc
        · exact (h.apart hj hw e hc (by omega)).elim
        · omega
  refine ⟨⟨h.n1, h.n5, h.t0, h.tm, h.len, h.bd, h.near, h.one, h.vnear, h.vbd, fun j hj => ?_, ?_⟩, fun _ => ⟨hgt, by omega, hh, ⟨h.n1, h.n5, h.t0, h.tm, h.len, h.bd, h.near, h.one, h.vnear, h.vbd, fun j hj => ?_, ?_⟩⟩⟩
  · by_cases e : j = who
    · subst e; rw [upd_same]; omega
    · rw [upd_ne _ _ e]; exact h.src j hj
  · rcases h.lst with h0 | ⟨j, hj, g1, g2⟩
    · exact .inl h0
    · refine .inr ⟨j, hj, ?_, g2⟩
      by_cases e : j = who
      · subst e; rw [upd_same]; omega
      · rw [upd_ne _ _ e]; exact g1
  · by_cases e : j = who
    · subst e; rw [upd_same]; omega
    · rw [upd_ne _ _ e]; exact h.src j hj
  · exact .inr ⟨who, hw, by rw [upd_same]; exact Int.le_refl _, by omega⟩
end
end Go.Proofs.Ytjgbandmjamcaaa

/- Contracts: the document's clock. -/
import Derived.Test.YtjgbandmjamcaaaClkE
import Derived.Test.YtjgbandmjamcaaaProdC
namespace Go.Proofs.Ytjgbandmjamcaaa
open Go.RowKit

/-- A reading that was taken. -/
structure TakD where
  h : Int
  set : Bool
  t : Int
  e : Int
  floor : Int
def TakD.cells (x : TakD) : List Value := [.int .i64 x.h, .bool x.set, .int .i64 x.t, .int .i64 x.e, .int .i64 x.floor]
def taks (ts : List TakD) : List Value := ts.flatMap TakD.cells
abbrev Tl (ok : Nat → Prop) (w : World) (v : Value) (ts : List TakD) : Prop := Sl ok w 5 v ts.length (taks ts)
theorem taks_len (ts : List TakD) : (taks ts).length = ts.length * 5 := by
  induction ts with
  | nil => rfl
  | cons x ts ih =>
    unfold taks at ih ⊢
    rw [List.flatMap_cons, List.length_append, ih, List.length_cons]
    show 5 + _ = _
    omega
theorem taks_snoc (ts : List TakD) (x : TakD) : taks ts ++ x.cells = taks (ts ++ [x]) := by simp [taks]
theorem flat5t {α : Type} (f : α → List Value) (hf : ∀ c, (f c).length = 5) : ∀ (l : List α) (i j : Nat), j < 5 → (l.flatMap f)[i * 5 + j]? = (l[i]?).bind fun c => (f c)[j]? := by
  intro l
  induction l with
  | nil => intro i j _; simp
  | cons c l ih =>
    intro i j hj
    rw [List.flatMap_cons]
    cases i with
    | zero =>
      rw [Nat.zero_mul, Nat.zero_add, List.getElem?_append_left (by rw [hf]; exact hj)]
      rfl
    | succ i =>
      rw [List.getElem?_append_right (by rw [hf]; omega), hf, show (i + 1) * 5 + j - 5 = i * 5 + j from by omega, ih i j hj]
      rfl
theorem taks_get (ts : List TakD) (i j : Nat) (hj : j < 5) : (taks ts)[i * 5 + j]? = (ts[i]?).bind fun x => x.cells[j]? := flat5t _ (fun _ => rfl) ts i j hj
theorem taks_one (ts : List TakD) : ∀ u ∈ taks ts, u.oneCell' = true := by
  intro u hu
  obtain ⟨x, _, hx⟩ := List.mem_flatMap.1 hu
  simp only [TakD.cells, List.mem_cons, List.not_mem_nil, or_false] at hx
  rcases hx with rfl | rfl | rfl | rfl | rfl <;> rfl
def lastH (ts : List TakD) : Int := (ts[ts.length - 1]?.map TakD.h).getD 0
def atF (ts : List TakD) : Nat → Int
  | 0 => -1
  | k + 1 => if (ts[k]?.map TakD.set).getD false = true then (k : Int) else atF ts k
def flF (ts : List TakD) : Nat → Int
  | 0 => 0
  | k + 1 => max (flF ts k) ((ts[k]?.map TakD.floor).getD 0)
/-- What was taken is what the clock knows. -/
structure TRel (ts : List TakD) (c : ClkD) : Prop where
  ok : c.ok
  last : lastH ts = c.last
  floor : flF ts ts.length = c.floor
  none : c.set = false → atF ts ts.length = -1
  some_ : c.set = true → ∃ (k : Nat) (x : TakD), atF ts ts.length = k ∧ ts[k]? = some x ∧ x.h = c.at_ ∧ x.t = c.time ∧ x.e = c.width
theorem atF_append (ts : List TakD) (x : TakD) : ∀ k, k ≤ ts.length → atF (ts ++ [x]) k = atF ts k := by
  intro k
  induction k with
  | zero => intro _; rfl
  | succ k ih =>
    intro hk
    unfold atF
    rw [ih (by omega), List.getElem?_append_left (by omega)]
theorem flF_append (ts : List TakD) (x : TakD) : ∀ k, k ≤ ts.length → flF (ts ++ [x]) k = flF ts k := by
  intro k
  induction k with
  | zero => intro _; rfl
  | succ k ih =>
    intro hk
    unfold flF
    rw [ih (by omega), List.getElem?_append_left (by omega)]
theorem atF_snoc (ts : List TakD) (x : TakD) : atF (ts ++ [x]) (ts ++ [x]).length = if x.set = true then (ts.length : Int) else atF ts ts.length := by
  rw [List.length_append, List.length_singleton]
  show (if ((ts ++ [x])[ts.length]?.map TakD.set).getD false = true then (ts.length : Int) else atF (ts ++ [x]) ts.length) = _
  rw [atF_append _ _ _ (Nat.le_refl _)]
  simp
theorem flF_snoc (ts : List TakD) (x : TakD) : flF (ts ++ [x]) (ts ++ [x]).length = max (flF ts ts.length) x.floor := by
  rw [List.length_append, List.length_singleton]
  show max (flF (ts ++ [x]) ts.length) (((ts ++ [x])[ts.length]?.map TakD.floor).getD 0) = _
  rw [flF_append _ _ _ (Nat.le_refl _)]
  simp
theorem lastH_snoc (ts : List TakD) (x : TakD) : lastH (ts ++ [x]) = x.h := by
  unfold lastH
  simp
theorem atF_lt (ts : List TakD) : ∀ k, atF ts k < k ∧ -1 ≤ atF ts k := by
  intro k
  induction k with
  | zero => exact ⟨by show (-1 : Int) < 0; omega, by show (-1 : Int) ≤ -1; omega⟩
  | succ k ih =>
    unfold atF
    split <;> omega
theorem TRel.set_ {ts : List TakD} {c : ClkD} (h : TRel ts c) (hh t e : Int) : TRel (if setErr c hh t e = 0 then ts ++ [⟨hh, true, t, e, 0⟩] else ts) (setClk c hh t e) := by
  unfold setClk
  by_cases h0 : setErr c hh t e = 0
  · rw [if_pos h0, if_pos h0]
    obtain ⟨h1, h2, h3, h4⟩ := setErr_ok h0
    obtain ⟨k0, k1, k2, k3, k4, k5, k6⟩ := h.ok
    have b1 := isTime_iff.1 h1
    have b5 := isTime_iff.1 k5
    refine ⟨⟨b1.1, Int.le_refl _, b1.2, h2, h3, k5, k6⟩, by rw [lastH_snoc], ?_, (fun hc => by cases hc), fun _ => ⟨ts.length, ⟨hh, true, t, e, 0⟩, by rw [atF_snoc]; rfl, by simp, rfl, rfl, rfl⟩⟩
    rw [flF_snoc, h.floor]
    show max c.floor 0 = c.floor
    omega
  · rw [if_neg h0, if_neg h0]; exact h
theorem TRel.now_ {ts : List TakD} {c : ClkD} (h : TRel ts c) (hh : Int) (hlo : nowErr c hh = 0 → isTime (nowLo c hh) = true ∧ c.floor ≤ nowLo c hh) : TRel (if nowErr c hh = 0 then ts ++ [⟨hh, false, 0, 0, nowLo c hh⟩] else ts) (nowClk c hh) := by
  unfold nowClk
  by_cases h0 : nowErr c hh = 0
  · rw [if_pos h0, if_pos h0]
    obtain ⟨h1, h2, h3, h4⟩ := nowErr_ok h0
    obtain ⟨k0, k1, k2, k3, k4, k5, k6⟩ := h.ok
    obtain ⟨g1, g2⟩ := hlo h0
    have b1 := isTime_iff.1 h1
    refine ⟨⟨k0, Int.le_trans k1 h3, b1.2, k3, k4, g1, k6⟩, by rw [lastH_snoc], ?_, (fun hc => by cases hc), fun _ => ?_⟩
    · rw [flF_snoc, h.floor]
      show max c.floor (nowLo c hh) = nowLo c hh
      omega
    · obtain ⟨k, x, e1, e2, e3, e4, e5⟩ := h.some_ h2
      have hk : k < ts.length := (List.getElem?_eq_some_iff.1 e2).1
      exact ⟨k, x, by rw [atF_snoc]; exact e1, by rw [List.getElem?_append_left hk]; exact e2, e3, e4, e5⟩
  · rw [if_neg h0, if_neg h0]; exact h
end Go.Proofs.Ytjgbandmjamcaaa

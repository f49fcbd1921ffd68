/- A region that draws its order, walked with a condition on the world that need hold only till given late operations have come up. -/
import Derived.Test.YtjgbandmjamcaaaBase
import Derived.OrdersHeld
import Derived.Deep.DrawnRows
namespace Go.Proofs.Ytjgbandmjamcaaa
open Go.RowKit

/-- Has one of D come up? -/
def late (D : List Nat) (listed : Array Bool) : Bool := D.any fun d => listed.getD d false
/-- Each operation of D waits for number i. -/
def waits (md : Region.Mode) (ops : Array Oper) (D : List Nat) (i : Nat) : Bool :=
  D.all fun d => d != i && match ops[d]? with
    | some o => o.after.any fun e => Region.binds md e && e.on == i
    | none => false

section
variable {P : Program} {ops : Array Oper} {Q : Exit → Act → World → Prop} {md : Region.Mode} {D : List Nat} {S : World → Prop}

/-- Whatever order is picked from here on; and S holds behind each operation that is carried out, as long as none of D has come up. -/
def wpD (P : Program) (md : Region.Mode) (ops : Array Oper) (Q : Exit → Act → World → Prop) (D : List Nat) (S : World → Prop) : Nat → Array Bool → Act → World → Prop
  | 0, listed, a, w => Region.ready md ops listed = [] ∧ Q .normal a w
  | fuel + 1, listed, a, w =>
    (Region.ready md ops listed = [] → Q .normal a w) ∧
    ∀ i ∈ Region.ready md ops listed, wpOp P ops Q i (fun a' w' => (late D (listed.setIfInBounds i true) = false → S w') ∧ wpD P md ops Q D S fuel (listed.setIfInBounds i true) a' w') a w

theorem wpAny_of_D : ∀ (fuel : Nat) (listed : Array Bool) (a : Act) (w : World), wpD P md ops Q D S fuel listed a w → wpAny P md ops Q fuel listed a w
  | 0, _, _, _, h => h
  | fuel + 1, _, _, _, h => ⟨h.1, fun i hi => wpOp_mono (fun a' w' h' => wpAny_of_D fuel _ a' w' h'.2) (h.2 i hi)⟩

theorem late_set {listed : Array Bool} {i : Nat} (h : late D listed = false) (hi : i ∉ D) : late D (listed.setIfInBounds i true) = false := by
  unfold late at *
  rw [List.any_eq_false] at *
  intro d hd
  have hne : i ≠ d := by rintro rfl; exact hi hd
  rw [getD_set_ne false hne]
  exact h d hd

theorem late_back {listed : Array Bool} {i : Nat} (h : late D (listed.setIfInBounds i true) = false) : late D listed = false := by
  unfold late at *
  rw [List.any_eq_false] at *
  intro d hd hc
  refine h d hd ?_
  rcases Nat.lt_or_ge d listed.size with hlt | hge
  · by_cases he : i = d
    · subst he; simp [hlt]
    · rw [getD_set_ne false he]; exact hc
  · rw [Array.getD_eq_getD_getElem?, Array.getElem?_eq_none hge] at hc
    cases hc

theorem waits_not {i j : Nat} {listed : Array Bool} (hw : waits md ops D i = true) (hj : j ∈ Region.ready md ops listed) (hun : listed.getD i true = false) : j ∉ D := by
  intro hd
  have h := List.all_eq_true.1 hw j hd
  simp only [Bool.and_eq_true] at h
  obtain ⟨_, oj, hoj, hall⟩ := mem_ready.1 hj
  rw [hoj] at h
  obtain ⟨e, he, hb⟩ := Array.any_eq_true'.1 h.2
  simp only [Bool.and_eq_true, beq_iff_eq] at hb
  have h1 := hall e he hb.1
  rw [hb.2] at h1
  rcases Nat.lt_or_ge i listed.size with h' | h'
  · simp [h'] at hun h1; rw [hun] at h1; cases h1
  · simp [Array.getElem?_eq_none h'] at h1
theorem waits_self {i : Nat} (hw : waits md ops D i = true) : i ∉ D := by
  intro hd
  have h := List.all_eq_true.1 hw i hd
  simp at h

/-- An operation that may come up now may be taken first, if it yields its value in every world that meets S, each of D waits for it, and every other operation waits for it or is apart from it. -/
theorem wpD_first {i : Nat} {oi : Oper} {v : Value} (hi : ops[i]? = some oi) (hsel : ∀ (j : Nat) (o : Oper) cs b, ops[j]? = some o → o.op ≠ .select cs b)
    (hQ : ∀ c a w, Q (.panic c) (a.put oi.dst v) w → Q (.panic c) a w) (hD : waits md ops D i = true) :
    ∀ (fuel : Nat) (listed : Array Bool) (a : Act) (w : World),
      (∀ j oj, ops[j]? = some oj → j ≠ i → listed.getD j true = false → (∀ e ∈ oj.after, Region.binds md e = true → e.on ≠ i) → oi.apart ops oj = true) →
      i ∈ Region.ready md ops listed → YieldsIf P ops S oi v a → late D listed = false → S w →
      wpD P md ops Q D S fuel (listed.setIfInBounds i true) (a.put oi.dst v) w → wpD P md ops Q D S (fuel + 1) listed a w := by
  intro fuel
  induction fuel with
  | zero =>
    intro listed a w _ hr hy _ hS H
    refine ⟨fun h => (by rw [h] at hr; cases hr), fun j hj => ?_⟩
    by_cases hji : j = i
    · subst hji; exact hy.wpOp hi hS ⟨fun _ => hS, H⟩
    · have := ready_mono hj hji
      rw [H.1] at this
      cases this
  | succ fuel ih =>
    intro listed a w hfree hr hy hl hS H
    refine ⟨fun h => (by rw [h] at hr; cases hr), fun j hj => ?_⟩
    by_cases hji : j = i
    · subst hji; exact hy.wpOp hi hS ⟨fun _ => hS, H⟩
    · have h1 := H.2 j (ready_mono hj hji)
      obtain ⟨hjun, oj, hoj, hall⟩ := mem_ready.1 hj
      have hun := (mem_ready.1 hr).1
      have hnot : ∀ e ∈ oj.after, Region.binds md e = true → e.on ≠ i := fun e he hb heq => by
        have h1 := hall e he hb
        have h0 := (mem_ready.1 hr).1
        rw [heq] at h1
        rcases Nat.lt_or_ge i listed.size with h' | h'
        · simp [h'] at h0 h1; rw [h0] at h1; cases h1
        · simp [Array.getElem?_eq_none h'] at h1
      have hjD := waits_not hD hj hun
      have hlj := late_set hl hjD
      have hlij := late_set (late_set hl (waits_self hD)) hjD
      have h2 := wpOp_putIf hoj (hfree j oj hoj hji hjun hnot) (fun cs b => hsel i oi cs b hi) (fun cs b => hsel j oj cs b hoj) hQ hy h1
      have hfree' : ∀ k ok, ops[k]? = some ok → k ≠ i → (listed.setIfInBounds j true).getD k true = false →
          (∀ e ∈ ok.after, Region.binds md e = true → e.on ≠ i) → oi.apart ops ok = true := fun k ok hk hki hun hno => by
        refine hfree k ok hk hki ?_ hno
        by_cases hjk : j = k
        · subst hjk; exact hjun
        · rw [getD_set_ne true hjk] at hun; exact hun
      refine wpOp_mono (fun a' w' h3 => ⟨fun _ => h3.2.1 hlij, ih (listed.setIfInBounds j true) a' w' hfree' (ready_mono hr (Ne.symm hji)) h3.1 hlj (h3.2.1 hlij) ?_⟩) h2
      rw [Array.setIfInBounds_comm _ _ hji]
      exact h3.2.2

/-- An operation that looks at no world may be taken first, if none waits for it but .. or is apart from it. -/
theorem wpD_firstP {i : Nat} {oi : Oper} {v : Value} (hi : ops[i]? = some oi) (hsel : ∀ (j : Nat) (o : Oper) cs b, ops[j]? = some o → o.op ≠ .select cs b)
    (hQ : ∀ c a w, Q (.panic c) (a.put oi.dst v) w → Q (.panic c) a w) (hD : i ∉ D) :
    ∀ (fuel : Nat) (listed : Array Bool) (a : Act) (w : World),
      (∀ j oj, ops[j]? = some oj → j ≠ i → listed.getD j true = false → (∀ e ∈ oj.after, Region.binds md e = true → e.on ≠ i) → oi.apart ops oj = true) →
      i ∈ Region.ready md ops listed → YieldsIf P ops (fun _ => True) oi v a → (late D listed = false → S w) →
      wpD P md ops Q D S fuel (listed.setIfInBounds i true) (a.put oi.dst v) w → wpD P md ops Q D S (fuel + 1) listed a w := by
  intro fuel
  induction fuel with
  | zero =>
    intro listed a w _ hr hy hS H
    refine ⟨fun h => (by rw [h] at hr; cases hr), fun j hj => ?_⟩
    by_cases hji : j = i
    · subst hji; exact hy.wpOp hi trivial ⟨fun h => hS (late_back h), H⟩
    · have := ready_mono hj hji
      rw [H.1] at this
      cases this
  | succ fuel ih =>
    intro listed a w hfree hr hy hS H
    refine ⟨fun h => (by rw [h] at hr; cases hr), fun j hj => ?_⟩
    by_cases hji : j = i
    · subst hji; exact hy.wpOp hi trivial ⟨fun h => hS (late_back h), H⟩
    · have h1 := H.2 j (ready_mono hj hji)
      obtain ⟨hjun, oj, hoj, hall⟩ := mem_ready.1 hj
      have hnot : ∀ e ∈ oj.after, Region.binds md e = true → e.on ≠ i := fun e he hb heq => by
        have h1 := hall e he hb
        have h0 := (mem_ready.1 hr).1
        rw [heq] at h1
        rcases Nat.lt_or_ge i listed.size with h' | h'
        · simp [h'] at h0 h1; rw [h0] at h1; cases h1
        · simp [Array.getElem?_eq_none h'] at h1
      have hup : late D (listed.setIfInBounds j true) = false → late D ((listed.setIfInBounds i true).setIfInBounds j true) = false := fun h => by
        rw [Array.setIfInBounds_comm _ _ (Ne.symm hji)]
        exact late_set h hD
      have h2 := wpOp_putIf hoj (hfree j oj hoj hji hjun hnot) (fun cs b => hsel i oi cs b hi) (fun cs b => hsel j oj cs b hoj) hQ hy h1
      have hfree' : ∀ k ok, ops[k]? = some ok → k ≠ i → (listed.setIfInBounds j true).getD k true = false →
          (∀ e ∈ ok.after, Region.binds md e = true → e.on ≠ i) → oi.apart ops ok = true := fun k ok hk hki hun hno => by
        refine hfree k ok hk hki ?_ hno
        by_cases hjk : j = k
        · subst hjk; exact hjun
        · rw [getD_set_ne true hjk] at hun; exact hun
      refine wpOp_mono (fun a' w' h3 => ⟨fun h => h3.2.1 (hup h), ih (listed.setIfInBounds j true) a' w' hfree' (ready_mono hr (Ne.symm hji)) h3.1 (fun h => h3.2.1 (hup h)) ?_⟩) h2
      rw [Array.setIfInBounds_comm _ _ hji]
      exact h3.2.2

theorem free_list {l : List Oper} {i : Nat} {oi : Oper} {listed : Array Bool} (hi : l[i]? = some oi) (hf : Region.free md l.toArray listed i = true) : ∀ j oj, l.toArray[j]? = some oj → j ≠ i → listed.getD j true = false → (∀ e ∈ oj.after, Region.binds md e = true → e.on ≠ i) → oi.apart l.toArray oj = true :=
  Region.free_spec (by rw [List.getElem?_toArray]; exact hi) hf

theorem wpD_take (i : Nat) {l : List Oper} {oi : Oper} {v : Value} {fuel : Nat} {listed : Array Bool} {a : Act} {w : World} (hi : l[i]? = some oi)
    (hs : Region.noSelect l.toArray = true) (hf : Region.free md l.toArray listed i = true) (hr : (Region.ready md l.toArray listed).contains i = true) (hD : waits md l.toArray D i = true) (hl : late D listed = false)
    (hQ : ∀ c a w, Q (.panic c) (a.put oi.dst v) w → Q (.panic c) a w) (hS : S w) (hy : YieldsIf P l.toArray S oi v a)
    (h : wpD P md l.toArray Q D S fuel (listed.setIfInBounds i true) (a.put oi.dst v) w) : wpD P md l.toArray Q D S (fuel + 1) listed a w :=
  wpD_first (by rw [List.getElem?_toArray]; exact hi) (Region.noSelect_spec hs) hQ hD fuel listed a w (free_list hi hf) (by simpa using hr) hy hl hS h
theorem wpD_takeP (i : Nat) {l : List Oper} {oi : Oper} {v : Value} {fuel : Nat} {listed : Array Bool} {a : Act} {w : World} (hi : l[i]? = some oi)
    (hs : Region.noSelect l.toArray = true) (hf : Region.free md l.toArray listed i = true) (hr : (Region.ready md l.toArray listed).contains i = true) (hD : D.contains i = false)
    (hQ : ∀ c a w, Q (.panic c) (a.put oi.dst v) w → Q (.panic c) a w) (hS : late D listed = false → S w) (hy : YieldsIf P l.toArray (fun _ => True) oi v a)
    (h : wpD P md l.toArray Q D S fuel (listed.setIfInBounds i true) (a.put oi.dst v) w) : wpD P md l.toArray Q D S (fuel + 1) listed a w :=
  wpD_firstP (by rw [List.getElem?_toArray]; exact hi) (Region.noSelect_spec hs) hQ (by simpa using hD) fuel listed a w (free_list hi hf) (by simpa using hr) hy hS h

theorem yields_if {o : Oper} {v : Value} {a : Act} (hw : Region.wanted o (yielded ops a.tmps) = true) (h : ∀ w, S w → (execOp a.eval o).run P w = .ok (.value v) w) : YieldsIf P ops S o v a := .inl ⟨hw, h⟩
theorem yields_any {o : Oper} {v : Value} {a : Act} (hw : Region.wanted o (yielded ops a.tmps) = true) (h : ∀ w, (execOp a.eval o).run P w = .ok (.value v) w) : YieldsIf P ops (fun _ => True) o v a := .inl ⟨hw, fun w _ => h w⟩
theorem yields_not {o : Oper} {a : Act} (hw : Region.wanted o (yielded ops a.tmps) = false) : YieldsIf P ops S o undef a := .inr ⟨hw, rfl⟩
theorem late_yes {listed : Array Bool} {p : Prop} (h : late D listed = true) : late D listed = false → p := fun h' => by rw [h] at h'; cases h'
theorem np_intro {a : Act} {w : World} (h : Q .normal a w) : NoPanic Q .normal a w := h

/-- Each of rs comes up next. -/
def AllD (P : Program) (md : Region.Mode) (ops : Array Oper) (Q : Exit → Act → World → Prop) (D : List Nat) (S : World → Prop) (fuel : Nat) (listed : Array Bool) (a : Act) (w : World) (rs : List Nat) : Prop :=
  ∀ i ∈ rs, wpOp P ops Q i (fun a' w' => (late D (listed.setIfInBounds i true) = false → S w') ∧ wpD P md ops Q D S fuel (listed.setIfInBounds i true) a' w') a w
theorem AllD.nil {fuel : Nat} {listed : Array Bool} {a : Act} {w : World} : AllD P md ops Q D S fuel listed a w [] := fun _ h => by cases h
theorem AllD.cons {l : List Oper} {fuel : Nat} {listed : Array Bool} {a : Act} {w : World} (i : Nat) {o : Oper} {rs : List Nat} (ho : l[i]? = some o)
    (h : ∀ K' : Act → World → Prop, Shut (∀ a w, (late D (listed.setIfInBounds i true) = false → S w) → wpD P md l.toArray Q D S fuel (listed.setIfInBounds i true) a w → K' a w) → if Region.wanted o (yielded l.toArray a.tmps) = true then Oper.wp P o a w K' Q else K' (a.put o.dst undef) w)
    (hs : AllD P md l.toArray Q D S fuel listed a w rs) : AllD P md l.toArray Q D S fuel listed a w (i :: rs) := fun j hj => by
  rcases List.mem_cons.1 hj with rfl | hj
  · exact wpOp_step (by rw [List.getElem?_toArray]; exact ho) (fun K' hK => h K' (fun a w hS hW => hK a w ⟨hS, hW⟩))
  · exact hs j hj
theorem wpD_ready (rs : List Nat) {fuel : Nat} {listed : Array Bool} {a : Act} {w : World} (hr : Region.ready md ops listed = rs) (hne : rs ≠ [])
    (h : AllD P md ops Q D S fuel listed a w rs) : wpD P md ops Q D S (fuel + 1) listed a w := ⟨fun h0 => absurd (hr ▸ h0) hne, hr ▸ h⟩
theorem wpD_done {listed : Array Bool} {a : Act} {w : World} (hr : Region.ready md ops listed = []) (h : Q .normal a w) : ∀ fuel, wpD P md ops Q D S fuel listed a w
  | 0 => ⟨hr, h⟩
  | _ + 1 => ⟨fun _ => h, by rw [hr]; simp⟩
/-- The beginning. A post that may hang on the frame at a panic: none comes. -/
theorem wp_region_D {id : Nat} {a : Act} {w : World} (D : List Nat) (S : World → Prop) (hm : P.follows .mixedOrders = true) (hS : S w.drew)
    (h : S w.drew → wpD P .any ops (NoPanic Q) D S ops.size (Array.replicate ops.size false) a w.drew) : (Code.region id ops true).wp P Q a w :=
  wp_region_noPanic (wp_region_any hm (wpAny_of_D _ _ _ _ (h hS)))
theorem hold_step {fuel : Nat} {listed : Array Bool} {a : Act} {w : World} {K' : Act → World → Prop} (hK : Shut (∀ a w, (late D listed = false → S w) → wpD P md ops Q D S fuel listed a w → K' a w)) (hS : S w) (h : S w → wpD P md ops Q D S fuel listed a w) : K' a w := hK.out a w (fun _ => hS) (h hS)
theorem late_step {fuel : Nat} {listed : Array Bool} {a : Act} {w : World} {K' : Act → World → Prop} (hK : Shut (∀ a w, (late D listed = false → S w) → wpD P md ops Q D S fuel listed a w → K' a w)) (hl : late D listed = true) (h : wpD P md ops Q D S fuel listed a w) : K' a w := hK.out a w (late_yes hl) h
end
end Go.Proofs.Ytjgbandmjamcaaa

/- What an argument that can be read looks like in memory: integers, bools, floats, slices, structs, arrays; for the laws' rows. -/
import Derived.Test.YtjgbandmjamcaaaBase
import Derived.ProofKit
import Derived.OpenShut
import Derived.ChangeOld
import Derived.SizedLaws
import Derived.Deep.Slices
namespace Go.Proofs.Ytjgbandmjamcaaa
open Go.RowKit Go.ChangeShapes Go.WideShapes Go.ChangeAt

/-- The cells cs can be read as a value of type t. -/
def Rd (w : World) (t : TypeId) (cs : List Value) : Prop :=
  ∃ (H : Type) (enc : TypeId × Value → H) (base : Nat) (spare : Nat → Bool) (held : Bool) (fuel : Nat) (x : DataW H × List MemPlace), DataW.trod enc Try.prog w base spare held fuel t cs = some x
section
variable {w : World} {t : TypeId} {cs : List Value}
theorem Rd.int_ {k : IntKind} (h : Rd w t cs) (hu : Try.prog.underlying t = some (.int k)) : ∃ n, cs = [.int k n] ∧ (Lit.int k n).wf = true := by
  obtain ⟨H, enc, base, spare, held, fuel, x, hx⟩ := h
  obtain ⟨n, e, _, hw⟩ := DataW.trod_int hu hx
  exact ⟨n, e, hw⟩
theorem Rd.i64_ (h : Rd w t cs) (hu : Try.prog.underlying t = some (.int .i64)) : ∃ n, cs = [.int .i64 n] ∧ -9223372036854775808 ≤ n ∧ n ≤ 9223372036854775807 := by
  obtain ⟨n, e, hw⟩ := h.int_ hu
  refine ⟨n, e, ?_⟩
  simp only [Lit.wf, Bool.and_eq_true, decide_eq_true_eq] at hw
  exact ⟨hw.1, hw.2⟩
theorem Rd.bool_ (h : Rd w t cs) (hu : Try.prog.underlying t = some .bool) : ∃ b, cs = [.bool b] := by
  obtain ⟨H, enc, base, spare, held, fuel, x, hx⟩ := h
  obtain ⟨n, e, _⟩ := DataW.trod_bool hu hx
  exact ⟨n, e⟩
theorem Rd.float_ {k : FloatKind} (h : Rd w t cs) (hu : Try.prog.underlying t = some (.float k)) : ∃ b, cs = [.float k b] ∧ (Lit.float k b).wf = true := by
  obtain ⟨H, enc, base, spare, held, fuel, x, hx⟩ := h
  cases fuel with
  | zero => simp [DataW.trod] at hx
  | succ n =>
    unfold DataW.trod at hx
    rw [hu] at hx
    split at hx <;> simp_all
theorem Rd.struct_ {fs : Array Field} (h : Rd w t cs) (hu : Try.prog.underlying t = some (.struct fs)) : cs.length = Try.prog.cellsOf t ∧ ∀ (i : Nat) (f : Field), fs[i]? = some f → Rd w f.type ((cs.drop f.offset).take (Try.prog.cellsOf f.type)) := by
  obtain ⟨H, enc, base, spare, held, fuel, x, hx⟩ := h
  obtain ⟨xs, n, rfl, rfl, hl, hs, hf⟩ := DataW.trod_struct hu hx
  refine ⟨hl, fun i f hi => ?_⟩
  have hlt : i < xs.length := by rw [hs]; exact (Array.getElem?_eq_some_iff.1 hi).1
  exact ⟨H, enc, base, spare, held, n, xs[i], by rw [hf i f hi, List.getElem?_eq_getElem hlt]⟩
theorem Rd.field {fs : Array Field} (h : Rd w t cs) (hu : Try.prog.underlying t = some (.struct fs)) (i ty off n : Nat) (hi : (fs[i]?).map (fun f => (f.type, f.offset)) = some (ty, off)) (hc : Try.prog.cellsOf ty = n) : Rd w ty ((cs.drop off).take n) := by
  obtain ⟨f, hf, e⟩ := Option.map_eq_some_iff.1 hi
  have h1 := (h.struct_ hu).2 i f hf
  injection e with e1 e2
  rw [e1, e2, hc] at h1
  exact h1
theorem mapM_get {α β : Type} {f : α → Option β} : ∀ {l : List α} {ys : List β}, l.mapM f = some ys → ∀ (i : Nat) (x : α), l[i]? = some x → ∃ y, f x = some y ∧ ys[i]? = some y := by
  intro l
  induction l with
  | nil => intro ys _ i x hx; simp at hx
  | cons a l ih =>
    intro ys h i x hx
    simp only [List.mapM_cons, Option.bind_eq_bind, Option.bind_eq_some_iff, Option.pure_def, Option.some.injEq] at h
    obtain ⟨y, hy, zs, hz, rfl⟩ := h
    cases i with
    | zero => simp at hx; subst hx; exact ⟨y, hy, rfl⟩
    | succ i => exact ih hz i x (by simpa using hx)
theorem mapM_len {α β : Type} {f : α → Option β} : ∀ {l : List α} {ys : List β}, l.mapM f = some ys → ys.length = l.length := by
  intro l
  induction l with
  | nil => intro ys h; simp at h; subst h; rfl
  | cons a l ih =>
    intro ys h
    simp only [List.mapM_cons, Option.bind_eq_bind, Option.bind_eq_some_iff, Option.pure_def, Option.some.injEq] at h
    obtain ⟨y, hy, zs, hz, rfl⟩ := h
    simp [ih hz]
theorem Rd.array_ {n : Nat} {e : TypeId} (h : Rd w t cs) (hu : Try.prog.underlying t = some (.array n e)) : cs.length = Try.prog.cellsOf t ∧ ∀ i, i < n → Rd w e ((cs.drop (i * Try.prog.cellsOf e)).take (Try.prog.cellsOf e)) := by
  obtain ⟨H, enc, base, spare, held, fuel, x, hx⟩ := h
  cases fuel with
  | zero => simp [DataW.trod] at hx
  | succ m =>
    unfold DataW.trod at hx
    rw [hu] at hx
    by_cases hl : cs.length = Try.prog.cellsOf t
    · refine ⟨hl, fun i hi => ?_⟩
      simp only [hl, if_true] at hx
      obtain ⟨xs, h1, _⟩ := Option.map_eq_some_iff.1 hx
      obtain ⟨y, hy, _⟩ := mapM_get h1 i i (by simp [hi])
      exact ⟨H, enc, base, spare, held, m, y, hy⟩
    · simp [hl] at hx
/-- A slice that can be read: its rows, each of which can be read. -/
theorem Rd.slice_ {e : TypeId} (h : Rd w t cs) (hu : Try.prog.underlying t = some (.slice e)) (size : Nat) (hc : Try.prog.cellsOf e = size) (hsz : 0 < size) :
    ∃ (v : Value) (rows : List (List Value)), cs = [v] ∧ Sl (fun k => k < w.heap.size) w size v rows.length rows.flatten ∧ ∀ r ∈ rows, r.length = size ∧ Rd w e r := by
  obtain ⟨H, enc, base, spare, held, fuel, x, hx⟩ := h
  rcases Go.Deep.open_slice hu hx with ⟨rfl, _⟩ | ⟨a, len, cap, m, n, D, Pl, rfl, hb, hl, hm, hmm, _, hel⟩
  · exact ⟨.slice none 0 0, [], rfl, Sl.nil _ _ _, by simp⟩
  · simp only [hc] at hel
    have hlm : len ≤ m := by rw [hmm]; split <;> omega
    have hch : ∀ i : Nat, ∃ cs' : List Value, i < len → w.cells? base (a.add (i * size)) (size) = some cs' ∧ DataW.trod enc Try.prog w base spare held n e cs' = some (D i, Pl i) := by
      intro i
      by_cases hi : i < len
      · obtain ⟨cs', h1, h2⟩ := hel i (by omega)
        exact ⟨cs', fun _ => ⟨h1, h2⟩⟩
      · exact ⟨[], fun h => absurd h hi⟩
    obtain ⟨R, hR⟩ := Classical.axiomOfChoice hch
    have hcell : ∀ i, i < len → ∀ j, j < size → w.cell? ((a.add (i * size)).add j) = (R i)[j]? := by
      intro i hi j hj
      have h1 := (hR i hi).1
      unfold World.cells? at h1
      split at h1
      · obtain ⟨y, hy, hz⟩ := mapM_get h1 j j (by simp [hj])
        rw [hy, hz]
      · cases h1
    have hlen : ∀ i, i < len → (R i).length = size := by
      intro i hi
      have h1 := (hR i hi).1
      unfold World.cells? at h1
      split at h1
      · rw [mapM_len h1, List.length_range]
      · cases h1
    have haa : ∀ i j, i < len → j < size → (a.add (i * size)).add j = ⟨a.block, a.off + (i * size + j), none⟩ := by
      intro i j hi hj
      have hspot : a.spot = none := by
        have h0 := hcell 0 (by omega) 0 hsz
        simp only [Nat.zero_mul] at h0
        have e0 : (a.add 0).add 0 = a := by simp [Addr.add]
        rw [e0] at h0
        have hs : (R 0)[0]? ≠ none := by simp [hlen 0 (by omega)]; omega
        cases hsp : a.spot with
        | none => rfl
        | some s =>
          exfalso
          apply hs
          rw [← h0]
          unfold World.cell?
          split
          · simp [hsp]
          · rfl
      unfold Addr.add
      by_cases h1 : i * size = 0 <;> by_cases h2 : j = 0 <;> simp [h1, h2, Nat.add_assoc]
      cases a
      simp_all
    refine ⟨.slice (some a) len cap, (List.range len).map R, rfl, ?_, ?_⟩
    · have hfl : ∀ (l : List Nat), (∀ i ∈ l, i < len) → ((l.map R).flatten).length = l.length * size := by
        intro l
        induction l with
        | nil => simp
        | cons i l ih =>
          intro hl
          rw [List.map_cons, List.flatten_cons, List.length_append, hlen i (hl i (by simp)), ih (fun k hk => hl k (by simp [hk])), List.length_cons, Nat.add_mul]
          omega
      have hget : ∀ (m : Nat), m ≤ len → ∀ j u, (((List.range m).map R).flatten)[j]? = some u → ∃ i q, i < m ∧ q < size ∧ j = i * size + q ∧ (R i)[q]? = some u := by
        intro m
        induction m with
        | zero => intro _ j u hu; simp at hu
        | succ m ih =>
          intro hm j u hu
          rw [List.range_succ, List.map_append, List.flatten_append] at hu
          have hl1 := hfl (List.range m) (fun i hi => by have := List.mem_range.1 hi; omega)
          rw [List.length_range] at hl1
          by_cases hj : j < m * size
          · rw [List.getElem?_append_left (by rw [hl1]; exact hj)] at hu
            obtain ⟨i, q, h1, h2, h3, h4⟩ := ih (by omega) j u hu
            exact ⟨i, q, by omega, h2, h3, h4⟩
          · rw [List.getElem?_append_right (by rw [hl1]; omega), hl1] at hu
            simp only [List.map_cons, List.map_nil, List.flatten_cons, List.flatten_nil, List.append_nil] at hu
            have hq := (List.getElem?_eq_some_iff.1 hu).1
            rw [hlen m (by omega)] at hq
            exact ⟨m, j - m * size, by omega, hq, by omega, hu⟩
      refine ⟨by rw [hfl _ (fun i hi => List.mem_range.1 hi)]; simp, some a, cap, by simp, by simpa using hl, hm, fun hn => ⟨a.block, a.off, ?_, ?_, ?_, ?_⟩⟩
      · have h1 := haa 0 0 (by simpa using hn) hsz
        simp [Addr.add] at h1
        exact congrArg some h1
      · have hn' : 0 < len := by simpa using hn
        have h1 := hcell 0 hn' 0 hsz
        rw [haa 0 0 hn' hsz] at h1
        cases hr0 : (R 0)[0]? with
        | none => have h3 := List.getElem?_eq_none_iff.1 hr0; rw [hlen 0 hn'] at h3; omega
        | some u0 => rw [hr0] at h1; exact World.block_lt_of_cell? w ⟨a.block, a.off + (0 * size + 0), none⟩ h1
      · have hn' : 0 < len := by simpa using hn
        have h1 := hcell 0 hn' 0 hsz
        rw [haa 0 0 hn' hsz] at h1
        cases hr0 : (R 0)[0]? with
        | none => have h3 := List.getElem?_eq_none_iff.1 hr0; rw [hlen 0 hn'] at h3; omega
        | some u0 => rw [hr0] at h1; exact World.block_lt_of_cell? w ⟨a.block, a.off + (0 * size + 0), none⟩ h1
      · intro j u hu
        obtain ⟨i, q, h1, h2, rfl, h4⟩ := hget len (Nat.le_refl _) j u hu
        rw [← haa i q h1 h2, hcell i h1 q h2]
        exact h4
    · intro r hr
      obtain ⟨i, hi, rfl⟩ := List.mem_map.1 hr
      have hi' := List.mem_range.1 hi
      exact ⟨hlen i hi', H, enc, base, spare, held, n, _, (hR i hi').2⟩
/-- Rows that parse, one by one. -/
theorem rows_parse {α : Type} (f : α → List Value) (Q : α → Prop) : ∀ (rows : List (List Value)), (∀ r ∈ rows, ∃ c, r = f c ∧ Q c) → ∃ l : List α, rows = l.map f ∧ ∀ c ∈ l, Q c := by
  intro rows
  induction rows with
  | nil => intro _; exact ⟨[], rfl, by simp⟩
  | cons r rows ih =>
    intro h
    obtain ⟨c, rfl, hc⟩ := h r (by simp)
    obtain ⟨l, rfl, hl⟩ := ih (fun r' hr => h r' (by simp [hr]))
    exact ⟨c :: l, rfl, fun d hd => by rcases List.mem_cons.1 hd with rfl | hd; exact hc; exact hl d hd⟩
/-- A slice of structs that can be read. -/
theorem Rd.slices {α : Type} {e : TypeId} (h : Rd w t cs) (hu : Try.prog.underlying t = some (.slice e)) (size : Nat) (hc : Try.prog.cellsOf e = size) (hsz : 0 < size) (f : α → List Value) (Q : α → Prop)
    (hp : ∀ r, r.length = size → Rd w e r → ∃ c, r = f c ∧ Q c) : ∃ (v : Value) (l : List α), cs = [v] ∧ Sl (fun k => k < w.heap.size) w size v l.length (l.flatMap f) ∧ ∀ c ∈ l, Q c := by
  obtain ⟨v, rows, rfl, hs, hr⟩ := h.slice_ hu size hc hsz
  obtain ⟨l, rfl, hq⟩ := rows_parse f Q rows (fun r hr' => hp r (hr r hr').1 (hr r hr').2)
  refine ⟨v, l, rfl, ?_, hq⟩
  rw [List.length_map] at hs
  exact hs
/-- A slice of int64 that can be read. -/
theorem Rd.ints_ {e : TypeId} (h : Rd w t cs) (hu : Try.prog.underlying t = some (.slice e)) (hc : Try.prog.cellsOf e = 1) (he : Try.prog.underlying e = some (.int .i64)) :
    ∃ (v : Value) (xs : List Int), cs = [v] ∧ Il (fun k => k < w.heap.size) w v xs ∧ ∀ x ∈ xs, -9223372036854775808 ≤ x ∧ x ≤ 9223372036854775807 := by
  obtain ⟨v, l, rfl, hs, hq⟩ := h.slices hu 1 hc (by omega) (fun x : Int => [.int .i64 x]) (fun x => -9223372036854775808 ≤ x ∧ x ≤ 9223372036854775807) (fun r _ hr => by
    obtain ⟨n, e, h1, h2⟩ := hr.i64_ he
    exact ⟨n, e, h1, h2⟩)
  refine ⟨v, l, rfl, ?_, hq⟩
  have e : ∀ l : List Int, l.flatMap (fun x : Int => [Value.int .i64 x]) = ints l := by
    intro l
    unfold ints
    induction l with
    | nil => rfl
    | cons a l ih => rw [List.flatMap_cons, ih]; rfl
  rw [e] at hs
  exact hs
end
end Go.Proofs.Ytjgbandmjamcaaa

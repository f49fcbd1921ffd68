/- Words on memory: what a call keeps, blocks known whole, slices that read as lists. -/
import Derived.Test.YtjgbandmjamcaaaRows
import Derived.WalkKit
import Derived.WalkSpells
import Derived.WalkLawsBesides
import Derived.Deep.Draws
import Derived.Deep.AppendLies
import Derived.Deep.LoopGhost
import Derived.Deep.DeepCutAuto
import Derived.Deep.CutBlock
import Derived.Deep.QuietTactic
import Derived.BigQuiet
import Derived.Deep.RegionLaw
import Derived.Deep.RegionHeld3
import Derived.Laws.AppendOwnNone
import Derived.Lib.Hide
namespace Go.Proofs.Ytjgbandmjamcaaa
open Go.RowKit

/-- From w to w' nothing has turned but blocks in S, and new ones. -/
structure Kp (S : Nat → Prop) (w w' : World) : Prop where
  os : w'.os = w.os
  tape : w'.tape = w.tape
  output : w'.output = w.output
  size : w.heap.size ≤ w'.heap.size
  block : ∀ k, k < w.heap.size → ¬ S k → w'.heap[k]? = w.heap[k]?

def none_ : Nat → Prop := fun _ => False
def only (b : Nat) : Nat → Prop := fun k => k = b

theorem only_ne {a b : Nat} (h : a ≠ b) : ¬ only b a := h

theorem Kp.refl (S : Nat → Prop) (w : World) : Kp S w w := ⟨rfl, rfl, rfl, Nat.le_refl _, fun _ _ _ => rfl⟩
theorem Kp.trans {S T : Nat → Prop} {a b c : World} (h : Kp S a b) (k : Kp T b c) (hs : ∀ i, i < a.heap.size → T i → S i) : Kp S a c :=
  ⟨k.os.trans h.os, k.tape.trans h.tape, k.output.trans h.output, Nat.le_trans h.size k.size, fun i hi hn => (k.block i (Nat.lt_of_lt_of_le hi h.size) (fun ht => hn (hs i hi ht))).trans (h.block i hi hn)⟩
theorem Kp.then_ {S : Nat → Prop} {a b c : World} (h : Kp S a b) (k : Kp none_ b c) : Kp S a c := h.trans k (fun _ _ h => h.elim)
theorem Kp.mono {S T : Nat → Prop} {a b : World} (h : Kp S a b) (hs : ∀ i, i < a.heap.size → S i → T i) : Kp T a b :=
  ⟨h.os, h.tape, h.output, h.size, fun i hi hn => h.block i hi (fun hc => hn (hs i hi hc))⟩
theorem Kp.drew {S : Nat → Prop} {a w : World} (h : Kp S a w) : Kp S a w.drew := ⟨h.os, h.tape, h.output, h.size, h.block⟩
theorem Kp.drewN {S : Nat → Prop} {a w : World} (h : Kp S a w) (n : Nat) : Kp S a (w.drewN n) := ⟨h.os, h.tape, h.output, h.size, h.block⟩
theorem Kp.alloc {S : Nat → Prop} {a w : World} (h : Kp S a w) (o : Obj) : Kp S a (w.alloc o) :=
  h.then_ ⟨rfl, rfl, rfl, by simp, fun k hk _ => Below.heap_alloc _ _ _ hk⟩
theorem Kp.setCell {S : Nat → Prop} {a w : World} (h : Kp S a w) {p : Addr} (u : Value) (hp : S p.block ∨ a.heap.size ≤ p.block) : Kp S a (w.setCell p u) :=
  h.trans (T := only p.block) ⟨rfl, rfl, rfl, by simp [World.setCell], fun k _ hk => Below.heap_setCell _ _ _ _ (fun e => hk e)⟩ (fun i hi e => by
    have e' : i = p.block := e
    rcases hp with hp | hp
    · rw [e']; exact hp
    · omega)
theorem Kp.of_below {w w' : World} (h : Below w.heap.size w w') : Kp none_ w w' := ⟨h.os, h.tape, h.output, h.size, fun k hk _ => h.block k hk⟩
theorem Kp.below {w w' : World} (h : Kp none_ w w') : Below w.heap.size w w' := ⟨h.os, h.tape, h.output, h.size, fun k hk => h.block k hk (fun h => h)⟩
theorem Kp.below_ {S : Nat → Prop} {B : Nat} {W w w' : World} (hb : Below B W w) (h : Kp S w w') (hB : B ≤ w.heap.size) (hs : ∀ k, k < w.heap.size → S k → B ≤ k) : Below B W w' :=
  ⟨h.os.trans hb.os, h.tape.trans hb.tape, h.output.trans hb.output, Nat.le_trans hb.size h.size, fun k hk => (h.block k (by omega) (fun hc => by have := hs k (by omega) hc; omega)).trans (hb.block k hk)⟩
theorem Kp.grown {S : Nat → Prop} {a w w' : World} {row : Option Nat} (h : Kp S a w) (hg : w.grownBy w' row) (hr : ∀ k, row = some k → S k ∨ a.heap.size ≤ k) : Kp S a w' :=
  h.trans (T := fun k => row = some k) ⟨hg.os, hg.tape, hg.output, hg.size, fun k hk hn => hg.block k hk (fun e => hn e.symm)⟩ (fun i hi e => by
    rcases hr i e with h | h
    · exact h
    · omega)

/-- Block g holds just these cells. -/
def Blk (w : World) (g : Nat) (t : TypeId) (cs : Array Value) : Prop := w.heap[g]? = some (.cells cs t (0, 0))
section
variable {w w' : World} {g : Nat} {t : TypeId} {cs : Array Value}
theorem Blk.lt (h : Blk w g t cs) : g < w.heap.size := (Array.getElem?_eq_some_iff.1 h).1
theorem Blk.cell (h : Blk w g t cs) (i : Nat) : w.cell? ⟨g, i, none⟩ = cs[i]? := cell_of_row w g i cs t (0, 0) h
theorem Blk.frozen (h : Blk w g t cs) (i : Nat) : w.frozen? ⟨g, i, none⟩ = false := by
  unfold Blk at h
  simp [World.frozen?, h]
theorem Blk.new (w : World) (t : TypeId) (cs : Array Value) : Blk (w.alloc (.cells cs t)) w.heap.size t cs := heap_alloc_new w _
theorem Blk.drew (h : Blk w g t cs) : Blk w.drew g t cs := h
theorem Blk.drewN (h : Blk w g t cs) (n : Nat) : Blk (w.drewN n) g t cs := h
theorem Blk.alloc (h : Blk w g t cs) (o : Obj) : Blk (w.alloc o) g t cs := (Below.heap_alloc w o g h.lt).trans h
theorem Blk.set (h : Blk w g t cs) (i : Nat) (u : Value) : Blk (w.setCell ⟨g, i, none⟩ u) g t (cs.setIfInBounds i u) := by
  unfold Blk at h ⊢
  simp [World.setCell, Array.getElem?_modify, h]
theorem Blk.far (h : Blk w g t cs) {p : Addr} (hp : g ≠ p.block) (u : Value) : Blk (w.setCell p u) g t cs := (Below.heap_setCell w p u g hp).trans h
theorem Blk.kp {S : Nat → Prop} (h : Blk w g t cs) (k : Kp S w w') (hs : ¬ S g) : Blk w' g t cs := (k.block g h.lt hs).trans h
theorem Blk.grown_ {row : Option Nat} (h : Blk w g t cs) (hg : w.grownBy w' row) (hr : some g ≠ row) : Blk w' g t cs := (hg.block g h.lt hr).trans h
theorem Blk.ne_ {g' : Nat} {t' : TypeId} {cs' : Array Value} (h : Blk w g t cs) (h' : Blk w g' t' cs') (hne : t ≠ t') : g ≠ g' := by
  rintro rfl
  unfold Blk at h h'
  rw [h] at h'
  injection h' with h'
  injection h' with _ ht
  exact hne ht
end

/-- A slice value of n elements of `size` cells each; its cells are xs; its block is one of ok. -/
def Sl (ok : Nat → Prop) (w : World) (size : Nat) (v : Value) (n : Nat) (xs : List Value) : Prop :=
  xs.length = n * size ∧ ∃ A cap, v = .slice A n cap ∧ n ≤ cap ∧ cap ≤ maxLen ∧ (0 < n → ∃ b off, A = some ⟨b, off, none⟩ ∧ ok b ∧ b < w.heap.size ∧ ∀ j u, xs[j]? = some u → w.cell? ⟨b, off + j, none⟩ = some u)
section
variable {ok ok' : Nat → Prop} {w w' : World} {size n : Nat} {v : Value} {xs : List Value}
theorem Sl.nil (ok : Nat → Prop) (w : World) (size : Nat) : Sl ok w size (.slice none 0 0) 0 [] := ⟨by simp, none, 0, rfl, Nat.le_refl _, by unfold maxLen; omega, fun h => absurd h (by omega)⟩
theorem Sl.mono (h : Sl ok w size v n xs) (hk : ∀ k, k < w.heap.size → ok k → ok' k) : Sl ok' w size v n xs := by
  obtain ⟨h1, A, cap, h2, h3, h3', h4⟩ := h
  refine ⟨h1, A, cap, h2, h3, h3', fun hn => ?_⟩
  obtain ⟨b, off, e, hb, hl, hc⟩ := h4 hn
  exact ⟨b, off, e, hk b hl hb, hl, hc⟩
theorem Sl.keep (h : Sl ok w size v n xs) (hsz : w.heap.size ≤ w'.heap.size) (hk : ∀ k, k < w.heap.size → ok k → w'.heap[k]? = w.heap[k]?) : Sl ok w' size v n xs := by
  obtain ⟨h1, A, cap, h2, h3, h3', h4⟩ := h
  refine ⟨h1, A, cap, h2, h3, h3', fun hn => ?_⟩
  obtain ⟨b, off, e, hb, hl, hc⟩ := h4 hn
  exact ⟨b, off, e, hb, by omega, fun j u hu => (World.cell?_of_block (a := ⟨b, off + j, none⟩) (hk b hl hb)).trans (hc j u hu)⟩
theorem Sl.kp {S : Nat → Prop} (h : Sl ok w size v n xs) (k : Kp S w w') (hs : ∀ i, i < w.heap.size → ok i → ¬ S i) : Sl ok w' size v n xs :=
  h.keep k.size (fun i hi ho => k.block i hi (hs i hi ho))
theorem Sl.then_ (h : Sl ok w size v n xs) (k : Kp none_ w w') : Sl ok w' size v n xs := h.kp k (fun _ _ _ h => h)
theorem Sl.alloc (h : Sl ok w size v n xs) (o : Obj) : Sl ok (w.alloc o) size v n xs := h.then_ ((Kp.refl _ _).alloc o)
theorem Sl.drew (h : Sl ok w size v n xs) : Sl ok w.drew size v n xs := h
theorem Sl.drewN (h : Sl ok w size v n xs) (k : Nat) : Sl ok (w.drewN k) size v n xs := h
theorem Sl.form (h : Sl ok w size v n xs) : ∃ A cap, v = .slice A n cap ∧ n ≤ cap ∧ cap ≤ maxLen := by
  obtain ⟨_, A, cap, h2, h3, h3', _⟩ := h
  exact ⟨A, cap, h2, h3, h3'⟩
theorem Sl.cells {A : Option Addr} {cap : Nat} (h : Sl ok w size (.slice A n cap) n xs) (hn : 0 < n) : ∃ b off, A = some ⟨b, off, none⟩ ∧ ok b ∧ b < w.heap.size ∧ ∀ j u, xs[j]? = some u → w.cell? ⟨b, off + j, none⟩ = some u := by
  obtain ⟨_, A', cap', h2, _, _, h4⟩ := h
  injection h2 with h2
  subst h2
  exact h4 hn
theorem Sl.of_own {base : Nat} {e : TypeId} (h : w.ownsRow base e size v n xs) (hok : ∀ k, base ≤ k → ok k) : Sl ok w size v n xs := by
  obtain ⟨h1, h2⟩ := h
  rcases h2 with ⟨rfl, rfl⟩ | ⟨g, cap, cur, rfl, hb, hg, hc, hm, hs, ht⟩
  · exact ⟨h1, none, 0, rfl, Nat.le_refl _, by unfold maxLen; omega, fun h => absurd h (by omega)⟩
  · refine ⟨h1, _, cap, rfl, hc, hm, fun _ => ⟨g, 0, rfl, hok g hb, (Array.getElem?_eq_some_iff.1 hg).1, fun j u hu => ?_⟩⟩
    rw [Nat.zero_add, cell_of_row w g j cur e (0, 0) hg]
    rw [← ht, List.getElem?_take] at hu
    split at hu
    · rw [← hu, Array.getElem?_toList]
    · cases hu
end

/-- A slice of int64 (or int) that reads as xs. -/
def ints (xs : List Int) : List Value := xs.map (Value.int .i64)
theorem ints_get {xs : List Int} {k : Nat} (h : k < xs.length) : (ints xs)[k]? = some (.int .i64 (xs[k]?.getD 0)) := by
  unfold ints
  rw [List.getElem?_map, List.getElem?_eq_getElem h]
  rfl
theorem ints_len (xs : List Int) : (ints xs).length = xs.length := by simp [ints]
abbrev Il (ok : Nat → Prop) (w : World) (v : Value) (xs : List Int) : Prop := Sl ok w 1 v xs.length (ints xs)

/-- What a call returns, and what holds of the world then. -/
def Ret (v : Value) (Q : World → Prop) (e : Ending) (w' : World) : Prop := e = .returned v ∧ Q w'
/-- A value that is one of those with R. -/
def RetEx (R : Value → World → Prop) (e : Ending) (w' : World) : Prop := ∃ v, e = .returned v ∧ R v w'
end Go.Proofs.Ytjgbandmjamcaaa

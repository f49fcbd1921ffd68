/- Memory of leases in play: arrays of pointers, objects behind them. -/
import Derived.Test.YtjgbandmjamcaaaPlayM
namespace Go.Proofs.Ytjgbandmjamcaaa
open Go.RowKit

def arr (n : Nat) (f : Nat → Value) : Array Value := ((List.range n).map f).toArray
theorem arr_get {n : Nat} (f : Nat → Value) {k : Nat} (h : k < n) : (arr n f)[k]? = some (f k) := by
  unfold arr
  rw [List.getElem?_toArray, List.getElem?_map, List.getElem?_range h]
  rfl
theorem arr_set {n : Nat} (f : Nat → Value) (k : Nat) (x : Value) : (arr n f).setIfInBounds k x = arr n (upd f k x) := by
  unfold arr
  apply Array.ext'
  rw [Array.toList_setIfInBounds, List.toList_toArray, List.toList_toArray]
  apply List.ext_getElem?
  intro i
  rw [List.getElem?_set, List.getElem?_map, List.getElem?_map, List.length_map, List.length_range]
  by_cases hi : i < n
  · rw [List.getElem?_range hi]
    by_cases e : k = i
    · subst e; simp [upd, hi]
    · have e' : i ≠ k := fun h => e h.symm
      simp [upd, e, e']
  · rw [List.getElem?_eq_none (by rw [List.length_range]; omega)]
    by_cases e : k = i
    · subst e; simp [hi]
    · simp [e]
theorem arr_ext {n : Nat} {f g : Nat → Value} (h : ∀ k, k < n → f k = g k) : arr n f = arr n g := by
  unfold arr
  congr 1
  exact List.map_congr_left (fun k hk => h k (List.mem_range.1 hk))
def ptr (g : Nat) : Value := .pointer (some ⟨g, 0, none⟩)
/-- The first c point to objects, the others nowhere. -/
def pf (c : Nat) (P : Nat → Nat) : Nat → Value := fun j => if j < c then ptr (P j) else .pointer none
theorem pf_lt {c : Nat} (P : Nat → Nat) {j : Nat} (h : j < c) : pf c P j = ptr (P j) := if_pos h
theorem pf_next (c : Nat) (P : Nat → Nat) (g : Nat) : upd (pf c P) c (ptr g) = pf (c + 1) (upd P c g) := by
  funext j
  by_cases e : j = c
  · subst e; rw [upd_same]; unfold pf; rw [if_pos (by omega), upd_same]
  · rw [upd_ne _ _ e]
    unfold pf
    rw [upd_ne _ _ e]
    by_cases h : j < c
    · rw [if_pos h, if_pos (by omega)]
    · rw [if_neg h, if_neg (by omega)]
theorem pf_upd (c : Nat) (P : Nat → Nat) (k : Nat) (h : k < c) (g : Nat) : upd (pf c P) k (ptr g) = pf c (upd P k g) := by
  funext j
  by_cases e : j = k
  · subst e; rw [upd_same]; unfold pf; rw [if_pos h, upd_same]
  · rw [upd_ne _ _ e]; unfold pf; rw [upd_ne _ _ e]
/-- Spans in a row. -/
def arr2 (n : Nat) (f : Nat → Int × Int) : Array Value := arr (n * 2) fun i => if i % 2 = 0 then .int .i64 (f (i / 2)).1 else .int .i64 (f (i / 2)).2
theorem arr2_get0 {n : Nat} (f : Nat → Int × Int) {k : Nat} (h : k < n) : (arr2 n f)[k * 2]? = some (.int .i64 (f k).1) := by
  unfold arr2
  rw [arr_get _ (by omega), if_pos (by omega), show k * 2 / 2 = k from by omega]
theorem arr2_get1 {n : Nat} (f : Nat → Int × Int) {k : Nat} (h : k < n) : (arr2 n f)[k * 2 + 1]? = some (.int .i64 (f k).2) := by
  unfold arr2
  rw [arr_get _ (by omega), if_neg (by omega), show (k * 2 + 1) / 2 = k from by omega]
theorem arr2_set {n : Nat} (f : Nat → Int × Int) (k : Nat) (x y : Int) : ((arr2 n f).setIfInBounds (k * 2) (.int .i64 x)).setIfInBounds (k * 2 + 1) (.int .i64 y) = arr2 n (upd f k (x, y)) := by
  unfold arr2
  rw [arr_set, arr_set]
  apply arr_ext
  intro i _
  unfold upd
  by_cases e1 : i = k * 2 + 1
  · subst e1; rw [if_pos rfl, if_neg (by omega), if_pos (by omega)]
  · rw [if_neg e1]
    by_cases e0 : i = k * 2
    · subst e0; rw [if_pos rfl, if_pos (by omega), if_pos (by omega)]
    · rw [if_neg e0]
      have hne : i / 2 ≠ k := by omega
      simp only [hne, if_false]
/-- n objects of one type, each in a block of its own. -/
structure Objs (w : World) (base n : Nat) (P : Nat → Nat) (t : TypeId) (c : Nat → Array Value) : Prop where
  blk : ∀ k, k < n → Blk w (P k) t (c k)
  inj : ∀ i, i < n → ∀ j, j < n → P i = P j → i = j
  ge : ∀ k, k < n → base ≤ P k
section
variable {w w' : World} {base n : Nat} {P : Nat → Nat} {t : TypeId} {c : Nat → Array Value}
theorem Objs.zero (w : World) (base : Nat) (P : Nat → Nat) (t : TypeId) (c : Nat → Array Value) : Objs w base 0 P t c := ⟨fun _ h => absurd h (by omega), fun _ h => absurd h (by omega), fun _ h => absurd h (by omega)⟩
theorem Objs.kp {S : Nat → Prop} (h : Objs w base n P t c) (k : Kp S w w') (hs : ∀ j, j < n → ¬ S (P j)) : Objs w' base n P t c :=
  ⟨fun j hj => (h.blk j hj).kp k (hs j hj), h.inj, h.ge⟩
theorem Objs.keep (h : Objs w base n P t c) (k : Kp none_ w w') : Objs w' base n P t c := h.kp k (fun _ _ h => h)
/-- A block of another type has changed. -/
theorem Objs.other (h : Objs w base n P t c) {g : Nat} {t' : TypeId} {cs : Array Value} (hb : Blk w g t' cs) (ht : t ≠ t') (k : Kp (only g) w w') : Objs w' base n P t c :=
  h.kp k (fun j hj => only_ne ((h.blk j hj).ne_ hb ht))
theorem Objs.upd_ (h : Objs w base n P t c) {j : Nat} (hj : j < n) {x : Array Value} (k : Kp (only (P j)) w w') (hb : Blk w' (P j) t x) : Objs w' base n P t (upd c j x) := by
  refine ⟨fun i hi => ?_, h.inj, h.ge⟩
  by_cases e : i = j
  · subst e; rw [upd_same]; exact hb
  · rw [upd_ne _ _ e]
    exact (h.blk i hi).kp k (only_ne (fun he => e (h.inj i hi j hj he)))
/-- One object more. -/
theorem Objs.more (h : Objs w base n P t c) {g : Nat} {x : Array Value} (hb : Blk w g t x) (hg : base ≤ g) (hf : ∀ j, j < n → P j ≠ g) : Objs w base (n + 1) (upd P n g) t (upd c n x) := by
  refine ⟨fun i hi => ?_, fun i hi j hj e => ?_, fun i hi => ?_⟩
  · by_cases e : i = n
    · subst e; rw [upd_same, upd_same]; exact hb
    · rw [upd_ne _ _ e, upd_ne _ _ e]; exact h.blk i (by omega)
  · by_cases e1 : i = n
    · by_cases e2 : j = n
      · omega
      · subst e1
        rw [upd_same, upd_ne _ _ e2] at e
        exact absurd e.symm (hf j (by omega))
    · by_cases e2 : j = n
      · subst e2
        rw [upd_same, upd_ne _ _ e1] at e
        exact absurd e (hf i (by omega))
      · rw [upd_ne _ _ e1, upd_ne _ _ e2] at e
        exact h.inj i (by omega) j (by omega) e
  · by_cases e : i = n
    · subst e; rw [upd_same]; exact hg
    · rw [upd_ne _ _ e]; exact h.ge i (by omega)
/-- One object in another's place. -/
theorem Objs.swap (h : Objs w base n P t c) {j g : Nat} {x : Array Value} (hb : Blk w g t x) (hg : base ≤ g) (hf : ∀ j, j < n → P j ≠ g) : Objs w base n (upd P j g) t (upd c j x) := by
  refine ⟨fun i hi => ?_, fun i hi q hq e => ?_, fun i hi => ?_⟩
  · by_cases e : i = j
    · subst e; rw [upd_same, upd_same]; exact hb
    · rw [upd_ne _ _ e, upd_ne _ _ e]; exact h.blk i hi
  · by_cases e1 : i = j
    · by_cases e2 : q = j
      · omega
      · subst e1
        rw [upd_same, upd_ne _ _ e2] at e
        exact absurd e.symm (hf q hq)
    · by_cases e2 : q = j
      · subst e2
        rw [upd_same, upd_ne _ _ e1] at e
        exact absurd e (hf i hi)
      · rw [upd_ne _ _ e1, upd_ne _ _ e2] at e
        exact h.inj i hi q hq e
  · by_cases e : i = j
    · subst e; rw [upd_same]; exact hg
    · rw [upd_ne _ _ e]; exact h.ge i hi
theorem Objs.ext (h : Objs w base n P t c) {d : Nat → Array Value} (hd : ∀ k, k < n → c k = d k) : Objs w base n P t d :=
  ⟨fun k hk => hd k hk ▸ h.blk k hk, h.inj, h.ge⟩
end

def vCells (vl vu : Nat → Int) : Nat → Array Value := fun v => #[.int .i64 (vl v), .int .i64 (vu v)]
def hCells (n : Nat) (us : Nat → List Int) : Nat → Array Value := fun j => (Value.int .i64 n :: ints (us j)).toArray
def sCells (sl : Nat → Int) : Nat → Array Value := fun j => #[.int .i64 (sl j)]
def cCells (C : Nat → ClkD) : Nat → Array Value := fun j => (C j).cells
theorem vCells_upd (vl vu : Nat → Int) (v : Nat) (a b : Int) : upd (vCells vl vu) v #[.int .i64 a, .int .i64 b] = vCells (upd vl v a) (upd vu v b) := by
  funext q; by_cases e : q = v
  · subst e; simp only [upd_same, vCells]
  · simp only [vCells, upd_ne _ _ e]
theorem hCells_upd (n : Nat) (us : Nat → List Int) (j : Nat) (a : List Int) : upd (hCells n us) j (Value.int .i64 n :: ints a).toArray = hCells n (upd us j a) := by
  funext q; by_cases e : q = j
  · subst e; simp only [upd_same, hCells]
  · simp only [hCells, upd_ne _ _ e]
theorem sCells_upd (sl : Nat → Int) (j : Nat) (a : Int) : upd (sCells sl) j #[.int .i64 a] = sCells (upd sl j a) := by
  funext q; by_cases e : q = j
  · subst e; simp only [upd_same, sCells]
  · simp only [sCells, upd_ne _ _ e]
theorem cCells_upd (C : Nat → ClkD) (j : Nat) (a : ClkD) : upd (cCells C) j a.cells = cCells (upd C j a) := by
  funext q; by_cases e : q = j
  · subst e; simp only [upd_same, cCells]
  · simp only [cCells, upd_ne _ _ e]
/-- The memory of a play: five arrays from block b on; clocks, voters, holders, sources behind them (so many as are made). -/
structure PM (W : World) (b n nC nV nH : Nat) (P V H S : Nat → Nat) (C : Nat → ClkD) (rd vl vu : Nat → Int) (us : Nat → List Int) (sl : Nat → Int) (w : World) : Prop where
  eb : b = W.heap.size
  kp : Kp none_ W w
  aC : Blk w b 123 (arr 8 (pf nC P))
  aR : Blk w (b + 1) 124 (arr 8 fun k => .int .i64 (rd k))
  aV : Blk w (b + 2) 125 (arr 5 (pf nV V))
  aH : Blk w (b + 3) 126 (arr 3 (pf nH H))
  aS : Blk w (b + 4) 127 (arr 3 (pf nH S))
  oC : Objs w b nC P 112 (cCells C)
  oV : Objs w b nV V 122 (vCells vl vu)
  oH : Objs w b nH H 119 (hCells n us)
  oS : Objs w b nH S 102 (sCells sl)
section
variable {W w w' : World} {b n nC nV nH : Nat} {P V H S : Nat → Nat} {C : Nat → ClkD} {rd vl vu : Nat → Int} {us : Nat → List Int} {sl : Nat → Int}
theorem PM.keep (h : PM W b n nC nV nH P V H S C rd vl vu us sl w) (k : Kp none_ w w') : PM W b n nC nV nH P V H S C rd vl vu us sl w' :=
  ⟨h.eb, h.kp.then_ k, h.aC.kp k (fun h => h), h.aR.kp k (fun h => h), h.aV.kp k (fun h => h), h.aH.kp k (fun h => h), h.aS.kp k (fun h => h), h.oC.keep k, h.oV.keep k, h.oH.keep k, h.oS.keep k⟩
theorem PM.kpOnly (h : PM W b n nC nV nH P V H S C rd vl vu us sl w) {g : Nat} (hg : b ≤ g) (k : Kp (only g) w w') : Kp none_ W w' :=
  h.kp.trans k (fun i hi e => by have e' : i = g := e; have := h.eb; omega)
/-- A clock has changed. -/
theorem PM.clk (h : PM W b n nC nV nH P V H S C rd vl vu us sl w) {j : Nat} (hj : j < nC) {x : ClkD} (k : Kp (only (P j)) w w') (hb : Blk w' (P j) 112 x.cells) : PM W b n nC nV nH P V H S (upd C j x) rd vl vu us sl w' := by
  have hB := h.oC.blk j hj
  refine ⟨h.eb, h.kpOnly (h.oC.ge j hj) k, h.aC.kp k (only_ne (h.aC.ne_ hB (by decide))), h.aR.kp k (only_ne (h.aR.ne_ hB (by decide))), h.aV.kp k (only_ne (h.aV.ne_ hB (by decide))), h.aH.kp k (only_ne (h.aH.ne_ hB (by decide))), h.aS.kp k (only_ne (h.aS.ne_ hB (by decide))), ?_, h.oV.other hB (by decide) k, h.oH.other hB (by decide) k, h.oS.other hB (by decide) k⟩
  rw [← cCells_upd]
  exact h.oC.upd_ hj k hb
theorem PM.vot (h : PM W b n nC nV nH P V H S C rd vl vu us sl w) {j : Nat} (hj : j < nV) {x y : Int} (k : Kp (only (V j)) w w') (hb : Blk w' (V j) 122 #[.int .i64 x, .int .i64 y]) : PM W b n nC nV nH P V H S C rd (upd vl j x) (upd vu j y) us sl w' := by
  have hB := h.oV.blk j hj
  refine ⟨h.eb, h.kpOnly (h.oV.ge j hj) k, h.aC.kp k (only_ne (h.aC.ne_ hB (by decide))), h.aR.kp k (only_ne (h.aR.ne_ hB (by decide))), h.aV.kp k (only_ne (h.aV.ne_ hB (by decide))), h.aH.kp k (only_ne (h.aH.ne_ hB (by decide))), h.aS.kp k (only_ne (h.aS.ne_ hB (by decide))), h.oC.other hB (by decide) k, ?_, h.oH.other hB (by decide) k, h.oS.other hB (by decide) k⟩
  rw [← vCells_upd]
  exact h.oV.upd_ hj k hb
theorem PM.hol (h : PM W b n nC nV nH P V H S C rd vl vu us sl w) {j : Nat} (hj : j < nH) {x : List Int} (k : Kp (only (H j)) w w') (hb : Blk w' (H j) 119 (Value.int .i64 n :: ints x).toArray) : PM W b n nC nV nH P V H S C rd vl vu (upd us j x) sl w' := by
  have hB := h.oH.blk j hj
  refine ⟨h.eb, h.kpOnly (h.oH.ge j hj) k, h.aC.kp k (only_ne (h.aC.ne_ hB (by decide))), h.aR.kp k (only_ne (h.aR.ne_ hB (by decide))), h.aV.kp k (only_ne (h.aV.ne_ hB (by decide))), h.aH.kp k (only_ne (h.aH.ne_ hB (by decide))), h.aS.kp k (only_ne (h.aS.ne_ hB (by decide))), h.oC.other hB (by decide) k, h.oV.other hB (by decide) k, ?_, h.oS.other hB (by decide) k⟩
  rw [← hCells_upd]
  exact h.oH.upd_ hj k hb
theorem PM.srcs (h : PM W b n nC nV nH P V H S C rd vl vu us sl w) {j : Nat} (hj : j < nH) {x : Int} (k : Kp (only (S j)) w w') (hb : Blk w' (S j) 102 #[.int .i64 x]) : PM W b n nC nV nH P V H S C rd vl vu us (upd sl j x) w' := by
  have hB := h.oS.blk j hj
  refine ⟨h.eb, h.kpOnly (h.oS.ge j hj) k, h.aC.kp k (only_ne (h.aC.ne_ hB (by decide))), h.aR.kp k (only_ne (h.aR.ne_ hB (by decide))), h.aV.kp k (only_ne (h.aV.ne_ hB (by decide))), h.aH.kp k (only_ne (h.aH.ne_ hB (by decide))), h.aS.kp k (only_ne (h.aS.ne_ hB (by decide))), h.oC.other hB (by decide) k, h.oV.other hB (by decide) k, h.oH.other hB (by decide) k, ?_⟩
  rw [← sCells_upd]
  exact h.oS.upd_ hj k hb
theorem kp_set (w : World) (g i : Nat) (u : Value) : Kp (only g) w (w.setCell ⟨g, i, none⟩ u) := (Kp.refl _ _).setCell (p := ⟨g, i, none⟩) u (.inl rfl)
theorem PM.read_ (h : PM W b n nC nV nH P V H S C rd vl vu us sl w) (j : Nat) (x : Int) : PM W b n nC nV nH P V H S C (upd rd j x) vl vu us sl (w.setCell ⟨b + 1, j, none⟩ (.int .i64 x)) := by
  have hB := h.aR
  have k := kp_set w (b + 1) j (.int .i64 x)
  refine ⟨h.eb, h.kpOnly (Nat.le_succ _) k, h.aC.kp k (only_ne (by omega)), ?_, h.aV.kp k (only_ne (by omega)), h.aH.kp k (only_ne (by omega)), h.aS.kp k (only_ne (by omega)), h.oC.other hB (by decide) k, h.oV.other hB (by decide) k, h.oH.other hB (by decide) k, h.oS.other hB (by decide) k⟩
  have := h.aR.set j (.int .i64 x)
  rw [arr_set] at this
  have e : upd (fun k => Value.int .i64 (rd k)) j (.int .i64 x) = fun k => Value.int .i64 (upd rd j x k) := by
    funext q; by_cases e : q = j
    · subst e; simp only [upd_same]
    · simp only [upd_ne _ _ e]
  rw [e] at this
  exact this
theorem PM.newC (h : PM W b n nC nV nH P V H S C rd vl vu us sl w) {g : Nat} {x : ClkD} (hb : Blk w g 112 x.cells) (hg : b ≤ g) (hf : ∀ j, j < nC → P j ≠ g) : PM W b n (nC + 1) nV nH (upd P nC g) V H S (upd C nC x) rd vl vu us sl (w.setCell ⟨b, nC, none⟩ (ptr g)) := by
  have hB := h.aC
  have k := kp_set w b nC (ptr g)
  refine ⟨h.eb, h.kpOnly (Nat.le_refl _) k, ?_, h.aR.kp k (only_ne (by omega)), h.aV.kp k (only_ne (by omega)), h.aH.kp k (only_ne (by omega)), h.aS.kp k (only_ne (by omega)), ?_, h.oV.other hB (by decide) k, h.oH.other hB (by decide) k, h.oS.other hB (by decide) k⟩
  · have := h.aC.set nC (ptr g)
    rw [arr_set, pf_next] at this
    exact this
  · rw [← cCells_upd]
    exact (h.oC.more hb hg hf).kp k (fun j hj => only_ne (Blk.ne_ ((h.oC.more hb hg hf).blk j hj) hB (by decide)))
theorem PM.newV (h : PM W b n nC nV nH P V H S C rd vl vu us sl w) {g : Nat} {x y : Int} (hb : Blk w g 122 #[.int .i64 x, .int .i64 y]) (hg : b ≤ g) (hf : ∀ j, j < nV → V j ≠ g) : PM W b n nC (nV + 1) nH P (upd V nV g) H S C rd (upd vl nV x) (upd vu nV y) us sl (w.setCell ⟨b + 2, nV, none⟩ (ptr g)) := by
  have hB := h.aV
  have k := kp_set w (b + 2) nV (ptr g)
  refine ⟨h.eb, h.kpOnly (by omega) k, h.aC.kp k (only_ne (by omega)), h.aR.kp k (only_ne (by omega)), ?_, h.aH.kp k (only_ne (by omega)), h.aS.kp k (only_ne (by omega)), h.oC.other hB (by decide) k, ?_, h.oH.other hB (by decide) k, h.oS.other hB (by decide) k⟩
  · have := h.aV.set nV (ptr g)
    rw [arr_set, pf_next] at this
    exact this
  · rw [← vCells_upd]
    exact (h.oV.more hb hg hf).kp k (fun j hj => only_ne (Blk.ne_ ((h.oV.more hb hg hf).blk j hj) hB (by decide)))
theorem PM.swapV (h : PM W b n nC nV nH P V H S C rd vl vu us sl w) {v g : Nat} (hv : v < nV) {x y : Int} (hb : Blk w g 122 #[.int .i64 x, .int .i64 y]) (hg : b ≤ g) (hf : ∀ j, j < nV → V j ≠ g) : PM W b n nC nV nH P (upd V v g) H S C rd (upd vl v x) (upd vu v y) us sl (w.setCell ⟨b + 2, v, none⟩ (ptr g)) := by
  have hB := h.aV
  have k := kp_set w (b + 2) v (ptr g)
  refine ⟨h.eb, h.kpOnly (by omega) k, h.aC.kp k (only_ne (by omega)), h.aR.kp k (only_ne (by omega)), ?_, h.aH.kp k (only_ne (by omega)), h.aS.kp k (only_ne (by omega)), h.oC.other hB (by decide) k, ?_, h.oH.other hB (by decide) k, h.oS.other hB (by decide) k⟩
  · have := h.aV.set v (ptr g)
    rw [arr_set, pf_upd _ _ _ hv] at this
    exact this
  · rw [← vCells_upd]
    exact (h.oV.swap hb hg hf).kp k (fun j hj => only_ne (Blk.ne_ ((h.oV.swap hb hg hf).blk j hj) hB (by decide)))
/-- A holder and a source more. -/
theorem PM.newH (h : PM W b n nC nV nH P V H S C rd vl vu us sl w) {g s : Nat} {x : List Int} {y : Int} (hb : Blk w g 119 (Value.int .i64 n :: ints x).toArray) (hs : Blk w s 102 #[.int .i64 y]) (hg : b ≤ g) (hgs : b ≤ s) (hf : ∀ j, j < nH → H j ≠ g) (hfs : ∀ j, j < nH → S j ≠ s) :
    PM W b n nC nV (nH + 1) P V (upd H nH g) (upd S nH s) C rd vl vu (upd us nH x) (upd sl nH y) ((w.setCell ⟨b + 3, nH, none⟩ (ptr g)).setCell ⟨b + 4, nH, none⟩ (ptr s)) := by
  have hB := h.aH
  have k := kp_set w (b + 3) nH (ptr g)
  have hB2 : Blk (w.setCell ⟨b + 3, nH, none⟩ (ptr g)) (b + 4) 127 (arr 3 (pf nH S)) := h.aS.kp k (only_ne (by omega))
  have k2 := kp_set (w.setCell ⟨b + 3, nH, none⟩ (ptr g)) (b + 4) nH (ptr s)
  have kp1 := h.kpOnly (g := b + 3) (by omega) k
  have kp2 : Kp none_ W ((w.setCell ⟨b + 3, nH, none⟩ (ptr g)).setCell ⟨b + 4, nH, none⟩ (ptr s)) := kp1.trans k2 (fun i hi e => by have e' : i = b + 4 := e; have := h.eb; omega)
  have oH1 := (h.oH.more hb hg hf).kp k (fun j hj => only_ne (Blk.ne_ ((h.oH.more hb hg hf).blk j hj) hB (by decide)))
  have oS1 := (h.oS.more hs hgs hfs).kp k (fun j hj => only_ne (Blk.ne_ ((h.oS.more hs hgs hfs).blk j hj) hB (by decide)))
  refine ⟨h.eb, kp2, (h.aC.kp k (only_ne (by omega))).kp k2 (only_ne (by omega)), (h.aR.kp k (only_ne (by omega))).kp k2 (only_ne (by omega)), (h.aV.kp k (only_ne (by omega))).kp k2 (only_ne (by omega)), ?_, ?_, (h.oC.other hB (by decide) k).other hB2 (by decide) k2, (h.oV.other hB (by decide) k).other hB2 (by decide) k2, ?_, ?_⟩
  · have := h.aH.set nH (ptr g)
    rw [arr_set, pf_next] at this
    exact this.kp k2 (only_ne (by omega))
  · have := hB2.set nH (ptr s)
    rw [arr_set, pf_next] at this
    exact this
  · rw [← hCells_upd]
    exact oH1.other hB2 (by decide) k2
  · rw [← sCells_upd]
    exact oS1.kp k2 (fun j hj => only_ne (Blk.ne_ (oS1.blk j hj) hB2 (by decide)))
theorem PM.start (W : World) (b n : Nat) (w : World) (eb : b = W.heap.size) (kp : Kp none_ W w) (a1 : Blk w b 123 #[.pointer none, .pointer none, .pointer none, .pointer none, .pointer none, .pointer none, .pointer none, .pointer none])
    (a2 : Blk w (b + 1) 124 #[.int .i64 0, .int .i64 0, .int .i64 0, .int .i64 0, .int .i64 0, .int .i64 0, .int .i64 0, .int .i64 0]) (a3 : Blk w (b + 2) 125 #[.pointer none, .pointer none, .pointer none, .pointer none, .pointer none])
    (a4 : Blk w (b + 3) 126 #[.pointer none, .pointer none, .pointer none]) (a5 : Blk w (b + 4) 127 #[.pointer none, .pointer none, .pointer none]) (C : Nat → ClkD) (us : Nat → List Int) :
    PM W b n 0 0 0 (fun _ => 0) (fun _ => 0) (fun _ => 0) (fun _ => 0) C (fun _ => 0) (fun _ => 0) (fun _ => 0) us (fun _ => 0) w :=
  ⟨eb, kp, a1, a2, a3, a4, a5, Objs.zero _ _ _ _ _, Objs.zero _ _ _ _ _, Objs.zero _ _ _ _ _, Objs.zero _ _ _ _ _⟩
end
end Go.Proofs.Ytjgbandmjamcaaa

/- The walk of a play: what it begins with. -/
import Derived.Test.YtjgbandmjamcaaaPlayA
import Derived.Test.YtjgbandmjamcaaaLeaseHo
namespace Go.Proofs.Ytjgbandmjamcaaa
open Go.RowKit

theorem i64_and40 (n : Int) : bits .and .i64 n 1099511627775 = n % 1099511627776 := by
  have h127 : (BitVec.ofInt 64 1099511627775).toNat = 2 ^ 40 - 1 := by decide
  have key : (BitVec.ofInt 64 n &&& BitVec.ofInt 64 1099511627775).toNat = (n % ((2 ^ 64 : Nat) : Int)).toNat % 2 ^ 40 := by
    rw [BitVec.toNat_and, BitVec.toNat_ofInt, h127, Nat.and_two_pow_sub_one_eq_mod]
  show IntKind.i64.wrap ((BitVec.ofInt 64 n &&& BitVec.ofInt 64 1099511627775).toNat : Nat) = n % 1099511627776
  rw [key, IntKind.wrap_i64]
  omega
theorem upd_const {α : Type} (x : α) (k : Nat) : upd (fun _ => x) k x = fun _ => x := by
  funext j
  unfold upd
  split <;> rfl
theorem play_brought (n m : Int) (h : 0 ≤ m) (hm : m ≤ 65535) (w : World) : Calls Try.prog 55 #[.int .i64 n, .int .i64 m] w (Ret (.int .i64 (brt n m)) (· = w)) := by
  go_enter Try.func55, Try.ntmps55
  go_wp2_with fail
  all_goals go_ret
  all_goals (refine ⟨?_, rfl⟩; refine congrArg (fun x => Ending.returned (Value.int .i64 x)) ?_; unfold brt; split <;> (try split) <;> omega)
/-- A turn. -/
structure TurnD where
  d : Int
  len : Int
  sk : Nat → Int
  lead : Nat
  vot : Nat
  heard : Bool
  again : Bool
  give : Bool
def TurnD.cells (c : TurnD) : List Value := [.int .u16 c.d, .int .u16 c.len, .int .i8 (c.sk 0), .int .i8 (c.sk 1), .int .i8 (c.sk 2), .int .i8 (c.sk 3), .int .i8 (c.sk 4), .int .i8 (c.sk 5), .int .i8 (c.sk 6), .int .i8 (c.sk 7), .int .u8 c.lead, .int .u8 c.vot, .bool c.heard, .bool c.again, .bool c.give]
def TurnD.ok (c : TurnD) : Prop := 0 ≤ c.d ∧ c.d ≤ 65535 ∧ 0 ≤ c.len ∧ c.len ≤ 65535 ∧ (∀ k, k < 8 → -128 ≤ c.sk k ∧ c.sk k ≤ 127) ∧ c.lead < 256 ∧ c.vot < 256
theorem TurnD.skew (c : TurnD) {k : Nat} (h : k < 8) : c.cells[2 + k]? = some (.int .i8 (c.sk k)) := by
  have e : k = 0 ∨ k = 1 ∨ k = 2 ∨ k = 3 ∨ k = 4 ∨ k = 5 ∨ k = 6 ∨ k = 7 := by omega
  rcases e with rfl | rfl | rfl | rfl | rfl | rfl | rfl | rfl <;> rfl
theorem flat15 {α : Type} (f : α → List Value) (hf : ∀ c, (f c).length = 15) : ∀ (l : List α) (i j : Nat), j < 15 → (l.flatMap f)[i * 15 + j]? = (l[i]?).bind fun c => (f c)[j]? := by
  intro l
  induction l with
  | nil => intro i j _; simp
  | cons c l ih =>
    intro i j hj
    rw [List.flatMap_cons]
    cases i with
    | zero =>
      rw [Nat.zero_mul, Nat.zero_add, List.getElem?_append_left (by rw [hf]; exact hj)]
      rfl
    | succ i =>
      rw [List.getElem?_append_right (by rw [hf]; omega), hf, show (i + 1) * 15 + j - 15 = i * 15 + j from by omega, ih i j hj]
      rfl
/-- Where a play stands behind j turns. -/
def PRel (W : World) (b n : Nat) (t0 : Int) (j : Nat) (T last : Int) (w : World) : Prop :=
  ∃ (P V H S : Nat → Nat) (rd fl vl vu : Nat → Int) (us : Nat → List Int) (sl : Nat → Int), PM W b n 8 5 3 P V H S (fun k => pclk (t0 + k) (rd k) (fl k)) rd vl vu us sl w ∧ LI T n vl vu us sl last ∧ (∀ k, k < 8 → ClkI t0 T (rd k) (fl k)) ∧ T ≤ t0 + 65535 * j ∧ j ≤ 60
theorem LI.start (t0 : Int) (n : Nat) (h1 : 1 ≤ n) (h5 : n ≤ 5) (hb0 : 0 ≤ t0) (hb1 : t0 ≤ 1099511627775) : LI t0 n (fun _ => 0) (fun _ => 0) (fun _ => [0, 0, 0, 0, 0]) (fun _ => 0) 0 := by
  have hz : ∀ v, ug [0, 0, 0, 0, 0] v = 0 := fun v => by
    unfold ug
    by_cases h : v < 5
    · have e : v = 0 ∨ v = 1 ∨ v = 2 ∨ v = 3 ∨ v = 4 := by omega
      rcases e with rfl | rfl | rfl | rfl | rfl <;> rfl
    · rw [List.getElem?_eq_none (by simp; omega)]; rfl
  exact ⟨h1, h5, hb0, by omega, fun _ _ => rfl, fun _ _ x hx => by simp at hx; omega, fun j _ v _ => by rw [hz]; omega, fun v _ => ⟨0, fun j _ _ => by rw [hz]; exact hb0, fun _ => by rw [hz]; left; exact hb0, .inl rfl⟩, fun _ _ h => absurd rfl h, fun _ _ => by omega, fun _ _ => by omega, .inl rfl⟩
/-- The spans of the first k clocks at the new true time. -/
def SpI (t0 T T' : Int) (k : Nat) (rd fl : Nat → Int) (sp : Nat → Int × Int) : Prop :=
  (∀ q, q < k → ClkI t0 T' (rd q) (fl q) ∧ (sp q).1 ≤ T' ∧ T' ≤ (sp q).2 ∧ isSpan (sp q).1 (sp q).2 = true) ∧ ∀ q, k ≤ q → q < 8 → ClkI t0 T (rd q) (fl q)
theorem SpI.next {t0 T T' : Int} {k : Nat} {rd fl : Nat → Int} {sp : Nat → Int × Int} (h : SpI t0 T T' k rd fl sp) {r f lo hi : Int} (h1 : ClkI t0 T' r f) (h2 : lo ≤ T') (h3 : T' ≤ hi) (h4 : isSpan lo hi = true) : SpI t0 T T' (k + 1) (upd rd k r) (upd fl k f) (upd sp k (lo, hi)) := by
  refine ⟨fun q hq => ?_, fun q hq hq8 => ?_⟩
  · by_cases e : q = k
    · subst e; rw [upd_same, upd_same, upd_same]; exact ⟨h1, h2, h3, h4⟩
    · rw [upd_ne _ _ e, upd_ne _ _ e, upd_ne _ _ e]; exact h.1 q (by omega)
  · rw [upd_ne _ _ (by omega), upd_ne _ _ (by omega)]; exact h.2 q (by omega) hq8
theorem pclk_upd (t0 : Int) (rd fl : Nat → Int) (k : Nat) (r f : Int) : upd (fun q => pclk (t0 + q) (rd q) (fl q)) k (pclk (t0 + k) r f) = fun (q : Nat) => pclk (t0 + q) (upd rd k r q) (upd fl k f q) := by
  funext q; by_cases e : q = k
  · subst e; simp only [upd_same]
  · simp only [upd_ne _ _ e]
end Go.Proofs.Ytjgbandmjamcaaa

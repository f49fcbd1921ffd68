/- Contracts: the document's clock is asked: words. -/
import Derived.Test.YtjgbandmjamcaaaClkG
import Derived.Test.YtjgbandmjamcaaaReg
namespace Go.Proofs.Ytjgbandmjamcaaa
open Go.RowKit
attribute [local go_sem] run_store_float

def refNowOut (rate : Nat) (er lo hi : Int) (ts : List TakD) (w : World) (e : Ending) (w' : World) : Prop := ∃ lv, e = .returned (.tuple #[.agg #[.float .f64 rate, lv], .agg #[.int .i64 lo, .int .i64 hi], .int .i64 er]) ∧ Kp none_ w w' ∧ Tl (fun _ => True) w' lv ts
/-- The blocks of such a call: the receiver, the two results, the empty span. -/
structure NowM (w : World) (b : Nat) (rate : Nat) (lv : Value) (w' : World) : Prop where
  kp : Kp none_ w w'
  eb : b = w.heap.size
  recv : Blk w' b 50 #[.float .f64 rate, lv]
  r0 : Blk w' (b + 1) 50 #[.float .f64 0, .slice none 0 0]
  r1 : Blk w' (b + 2) 28 #[.int .i64 0, .int .i64 0]
  none : Blk w' (b + 3) 28 #[.int .i64 0, .int .i64 0]
theorem NowM.keep {w w1 w2 : World} {b rate : Nat} {lv : Value} (h : NowM w b rate lv w1) (k : Kp none_ w1 w2) : NowM w b rate lv w2 :=
  ⟨h.kp.then_ k, h.eb, h.recv.kp k (fun h => h), h.r0.kp k (fun h => h), h.r1.kp k (fun h => h), h.none.kp k (fun h => h)⟩
theorem now_fin {w w1 : World} {b rate : Nat} {A : Option Addr} {n cap : Nat} {ts : List TakD} (h : NowM w b rate (.slice A n cap) w1) (hl : Tl (fun _ => True) w (.slice A n cap) ts) (er : Int) :
    refNowOut rate er 0 0 ts w (.returned (.tuple #[.agg #[.float .f64 rate, .slice A n cap], .agg #[.int .i64 0, .int .i64 0], .int .i64 er])) ((((w1.setCell ⟨b + 1, 0, none⟩ (.float .f64 rate)).setCell ⟨b + 1, 1, none⟩ (.slice A n cap)).setCell ⟨b + 2, 0, none⟩ (.int .i64 0)).setCell ⟨b + 2, 1, none⟩ (.int .i64 0)).drew := by
  have hb := h.eb
  have hk : Kp none_ w ((((w1.setCell ⟨b + 1, 0, none⟩ (.float .f64 rate)).setCell ⟨b + 1, 1, none⟩ (.slice A n cap)).setCell ⟨b + 2, 0, none⟩ (.int .i64 0)).setCell ⟨b + 2, 1, none⟩ (.int .i64 0)) :=
    (((h.kp.setCell (p := ⟨b + 1, 0, none⟩) _ (.inr (by show w.heap.size ≤ b + 1; omega))).setCell (p := ⟨b + 1, 1, none⟩) _ (.inr (by show w.heap.size ≤ b + 1; omega))).setCell (p := ⟨b + 2, 0, none⟩) _ (.inr (by show w.heap.size ≤ b + 2; omega))).setCell (p := ⟨b + 2, 1, none⟩) _ (.inr (by show w.heap.size ≤ b + 2; omega))
  exact ⟨_, rfl, hk.drew, (hl.then_ hk).drew⟩
/-- The number of the first region of a piece of code. -/
def firstC : Code → Option Nat
  | .region n _ _ => some n
  | .seq a _ => firstC a
  | .block _ c => firstC c
  | .loop c => firstC c
  | .scope c => firstC c
  | .cond _ a _ => firstC a
  | _ => none
/-- The code from a region on, to the end of what it stands in. -/
def fromC (id : Nat) : Code → Option Code
  | .seq a b => if firstC a = some id then some (.seq a b) else match fromC id a with
    | some c => some c
    | none => fromC id b
  | .region n ops d => if n = id then some (.region n ops d) else none
  | .block _ c => fromC id c
  | .loop c => fromC id c
  | .scope c => fromC id c
  | .cond _ a b => match fromC id a with
    | some c => some c
    | none => fromC id b
  | _ => none
end Go.Proofs.Ytjgbandmjamcaaa

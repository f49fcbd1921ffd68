/- Contracts: clocks play as the document's. -/
import Derived.Test.YtjgbandmjamcaaaClkL
namespace Go.Proofs.Ytjgbandmjamcaaa
open Go.RowKit
attribute [local go_sem] run_store_float

/-- A call of the clock. -/
structure CallD where
  kind : Int
  h : Int
  t : Int
  e : Int
def CallD.cells (x : CallD) : List Value := [.int .i64 x.kind, .int .i64 x.h, .int .i64 x.t, .int .i64 x.e]
def callsC (cs : List CallD) : List Value := cs.flatMap CallD.cells
theorem flat4c {α : Type} (f : α → List Value) (hf : ∀ c, (f c).length = 4) : ∀ (l : List α) (i j : Nat), j < 4 → (l.flatMap f)[i * 4 + j]? = (l[i]?).bind fun c => (f c)[j]? := by
  intro l
  induction l with
  | nil => intro i j _; simp
  | cons c l ih =>
    intro i j hj
    rw [List.flatMap_cons]
    cases i with
    | zero =>
      rw [Nat.zero_mul, Nat.zero_add, List.getElem?_append_left (by rw [hf]; exact hj)]
      rfl
    | succ i =>
      rw [List.getElem?_append_right (by rw [hf]; omega), hf, show (i + 1) * 4 + j - 4 = i * 4 + j from by omega, ih i j hj]
      rfl
theorem calls_get (cs : List CallD) (i j : Nat) (hj : j < 4) : (callsC cs)[i * 4 + j]? = (cs[i]?).bind fun x => x.cells[j]? := flat4c _ (fun _ => rfl) cs i j hj
/-- A list of readings does not lie in the clock's block, nor in the box of the document's clock. -/
theorem Tl.off {ok : Nat → Prop} {w : World} {v : Value} {ts : List TakD} {g mb rate : Nat} {tg tm : TypeId} {c : ClkD} {lv : Value} (h : Tl ok w v ts) (hg : Blk w g tg c.cells) (hm : Blk w mb tm #[.float .f64 rate, lv]) (_ : ∀ k n, lv ≠ .int k n) : Tl (fun k => k ≠ g ∧ k ≠ mb) w v ts := by
  obtain ⟨h1, A, cap, h2, h3, h3', h4⟩ := h
  refine ⟨h1, A, cap, h2, h3, h3', fun hn => ?_⟩
  obtain ⟨b, off, e, _, hl, hc⟩ := h4 hn
  refine ⟨b, off, e, ?_, hl, hc⟩
  obtain ⟨x, hx⟩ : ∃ x, ts[0]? = some x := ⟨ts[0], List.getElem?_eq_getElem hn⟩
  have c0 := hc 0 (.int .i64 x.h) (by have := taks_get ts 0 0 (by omega); rw [hx] at this; exact this)
  have c1 := hc 1 (.bool x.set) (by have := taks_get ts 0 1 (by omega); rw [hx] at this; exact this)
  have c2 := hc 2 (.int .i64 x.t) (by have := taks_get ts 0 2 (by omega); rw [hx] at this; exact this)
  refine ⟨?_, ?_⟩
  · rintro rfl
    have d0 := hg.cell (off + 0)
    have d1 := hg.cell (off + 1)
    have d2 := hg.cell (off + 2)
    rw [c0] at d0
    rw [c1] at d1
    rw [c2] at d2
    unfold ClkD.cells at d0 d1 d2
    match off with
    | 0 | 1 | 3 | 4 | 5 => simp at d1
    | 2 => simp at d2
    | n + 6 => simp at d1
  · rintro rfl
    have d0 := hm.cell (off + 0)
    have d1 := hm.cell (off + 1)
    rw [c0] at d0
    rw [c1] at d1
    match off with
    | 0 => simp at d0
    | 1 => simp at d1
    | n + 2 => simp at d0
/-- Between the rounds. -/
structure ClkM (w : World) (b mb rate j : Nat) (c : ClkD) (ts : List TakD) (lv : Value) (wr : World) : Prop where
  kp : Kp none_ w wr
  clk : Blk wr b 112 c.cells
  box : Blk wr mb 50 #[.float .f64 rate, lv]
  rel : TRel ts c
  rate_ : c.rate = rate
  len : ts.length ≤ j
  le : j ≤ 40
  list : Tl (fun k => k ≠ b ∧ k ≠ mb) wr lv ts
  noInt : ∀ k n, lv ≠ .int k n
theorem put_kp {w8 : World} {mb rate : Nat} (lv' : Value) : Kp (only mb) w8 ((w8.setCell ⟨mb, 0, none⟩ (.float .f64 rate)).setCell ⟨mb, 1, none⟩ lv') :=
  ((Kp.refl (only mb) w8).setCell (p := ⟨mb, 0, none⟩) _ (Or.inl rfl)).setCell (p := ⟨mb, 1, none⟩) _ (Or.inl rfl)
theorem put_box {w8 : World} {mb rate : Nat} {lv : Value} (lv' : Value) (h : Blk w8 mb 50 #[.float .f64 rate, lv]) : Blk ((w8.setCell ⟨mb, 0, none⟩ (.float .f64 rate)).setCell ⟨mb, 1, none⟩ lv') mb 50 #[.float .f64 rate, lv'] :=
  (h.set 0 (.float .f64 rate)).set 1 lv'
theorem ClkM.put {w w8 : World} {b mb rate j : Nat} {c' : ClkD} {ts' : List TakD} {lv : Value} {A' : Option Addr} {n cap' : Nat} (kp : Kp none_ w w8) (clk : Blk w8 b 112 c'.cells) (box : Blk w8 mb 50 #[.float .f64 rate, lv]) (hbm : b ≠ mb) (hw : w.heap.size ≤ mb)
    (rel : TRel ts' c') (hr : c'.rate = rate) (hlen : ts'.length ≤ j + 1) (hj : j + 1 ≤ 40) (hl : Tl (fun k => k ≠ b ∧ k ≠ mb) w8 (.slice A' n cap') ts') :
    ClkM w b mb rate (j + 1) c' ts' (.slice A' n cap') ((w8.setCell ⟨mb, 0, none⟩ (.float .f64 rate)).setCell ⟨mb, 1, none⟩ (.slice A' n cap')) :=
  ⟨kp.trans (put_kp _) (fun i hi e => by cases e; omega), clk.kp (put_kp _) hbm, put_box _ box, rel, hr, hlen, hj, hl.kp (put_kp _) (fun i _ h e => h.2 e), fun k n h => by cases h⟩
theorem rateC_rate {b : Nat} (hb : isRateC b) : isRate b := by rcases hb with h | h | h; exact .inl h; exact .inr (.inl h); exact .inr (.inr ⟨h.1, by omega⟩)
set_option maxRecDepth 100000 in
set_option maxHeartbeats 8000000 in
theorem law_ClockPlays (rate : Nat) (v : Value) (cs : List CallD) (w : World) (hb : rate < 18446744073709551616) (hv : Sl (fun k => k < w.heap.size) w 4 v cs.length (callsC cs)) : Calls Try.prog 4 #[.float .f64 rate, v] w (Ret (.bool true) (Kp none_ w)) := by
  have hrat := ref_Rated6 rate hb
  have hawk := awake06
  by_cases hr : isRateC rate
  case neg =>
    have hrb : ratedB rate = false := by
      cases h : ratedB rate
      · rfl
      · exact absurd (ratedB_iff.1 h) hr
    rw [hrb] at hrat
    have hnew := clock_NewG rate hb hr
    clear hrb hr
    go_enter Try.func4, Try.ntmps4
    go_wp2_with fail
    refine (hnew _).mono ?_; rintro e' w1 ⟨rfl, rfl⟩
    clear hnew
    go_wp2_with fail
    refine (hawk _).mono ?_; rintro e' w2 ⟨rfl, hk⟩
    go_wp2_with fail
    refine (hrat _).mono ?_; rintro e' w3 ⟨rfl, rfl⟩
    go_wp2_with fail
    go_ret
    exact ⟨rfl, hk⟩
  have hrb : ratedB rate = true := ratedB_iff.2 hr
  rw [hrb] at hrat
  clear hrb
  have hnew := clock_New rate hr
  have HRC := Lib.hid hr
  clear hr
  obtain ⟨A, cap, rfl, hcap, hmax⟩ := hv.form
  unfold maxLen at hmax
  go_enter Try.func4, Try.ntmps4
  go_wp2_with fail
  refine (hnew _).mono ?_; rintro e' w1 ⟨rfl, rfl⟩
  clear hnew
  have hb0 := Blk.new w 112 (ClkD.cells ⟨0, 0, 0, false, rate, 0, 0⟩)
  have hk0 : Kp none_ w (w.alloc (.cells (ClkD.cells ⟨0, 0, 0, false, rate, 0, 0⟩) 112)) := (Kp.refl none_ w).alloc _
  obtain ⟨b, hbe⟩ : ∃ b, b = w.heap.size := ⟨_, rfl⟩
  rw [← hbe] at hb0 ⊢
  have hbn : ∀ i, i < w.heap.size → ¬ only b i := fun i hi e => by cases e; omega
  clear hbe
  generalize w.alloc (.cells (ClkD.cells ⟨0, 0, 0, false, rate, 0, 0⟩) 112) = w1 at *
  go_wp2_with fail
  refine (hawk _).mono ?_; rintro e' w2 ⟨rfl, hk⟩
  have hb1 := hb0.kp hk (fun h => h)
  have hk1 := hk0.trans hk (fun _ _ h => h)
  clear hk hk0 hb0
  go_wp2_with fail
  refine (hrat _).mono ?_; rintro e' w3 ⟨rfl, rfl⟩
  clear hrat hawk
  go_wp2_with fail
  have hb4 := hb1.alloc (.cells #[.float .f64 rate, .slice none 0 0] 50)
  have hm4 := Blk.new w3 50 #[.float .f64 rate, .slice none 0 0]
  have hk4 := hk1.alloc (.cells #[.float .f64 rate, .slice none 0 0] 50)
  obtain ⟨mb, hmb⟩ : ∃ mb, mb = w3.heap.size := ⟨_, rfl⟩
  rw [← hmb] at hm4 ⊢
  have hbm : b ≠ mb := by have := hb1.lt; omega
  have hwm : w.heap.size ≤ mb := by have := hk1.size; omega
  generalize w3.alloc (.cells #[.float .f64 rate, .slice none 0 0] 50) = w4 at *
  clear hmb hb1 hk1
  have hr0 : TRel [] ⟨0, 0, 0, false, rate, 0, 0⟩ := ⟨⟨Int.le_refl _, Int.le_refl _, by show (0 : Int) ≤ 1125899906842624; decide, by show isTime 0 = true; decide, by show isTime 0 = true; decide, by show isTime 0 = true; decide, rateC_rate HRC.out⟩, rfl, rfl, fun _ => rfl, fun h => by cases h⟩
  go_loopg [8] cs.length (fun gk i wr => ∃ (j : Nat) (c : ClkD) (ts : List TakD) (lv : Value), j ≤ cs.length ∧ gk = cs.length - j ∧ i = .int .i64 j ∧ ClkM w b mb rate j c ts lv wr)
  case atStart => exact ⟨0, _, [], _, by omega, rfl, rfl, ⟨hk4, hb4, hm4, hr0, rfl, by simp, by omega, Sl.nil _ _ _, fun k n h => by cases h⟩⟩
  case round =>
    clear hk4 hb4 hm4 hr0
    obtain ⟨j, c, ts, lv, hj, rfl, rfl, hM⟩ := hrel
    by_cases hlt : j < cs.length
    case neg =>
      go_wp2_with fail
      go_ret
      exact ⟨rfl, hM.kp⟩
    by_cases h40 : j < 40
    case neg =>
      go_wp2_with fail
      go_ret
      exact ⟨rfl, hM.kp⟩
    obtain ⟨ba, off, rfl, _, hbl, hcl⟩ := hv.cells (by omega)
    obtain ⟨x, hx⟩ : ∃ x, x = cs[j] := ⟨_, rfl⟩
    have hcj : ∀ q u, q < 4 → (CallD.cells x)[q]? = some u → wr.cell? ⟨ba, off + j * 4 + q, none⟩ = some u := fun q u hq hu => by
      rw [Nat.add_assoc]
      exact (hM.kp.below.cell (p := ⟨ba, off + (j * 4 + q), none⟩) hbl).trans (hcl _ u (by rw [calls_get _ _ _ hq, List.getElem?_eq_getElem hlt, ← hx]; exact hu))
    clear hcl hx
    have i0 : (0 : Int) ≤ (j : Int) := by omega
    have i1 : (j : Int) < (cs.length : Int) := by omega
    have i2 : (j : Int) < 40 := by omega
    have x0 := hcj 0 _ (by omega) rfl
    rw [Nat.add_zero] at x0
    have x1 := hcj 1 _ (by omega) rfl
    have x2 := hcj 2 _ (by omega) rfl
    have x3 := hcj 3 _ (by omega) rfl
    clear hcj
    have z1 := hM.clk.lt
    have z2 := hM.box.lt
    have m0 := hM.box.cell 0
    have m1 := hM.box.cell 1
    simp at m0 m1
    by_cases hk1 : 1 < x.kind
    · go_wp2_with fail
      have hl5 : Tl (fun _ => True) (wr.alloc (.cells #[.int .i64 x.kind, .int .i64 x.h, .int .i64 x.t, .int .i64 x.e] 52)) lv ts := (hM.list.mono (fun _ _ _ => trivial)).alloc _
      refine (refclk_Set rate lv ts c x.h x.t x.e _ hl5 hM.rel (by have := hM.len; omega)).mono ?_; rintro e' w6 ⟨lv', rfl, hk6, hl6⟩
      obtain ⟨ts', hts'⟩ : ∃ ts', ts' = if setErr c x.h x.t x.e = 0 then ts ++ [⟨x.h, true, x.t, x.e, 0⟩] else ts := ⟨_, rfl⟩
      have hr6 := hM.rel.set_ x.h x.t x.e
      rw [← hts'] at hl6 hr6
      have hn6 : ts'.length ≤ ts.length + 1 := by rw [hts']; split <;> simp
      obtain ⟨A', cap', rfl, _, _⟩ := hl6.form
      have hrt6 : (setClk c x.h x.t x.e).rate = rate := by rw [← hM.rate_]; unfold setClk; split <;> rfl
      clear hts'
      have hkA := ((Kp.refl none_ wr).alloc (.cells #[.int .i64 x.kind, .int .i64 x.h, .int .i64 x.t, .int .i64 x.e] 52)).trans hk6 (fun _ _ h => h)
      have hx6 := (Blk.new wr 52 #[.int .i64 x.kind, .int .i64 x.h, .int .i64 x.t, .int .i64 x.e]).kp hk6 (fun h => h)
      have hc6 := hM.clk.kp hkA (fun h => h)
      have y1 := hx6.cell 1
      have y2 := hx6.cell 2
      have y3 := hx6.cell 3
      simp at y1 y2 y3
      have z3 := hx6.lt
      go_wp2_with fail
      have hm7 := (hM.box.kp hkA (fun h => h)).alloc (.cells #[.float .f64 rate, .slice A' ts'.length cap'] 50)
      have hkW := (hM.kp.trans hkA (fun _ _ h => h)).alloc (.cells #[.float .f64 rate, .slice A' ts'.length cap'] 50)
      have hkB := hkA.alloc (.cells #[.float .f64 rate, .slice A' ts'.length cap'] 50)
      have hl7 := hl6.alloc (.cells #[.float .f64 rate, .slice A' ts'.length cap'] 50)
      have hx7 := hx6.alloc (.cells #[.float .f64 rate, .slice A' ts'.length cap'] 50)
      have hc7 := hc6.alloc (.cells #[.float .f64 rate, .slice A' ts'.length cap'] 50)
      have hn7 := Blk.new w6 50 #[.float .f64 rate, .slice A' ts'.length cap']
      have hne : b ≠ w6.heap.size := by have := hc6.lt; omega
      generalize w6.alloc (.cells #[.float .f64 rate, .slice A' ts'.length cap'] 50) = w7 at *
      generalize w6.heap.size = nb at *
      have hset := clock_SetG b c x.h x.t x.e w7 hc7
      generalize setErr c x.h x.t x.e = er at *
      generalize setClk c x.h x.t x.e = c' at *
      clear y1 y2 y3 hx6 hc6 hl6 hkA
      have y1 := hx7.cell 1
      have y2 := hx7.cell 2
      have y3 := hx7.cell 3
      simp at y1 y2 y3
      have hl7' := Tl.off hl7 hc7 hm7 hM.noInt
      have hlen := hM.len
      refine hset.mono ?_; rintro e' w8 ⟨rfl, hk8, hc8⟩
      have hkX := hkW.trans hk8 hbn
      have hm8 := hm7.kp hk8 (fun e => hbm e.symm)
      have hn8 := hn7.kp hk8 (fun e => hne e.symm)
      have hl8 := hl7'.kp hk8 (fun i _ h e => h.1 e)
      clear hset y1 y2 y3 hx7 hc7 hm7 hn7 hl7 hl7' hkW hkB hk8 hM z1 z2 z3 m0 m1 x0 x1 x2 x3
      have n0 := hn8.cell 0
      have n1 := hn8.cell 1
      have q0 := hm8.cell 0
      have q1 := hm8.cell 1
      have q2 := hm8.frozen 0
      have q3 := hm8.frozen 1
      simp at n0 n1 q0 q1
      have z1 := hn8.lt
      have z2 := hm8.lt
      go_wp2_with fail
      go_roundg (cs.length - (j + 1))
      case measure => omega
      case rel => exact ⟨j + 1, c', ts', _, hlt, rfl, by go_num, ClkM.put hkX hc8 hm8 hbm hwm hr6 hrt6 (by omega) (by omega) hl8⟩
    have hk1' : x.kind ≤ 1 := by omega
    clear hk1
    by_cases hk2 : x.kind < 0
    · go_wp2_with fail
      have hl5 : Tl (fun _ => True) (wr.alloc (.cells #[.int .i64 x.kind, .int .i64 x.h, .int .i64 x.t, .int .i64 x.e] 52)) lv ts := (hM.list.mono (fun _ _ _ => trivial)).alloc _
      refine (refclk_Set rate lv ts c x.h x.t x.e _ hl5 hM.rel (by have := hM.len; omega)).mono ?_; rintro e' w6 ⟨lv', rfl, hk6, hl6⟩
      obtain ⟨ts', hts'⟩ : ∃ ts', ts' = if setErr c x.h x.t x.e = 0 then ts ++ [⟨x.h, true, x.t, x.e, 0⟩] else ts := ⟨_, rfl⟩
      have hr6 := hM.rel.set_ x.h x.t x.e
      rw [← hts'] at hl6 hr6
      have hn6 : ts'.length ≤ ts.length + 1 := by rw [hts']; split <;> simp
      obtain ⟨A', cap', rfl, _, _⟩ := hl6.form
      have hrt6 : (setClk c x.h x.t x.e).rate = rate := by rw [← hM.rate_]; unfold setClk; split <;> rfl
      clear hts'
      have hkA := ((Kp.refl none_ wr).alloc (.cells #[.int .i64 x.kind, .int .i64 x.h, .int .i64 x.t, .int .i64 x.e] 52)).trans hk6 (fun _ _ h => h)
      have hx6 := (Blk.new wr 52 #[.int .i64 x.kind, .int .i64 x.h, .int .i64 x.t, .int .i64 x.e]).kp hk6 (fun h => h)
      have hc6 := hM.clk.kp hkA (fun h => h)
      have y1 := hx6.cell 1
      have y2 := hx6.cell 2
      have y3 := hx6.cell 3
      simp at y1 y2 y3
      have z3 := hx6.lt
      go_wp2_with fail
      have hm7 := (hM.box.kp hkA (fun h => h)).alloc (.cells #[.float .f64 rate, .slice A' ts'.length cap'] 50)
      have hkW := (hM.kp.trans hkA (fun _ _ h => h)).alloc (.cells #[.float .f64 rate, .slice A' ts'.length cap'] 50)
      have hkB := hkA.alloc (.cells #[.float .f64 rate, .slice A' ts'.length cap'] 50)
      have hl7 := hl6.alloc (.cells #[.float .f64 rate, .slice A' ts'.length cap'] 50)
      have hx7 := hx6.alloc (.cells #[.float .f64 rate, .slice A' ts'.length cap'] 50)
      have hc7 := hc6.alloc (.cells #[.float .f64 rate, .slice A' ts'.length cap'] 50)
      have hn7 := Blk.new w6 50 #[.float .f64 rate, .slice A' ts'.length cap']
      have hne : b ≠ w6.heap.size := by have := hc6.lt; omega
      generalize w6.alloc (.cells #[.float .f64 rate, .slice A' ts'.length cap'] 50) = w7 at *
      generalize w6.heap.size = nb at *
      have hset := clock_SetG b c x.h x.t x.e w7 hc7
      generalize setErr c x.h x.t x.e = er at *
      generalize setClk c x.h x.t x.e = c' at *
      clear y1 y2 y3 hx6 hc6 hl6 hkA
      have y1 := hx7.cell 1
      have y2 := hx7.cell 2
      have y3 := hx7.cell 3
      simp at y1 y2 y3
      have hl7' := Tl.off hl7 hc7 hm7 hM.noInt
      have hlen := hM.len
      refine hset.mono ?_; rintro e' w8 ⟨rfl, hk8, hc8⟩
      have hkX := hkW.trans hk8 hbn
      have hm8 := hm7.kp hk8 (fun e => hbm e.symm)
      have hn8 := hn7.kp hk8 (fun e => hne e.symm)
      have hl8 := hl7'.kp hk8 (fun i _ h e => h.1 e)
      clear hset y1 y2 y3 hx7 hc7 hm7 hn7 hl7 hl7' hkW hkB hk8 hM z1 z2 z3 m0 m1 x0 x1 x2 x3
      have n0 := hn8.cell 0
      have n1 := hn8.cell 1
      have q0 := hm8.cell 0
      have q1 := hm8.cell 1
      have q2 := hm8.frozen 0
      have q3 := hm8.frozen 1
      simp at n0 n1 q0 q1
      have z1 := hn8.lt
      have z2 := hm8.lt
      go_wp2_with fail
      go_roundg (cs.length - (j + 1))
      case measure => omega
      case rel => exact ⟨j + 1, c', ts', _, hlt, rfl, by go_num, ClkM.put hkX hc8 hm8 hbm hwm hr6 hrt6 (by omega) (by omega) hl8⟩
    have hk2' : 0 ≤ x.kind := by omega
    clear hk2
    go_wp2_with fail
    have hl5 : Tl (fun _ => True) (wr.alloc (.cells #[.int .i64 x.kind, .int .i64 x.h, .int .i64 x.t, .int .i64 x.e] 52)) lv ts := (hM.list.mono (fun _ _ _ => trivial)).alloc _
    refine (refclk_Now rate lv ts c x.h _ hl5 hM.rel (by have := hM.len; omega) HRC.out hM.rate_).mono ?_; rintro e' w6 ⟨lv', rfl, hk6, hl6⟩
    obtain ⟨ts', hts'⟩ : ∃ ts', ts' = if nowErr c x.h = 0 then ts ++ [⟨x.h, false, 0, 0, nowLo c x.h⟩] else ts := ⟨_, rfl⟩
    have hr6 := hM.rel.now_ x.h (fun he => now_bounds c x.h hM.rel.ok he)
    rw [← hts'] at hl6 hr6
    have hn6 : ts'.length ≤ ts.length + 1 := by rw [hts']; split <;> simp
    obtain ⟨A', cap', rfl, _, _⟩ := hl6.form
    have hrt6 : (nowClk c x.h).rate = rate := by rw [← hM.rate_]; unfold nowClk; split <;> rfl
    clear hts'
    have hkA := ((Kp.refl none_ wr).alloc (.cells #[.int .i64 x.kind, .int .i64 x.h, .int .i64 x.t, .int .i64 x.e] 52)).trans hk6 (fun _ _ h => h)
    have hx6 := (Blk.new wr 52 #[.int .i64 x.kind, .int .i64 x.h, .int .i64 x.t, .int .i64 x.e]).kp hk6 (fun h => h)
    have hc6 := hM.clk.kp hkA (fun h => h)
    have hm6 := hM.box.kp hkA (fun h => h)
    have hkW := hM.kp.trans hkA (fun _ _ h => h)
    have hl6' := Tl.off hl6 hc6 hm6 hM.noInt
    have hlen := hM.len
    have hcok := hM.rel.ok
    have hnow := fun wx hbx => clock_NowG b c x.h wx hbx hcok
    have hpast := fun wx hbx => clock_PastG b c x.t x.h wx hbx hcok
    generalize nowErr c x.h = er at *
    generalize nowLoE c x.h = lo at *
    generalize nowHiE c x.h = hi at *
    generalize nowClk c x.h = c' at *
    have q2 := hm6.frozen 0
    have q3 := hm6.frozen 1
    have q0 := hm6.cell 0
    have q1 := hm6.cell 1
    simp at q0 q1
    have z3 := hm6.lt
    have z4 := hx6.lt
    have z5 := hc6.lt
    clear x0 x1 x2 x3 m0 m1 hM
    have y0 := hx6.cell 0
    have y1 := hx6.cell 1
    have y2 := hx6.cell 2
    simp at y0 y1 y2
    by_cases hk0 : x.kind = 0
    · rw [hk0] at y0
      go_wp2_with fail
      have hk9 : Kp none_ w ((((w6.setCell ⟨mb, 0, none⟩ (.float .f64 rate)).setCell ⟨mb, 1, none⟩ (.slice A' ts'.length cap')).alloc (.cells #[.float .f64 rate, .slice A' ts'.length cap'] 50)).alloc (.cells #[.int .i64 lo, .int .i64 hi] 28)) := ((hkW.trans (put_kp _) (fun i hi e => by cases e; omega)).alloc _).alloc _
      have hc9 : Blk ((((w6.setCell ⟨mb, 0, none⟩ (.float .f64 rate)).setCell ⟨mb, 1, none⟩ (.slice A' ts'.length cap')).alloc (.cells #[.float .f64 rate, .slice A' ts'.length cap'] 50)).alloc (.cells #[.int .i64 lo, .int .i64 hi] 28)) b 112 c.cells := ((hc6.kp (put_kp _) hbm).alloc _).alloc _
      have hx9 : Blk ((((w6.setCell ⟨mb, 0, none⟩ (.float .f64 rate)).setCell ⟨mb, 1, none⟩ (.slice A' ts'.length cap')).alloc (.cells #[.float .f64 rate, .slice A' ts'.length cap'] 50)).alloc (.cells #[.int .i64 lo, .int .i64 hi] 28)) wr.heap.size 52 _ := ((hx6.kp (put_kp _) (fun e => by have e : wr.heap.size = mb := e; omega)).alloc _).alloc _
      have hm9 : Blk ((((w6.setCell ⟨mb, 0, none⟩ (.float .f64 rate)).setCell ⟨mb, 1, none⟩ (.slice A' ts'.length cap')).alloc (.cells #[.float .f64 rate, .slice A' ts'.length cap'] 50)).alloc (.cells #[.int .i64 lo, .int .i64 hi] 28)) mb 50 _ := ((put_box (.slice A' ts'.length cap') hm6).alloc _).alloc _
      have hl9 : Tl (fun k => k ≠ b ∧ k ≠ mb) ((((w6.setCell ⟨mb, 0, none⟩ (.float .f64 rate)).setCell ⟨mb, 1, none⟩ (.slice A' ts'.length cap')).alloc (.cells #[.float .f64 rate, .slice A' ts'.length cap'] 50)).alloc (.cells #[.int .i64 lo, .int .i64 hi] 28)) (.slice A' ts'.length cap') ts' := ((hl6'.kp (put_kp _) (fun i _ h e => h.2 e)).alloc _).alloc _
      have hs9 : Blk ((((w6.setCell ⟨mb, 0, none⟩ (.float .f64 rate)).setCell ⟨mb, 1, none⟩ (.slice A' ts'.length cap')).alloc (.cells #[.float .f64 rate, .slice A' ts'.length cap'] 50)).alloc (.cells #[.int .i64 lo, .int .i64 hi] 28)) (w6.heap.size + 1) 28 #[.int .i64 lo, .int .i64 hi] := Blk.new' _ _ _ _ (by simp)
      have hns : b ≠ w6.heap.size + 1 := by omega
      have hxb : b ≠ wr.heap.size := by omega
      clear y0 y1 y2 q0 q1 q2 q3 z3 z4 z5 hx6 hc6 hm6 hkW hl6' hl6 hkA hk6 hl5 z2 z1
      generalize (((w6.setCell ⟨mb, 0, none⟩ (.float .f64 rate)).setCell ⟨mb, 1, none⟩ (.slice A' ts'.length cap')).alloc (.cells #[.float .f64 rate, .slice A' ts'.length cap'] 50)).alloc (.cells #[.int .i64 lo, .int .i64 hi] 28) = w9 at *
      generalize w6.heap.size + 1 = sb at *
      refine (hnow _ hc9).mono ?_; rintro e' w10 ⟨rfl, hk10, hc10⟩
      have hkX := hk9.trans hk10 hbn
      have hx10 := hx9.kp hk10 (fun e => hxb e.symm)
      have hm10 := hm9.kp hk10 (fun e => hbm e.symm)
      have hs10 := hs9.kp hk10 (fun e => hns e.symm)
      have hl10 := hl9.kp hk10 (fun i _ h e => h.1 e)
      clear hnow hpast hk9 hk10 hx9 hm9 hs9 hl9 hc9
      have y0 := hx10.cell 0
      have y1 := hx10.cell 1
      have y2 := hx10.cell 2
      have s0 := hs10.cell 0
      have s1 := hs10.cell 1
      simp at y0 y1 y2 s0 s1
      have z1 := hs10.lt
      have z2 := hx10.lt
      have z3 := hm10.lt
      go_wp2_with fail
      go_roundg (cs.length - (j + 1))
      case measure => omega
      case rel => exact ⟨j + 1, c', ts', _, hlt, rfl, by go_num, ⟨hkX.alloc _, hc10.alloc _, hm10.alloc _, hr6, hrt6, by omega, by omega, hl10.alloc _, fun k n h => by cases h⟩⟩
    · have hk1 : x.kind = 1 := by omega
      rw [hk1] at y0
      go_wp2_with fail
      have hk9 : Kp none_ w ((((w6.setCell ⟨mb, 0, none⟩ (.float .f64 rate)).setCell ⟨mb, 1, none⟩ (.slice A' ts'.length cap')).alloc (.cells #[.float .f64 rate, .slice A' ts'.length cap'] 50)).alloc (.cells #[.int .i64 lo, .int .i64 hi] 28)) := ((hkW.trans (put_kp _) (fun i hi e => by cases e; omega)).alloc _).alloc _
      have hc9 : Blk ((((w6.setCell ⟨mb, 0, none⟩ (.float .f64 rate)).setCell ⟨mb, 1, none⟩ (.slice A' ts'.length cap')).alloc (.cells #[.float .f64 rate, .slice A' ts'.length cap'] 50)).alloc (.cells #[.int .i64 lo, .int .i64 hi] 28)) b 112 c.cells := ((hc6.kp (put_kp _) hbm).alloc _).alloc _
      have hx9 : Blk ((((w6.setCell ⟨mb, 0, none⟩ (.float .f64 rate)).setCell ⟨mb, 1, none⟩ (.slice A' ts'.length cap')).alloc (.cells #[.float .f64 rate, .slice A' ts'.length cap'] 50)).alloc (.cells #[.int .i64 lo, .int .i64 hi] 28)) wr.heap.size 52 _ := ((hx6.kp (put_kp _) (fun e => by have e : wr.heap.size = mb := e; omega)).alloc _).alloc _
      have hm9 : Blk ((((w6.setCell ⟨mb, 0, none⟩ (.float .f64 rate)).setCell ⟨mb, 1, none⟩ (.slice A' ts'.length cap')).alloc (.cells #[.float .f64 rate, .slice A' ts'.length cap'] 50)).alloc (.cells #[.int .i64 lo, .int .i64 hi] 28)) mb 50 _ := ((put_box (.slice A' ts'.length cap') hm6).alloc _).alloc _
      have hl9 : Tl (fun k => k ≠ b ∧ k ≠ mb) ((((w6.setCell ⟨mb, 0, none⟩ (.float .f64 rate)).setCell ⟨mb, 1, none⟩ (.slice A' ts'.length cap')).alloc (.cells #[.float .f64 rate, .slice A' ts'.length cap'] 50)).alloc (.cells #[.int .i64 lo, .int .i64 hi] 28)) (.slice A' ts'.length cap') ts' := ((hl6'.kp (put_kp _) (fun i _ h e => h.2 e)).alloc _).alloc _
      have hs9 : Blk ((((w6.setCell ⟨mb, 0, none⟩ (.float .f64 rate)).setCell ⟨mb, 1, none⟩ (.slice A' ts'.length cap')).alloc (.cells #[.float .f64 rate, .slice A' ts'.length cap'] 50)).alloc (.cells #[.int .i64 lo, .int .i64 hi] 28)) (w6.heap.size + 1) 28 #[.int .i64 lo, .int .i64 hi] := Blk.new' _ _ _ _ (by simp)
      have hns : b ≠ w6.heap.size + 1 := by omega
      have hxb : b ≠ wr.heap.size := by omega
      clear y0 y1 y2 q0 q1 q2 q3 z3 z4 z5 hx6 hc6 hm6 hkW hl6' hl6 hkA hk6 hl5 z2 z1
      generalize (((w6.setCell ⟨mb, 0, none⟩ (.float .f64 rate)).setCell ⟨mb, 1, none⟩ (.slice A' ts'.length cap')).alloc (.cells #[.float .f64 rate, .slice A' ts'.length cap'] 50)).alloc (.cells #[.int .i64 lo, .int .i64 hi] 28) = w9 at *
      generalize w6.heap.size + 1 = sb at *
      refine (hpast _ hc9).mono ?_; rintro e' w10 ⟨rfl, hk10, hc10⟩
      have hkX := hk9.trans hk10 hbn
      have hx10 := hx9.kp hk10 (fun e => hxb e.symm)
      have hm10 := hm9.kp hk10 (fun e => hbm e.symm)
      have hs10 := hs9.kp hk10 (fun e => hns e.symm)
      have hl10 := hl9.kp hk10 (fun i _ h e => h.1 e)
      clear hnow hpast hk9 hk10 hx9 hm9 hs9 hl9 hc9
      have y0 := hx10.cell 0
      have y1 := hx10.cell 1
      have y2 := hx10.cell 2
      have s0 := hs10.cell 0
      have s1 := hs10.cell 1
      simp at y0 y1 y2 s0 s1
      have z1 := hs10.lt
      have z2 := hx10.lt
      have z3 := hm10.lt
      by_cases he : er = 0
      · subst he
        go_wp2_with fail
        go_roundg (cs.length - (j + 1))
        case measure => omega
        case rel => exact ⟨j + 1, c', ts', _, hlt, rfl, by go_num, ⟨hkX, hc10, hm10, hr6, hrt6, by omega, by omega, hl10, fun k n h => by cases h⟩⟩
      · have he' : (er == 0) = false := by simpa using he
        rw [he']
        go_wp2_with fail
        go_roundg (cs.length - (j + 1))
        case measure => omega
        case rel => exact ⟨j + 1, c', ts', _, hlt, rfl, by go_num, ⟨hkX, hc10, hm10, hr6, hrt6, by omega, by omega, hl10, fun k n h => by cases h⟩⟩
end Go.Proofs.Ytjgbandmjamcaaa

/- Contracts: the document's clock is set. -/
import Derived.Test.YtjgbandmjamcaaaClkF
namespace Go.Proofs.Ytjgbandmjamcaaa
open Go.RowKit

theorem run_store_float (P : Program) (w : World) (a : Addr) (m : Mode) (k : FloatKind) (b : Nat) : (store a (.float k b) m).run P w = stored P w a (.float k b) m := run_store P w a _ m rfl
attribute [local go_sem] run_store_float
def refClkOut (rate : Nat) (er : Int) (ts : List TakD) (w : World) (e : Ending) (w' : World) : Prop := ∃ lv, e = .returned (.tuple #[.agg #[.float .f64 rate, lv], .int .i64 er]) ∧ Kp none_ w w' ∧ Tl (fun _ => True) w' lv ts
theorem info_114 : (Try.prog.info? 114).map (fun i => (i.zero, i.size, i.bytes)) = some (some (.agg #[.int .i64 0, .bool false, .int .i64 0, .int .i64 0, .int .i64 0]), 5, 40) := by kernel_rfl
set_option maxRecDepth 100000 in
set_option maxHeartbeats 2000000 in
theorem refclk_Set (rate : Nat) (lv : Value) (ts : List TakD) (c : ClkD) (h t e : Int) (w : World) (hl : Tl (fun _ => True) w lv ts) (hr : TRel ts c) (hn : ts.length ≤ 1000) :
    Calls Try.prog 21 #[.agg #[.float .f64 rate, lv], .int .i64 h, .int .i64 t, .int .i64 e] w (refClkOut rate (setErr c h t e) (if setErr c h t e = 0 then ts ++ [⟨h, true, t, e, 0⟩] else ts) w) := by
  obtain ⟨A, cap, rfl, hcap, hmax⟩ := hl.form
  unfold maxLen at hmax
  have hA : Blk ((w.alloc (.cells #[.float .f64 rate, .slice A ts.length cap] 50)).alloc (.cells #[.float .f64 0, .slice none 0 0] 50)) w.heap.size 50 #[.float .f64 rate, .slice A ts.length cap] := (Blk.new _ _ _).alloc _
  have hB : Blk ((w.alloc (.cells #[.float .f64 rate, .slice A ts.length cap] 50)).alloc (.cells #[.float .f64 0, .slice none 0 0] 50)) (w.heap.size + 1) 50 #[.float .f64 0, .slice none 0 0] := Blk.new' _ _ _ _ (by simp)
  have hk0 : Kp none_ w ((w.alloc (.cells #[.float .f64 rate, .slice A ts.length cap] 50)).alloc (.cells #[.float .f64 0, .slice none 0 0] 50)) := ((Kp.refl _ _).alloc _).alloc _
  obtain ⟨w1, hw1⟩ : ∃ w1, w1 = (w.alloc (.cells #[.float .f64 rate, .slice A ts.length cap] 50)).alloc (.cells #[.float .f64 0, .slice none 0 0] 50) := ⟨_, rfl⟩
  have htm : ∀ (n : Int) (wx : World), Calls Try.prog 49 #[.int .i64 n] wx (Ret (.bool (isTime n)) (· = wx)) := fun n wx => (ref_Time n wx).mono fun e' w' h => ⟨h.1, h.2.symm⟩
  have hA1 := (by rw [hw1]; exact hA : Blk w1 _ _ _)
  have hB1 := (by rw [hw1]; exact hB : Blk w1 _ _ _)
  have hk1 := (by rw [hw1]; exact hk0 : Kp none_ w w1)
  clear hA hB hk0
  have a0 := hA1.cell 0
  have a1 := hA1.cell 1
  have b0 := hB1.cell 0
  have b1 := hB1.cell 1
  have f0 := hB1.frozen 0
  have f1 := hB1.frozen 1
  have f2 := hA1.frozen 1
  simp at a0 a1 b0 b1
  by_cases hall : (isTime h && isTime t && isTime e) = true
  case neg =>
    have he : setErr c h t e = 61 := by unfold setErr; rw [if_neg hall]
    rw [he, if_neg (by decide)]
    clear he
    by_cases h1 : isTime h = true
    · by_cases h2 : isTime t = true
      · have h3 : isTime e = false := by rw [h1, h2] at hall; simpa using hall
        go_enter Try.func21, Try.ntmps21
        go_wp2_with fail
        rw [← hw1]
        clear hw1 hall
        refine (htm h _).mono ?_; rintro e' w1 ⟨rfl, rfl⟩
        rw [h1]
        go_wp2_with fail
        refine (htm t _).mono ?_; rintro e' w2 ⟨rfl, rfl⟩
        rw [h2]
        go_wp2_with fail
        refine (htm e _).mono ?_; rintro e' w3 ⟨rfl, rfl⟩
        rw [h3]
        have hz := (hB1.set 0 (.float .f64 rate)).set 1 (.slice A ts.length cap)
        have e0 := hz.cell 0
        have e1 := hz.cell 1
        simp at e0 e1
        have hkz := (hk1.setCell (p := ⟨w.heap.size + 1, 0, none⟩) (.float .f64 rate) (.inr (by simp))).setCell (p := ⟨w.heap.size + 1, 1, none⟩) (.slice A ts.length cap) (.inr (by simp))
        have hfin : refClkOut rate 61 ts w (.returned (.tuple #[.agg #[.float .f64 rate, .slice A ts.length cap], .int .i64 61])) _ := ⟨_, rfl, hkz, hl.then_ hkz⟩
        have HF := Lib.hid hfin
        clear hfin hkz
        go_wp2_with fail
        refine bodyPost_ret (v := .tuple #[.agg #[.float .f64 rate, .slice A ts.length cap], .int .i64 61]) ?_ rfl ?_
        · simp [results, Try.results21, go_sem, e0, e1]
        · exact HF.out
      · have h2' : isTime t = false := by simpa using h2
        go_enter Try.func21, Try.ntmps21
        go_wp2_with fail
        rw [← hw1]
        clear hw1 hall
        refine (htm h _).mono ?_; rintro e' w1 ⟨rfl, rfl⟩
        rw [h1]
        go_wp2_with fail
        refine (htm t _).mono ?_; rintro e' w2 ⟨rfl, rfl⟩
        rw [h2']
        have hz := (hB1.set 0 (.float .f64 rate)).set 1 (.slice A ts.length cap)
        have e0 := hz.cell 0
        have e1 := hz.cell 1
        simp at e0 e1
        have hkz := (hk1.setCell (p := ⟨w.heap.size + 1, 0, none⟩) (.float .f64 rate) (.inr (by simp))).setCell (p := ⟨w.heap.size + 1, 1, none⟩) (.slice A ts.length cap) (.inr (by simp))
        have hfin : refClkOut rate 61 ts w (.returned (.tuple #[.agg #[.float .f64 rate, .slice A ts.length cap], .int .i64 61])) _ := ⟨_, rfl, hkz, hl.then_ hkz⟩
        have HF := Lib.hid hfin
        clear hfin hkz
        go_wp2_with fail
        refine bodyPost_ret (v := .tuple #[.agg #[.float .f64 rate, .slice A ts.length cap], .int .i64 61]) ?_ rfl ?_
        · simp [results, Try.results21, go_sem, e0, e1]
        · exact HF.out
    · have h1' : isTime h = false := by simpa using h1
      go_enter Try.func21, Try.ntmps21
      go_wp2_with fail
      rw [← hw1]
      clear hw1 hall
      refine (htm h _).mono ?_; rintro e' w1 ⟨rfl, rfl⟩
      rw [h1']
      have hz := (hB1.set 0 (.float .f64 rate)).set 1 (.slice A ts.length cap)
      have e0 := hz.cell 0
      have e1 := hz.cell 1
      simp at e0 e1
      have hkz := (hk1.setCell (p := ⟨w.heap.size + 1, 0, none⟩) (.float .f64 rate) (.inr (by simp))).setCell (p := ⟨w.heap.size + 1, 1, none⟩) (.slice A ts.length cap) (.inr (by simp))
      have hfin : refClkOut rate 61 ts w (.returned (.tuple #[.agg #[.float .f64 rate, .slice A ts.length cap], .int .i64 61])) _ := ⟨_, rfl, hkz, hl.then_ hkz⟩
      have HF := Lib.hid hfin
      clear hfin hkz
      go_wp2_with fail
      refine bodyPost_ret (v := .tuple #[.agg #[.float .f64 rate, .slice A ts.length cap], .int .i64 61]) ?_ rfl ?_
      · simp [results, Try.results21, go_sem, e0, e1]
      · exact HF.out
  simp only [Bool.and_eq_true] at hall
  obtain ⟨⟨h1, h2⟩, h3⟩ := hall
  have hb1 := isTime_iff.1 h1
  have htail : ∀ wx, Kp none_ w wx → ts ≠ [] → ∃ (bb off : Nat), A = some ⟨bb, off, none⟩ ∧ wx.cell? ⟨bb, off + (ts.length - 1) * 5, none⟩ = some (.int .i64 c.last) := fun wx hk hne => by
    have h0 : 0 < ts.length := List.length_pos_iff.2 hne
    obtain ⟨bb, off, hA, _, _, hcl⟩ := (hl.then_ hk).cells h0
    refine ⟨bb, off, hA, ?_⟩
    have hg := hcl ((ts.length - 1) * 5 + 0) (.int .i64 c.last) (by
      rw [taks_get ts (ts.length - 1) 0 (by omega), List.getElem?_eq_getElem (by omega)]
      have hll := hr.last
      unfold lastH at hll
      rw [List.getElem?_eq_getElem (by omega)] at hll
      show some (Value.int .i64 _) = _
      rw [← hll]
      rfl)
    exact hg
  have HT := Lib.hid htail
  clear htail
  by_cases hlt : h < c.last
  · have he : setErr c h t e = 62 := by unfold setErr; rw [h1, h2, h3]; simp [hlt]
    rw [he, if_neg (by decide)]
    clear he
    have hne : ts ≠ [] := by
      rintro rfl
      have : c.last = 0 := by rw [← hr.last]; rfl
      omega
    obtain ⟨bb, off, rfl, cl⟩ := HT.out w1 hk1 hne
    have j0 : 0 < ts.length := List.length_pos_iff.2 hne
    have j1 : (0 : Int) ≤ (ts.length : Int) - 1 := by omega
    have j2 : (ts.length : Int) - 1 < (ts.length : Int) := by omega
    have j3 : ((ts.length : Int) - 1).toNat = ts.length - 1 := by omega
    clear hne HT
    go_enter Try.func21, Try.ntmps21
    go_wp2_with fail
    rw [← hw1]
    clear hw1
    refine (htm h _).mono ?_; rintro e' w1 ⟨rfl, rfl⟩
    rw [h1]
    go_wp2_with fail
    refine (htm t _).mono ?_; rintro e' w2 ⟨rfl, rfl⟩
    rw [h2]
    go_wp2_with fail
    refine (htm e _).mono ?_; rintro e' w3 ⟨rfl, rfl⟩
    rw [h3]
    have hz := (hB1.set 0 (.float .f64 rate)).set 1 (.slice (some ⟨bb, off, none⟩) ts.length cap)
    have e0 := hz.cell 0
    have e1 := hz.cell 1
    simp at e0 e1
    have hkz := (hk1.setCell (p := ⟨w.heap.size + 1, 0, none⟩) (.float .f64 rate) (.inr (by simp))).setCell (p := ⟨w.heap.size + 1, 1, none⟩) (.slice (some ⟨bb, off, none⟩) ts.length cap) (.inr (by simp))
    have hfin : refClkOut rate 62 ts w (.returned (.tuple #[.agg #[.float .f64 rate, .slice (some ⟨bb, off, none⟩) ts.length cap], .int .i64 62])) _ := ⟨_, rfl, hkz, hl.then_ hkz⟩
    have HF := Lib.hid hfin
    clear hfin hkz
    go_wp2_with fail
    refine bodyPost_ret (v := .tuple #[.agg #[.float .f64 rate, .slice (some ⟨bb, off, none⟩) ts.length cap], .int .i64 62]) ?_ rfl ?_
    · simp [results, Try.results21, go_sem, e0, e1]
    · exact HF.out
  · have he : setErr c h t e = 0 := by unfold setErr; rw [h1, h2, h3]; simp [hlt]
    rw [he, if_pos rfl]
    clear he
    obtain ⟨i0, hi, hz0, hz1, hz2⟩ := info_parts info_114
    by_cases hne : ts = []
    · have hn0 : ts.length = 0 := by rw [hne]; rfl
      have HN0 := Lib.hid hn0
      have j0 : decide (0 < ts.length) = false := by simp; omega
      have j1 : ¬ 0 < ts.length := by omega
      clear hne HT hn0
      go_enter Try.func21, Try.ntmps21
      go_wp2_with fail
      rw [← hw1]
      clear hw1
      refine (htm h _).mono ?_; rintro e' w1 ⟨rfl, rfl⟩
      rw [h1]
      go_wp2_with fail
      refine (htm t _).mono ?_; rintro e' w2 ⟨rfl, rfl⟩
      rw [h2]
      go_wp2_with fail
      refine (htm e _).mono ?_; rintro e' w3 ⟨rfl, rfl⟩
      rw [h3]
      have zA := hA1.lt
      have zB := hB1.lt
      have ho := owns_empty w3 w3.heap.size 114 5 (Nat.le_refl _)
      go_wp2_with (at_builtin; refine wpList_append_sl (P := Try.prog) (w3.alloc (.cells #[] 114)) (by rfl) (.tmp 42) (.tmp 44) 48 (by rfl) w3.heap.size 114 i0 _ 5 40 Try.underlying48 hi hz0 hz1 hz2 (by rfl) (by decide) (.slice (some ⟨w3.heap.size, 0, none⟩) 0 0) 0 [] (by rfl) ho (fun _ => True) (.slice A ts.length cap) ts.length (taks ts) (by rfl) ?ca ?cb ?cc ?cd ?ce ?_)
      case ca => exact (hl.then_ hk1).alloc _
      case cb => exact taks_one ts
      case cc => unfold maxLen; omega
      case cd => omega
      case ce => simp
      intro v1 w4 ho1 hg1 hat1
      have ho2 := owns_alloc ho1 (.cells #[.int .i64 h, .bool true, .int .i64 t, .int .i64 e, .int .i64 0] 114)
      have hb2 : Blk (w4.alloc (.cells #[.int .i64 h, .bool true, .int .i64 t, .int .i64 e, .int .i64 0] 114)) w4.heap.size 114 #[.int .i64 h, .bool true, .int .i64 t, .int .i64 e, .int .i64 0] := Blk.new _ _ _
      have hk2 : Kp none_ w3 w4 := ((Kp.refl none_ w3).alloc _).grown hg1 (fun k hk => .inr (by cases hk; simp))
      go_wp2_with (at_builtin; refine wpList_append_sl (P := Try.prog) (w4.alloc (.cells #[.int .i64 h, .bool true, .int .i64 t, .int .i64 e, .int .i64 0] 114)) (by rfl) (.tmp 45) (.tmp 50) 48 (by rfl) w3.heap.size 114 i0 _ 5 40 Try.underlying48 hi hz0 hz1 hz2 (by rfl) (by decide) v1 ts.length (taks ts) (by rfl) ho2 (fun _ => True) (.slice (some ⟨w4.heap.size, 0, none⟩) 1 1) 1 (TakD.cells ⟨h, true, t, e, 0⟩) (by rfl) ?ca ?cb ?cc ?cd ?ce ?_)
      case ca => exact Sl.of_blk hb2 trivial 1 5 rfl (by unfold maxLen; omega)
      case cb => have := taks_one [⟨h, true, t, e, 0⟩]; simpa [taks] using this
      case cc => unfold maxLen; omega
      case cd => omega
      case ce => have := hk2.size; simp; omega
      intro v3 w5 ho3 hg3 hat3
      have hk3 : Kp none_ w3 w5 := (hk2.alloc _).grown hg3 (fun k hk => .inr (owns_ge ho2 k hk).1)
      rw [taks_snoc] at ho3
      have hs3 : Tl (fun k => w3.heap.size ≤ k) w5 v3 (ts ++ [⟨h, true, t, e, 0⟩]) := by
        have := Sl.of_own (ok := fun k => w3.heap.size ≤ k) ho3 (fun _ h => h)
        show Sl _ _ _ _ (ts ++ [_]).length _
        rw [List.length_append]
        exact this
      obtain ⟨A3, cap3, hv3, _, _⟩ := hs3.form
      subst hv3
      rw [List.length_append] at hs3
      have hA5 := hA1.kp hk3 (fun h => h)
      have hB5 := hB1.kp hk3 (fun h => h)
      have hkw := hk1.then_ hk3
      clear a0 a1 b0 b1 f0 f1 f2
      have a0 := hA5.cell 0
      have a1 := hA5.cell 1
      have b0 := hB5.cell 0
      have b1 := hB5.cell 1
      have f0 := hB5.frozen 0
      have f1 := hB5.frozen 1
      have f2 := hA5.frozen 1
      simp at a0 a1 b0 b1
      clear ho ho1 ho2 ho3 hg1 hg3 hat1 hat3 hb2
      go_wp2_with fail
      have hz := (((hB5.far (p := ⟨w.heap.size, 1, none⟩) (by simp) (.slice A3 (ts.length + 1) cap3))).set 0 (.float .f64 rate)).set 1 (.slice A3 (ts.length + 1) cap3)
      have e0 := hz.cell 0
      have e1 := hz.cell 1
      simp at e0 e1
      have kz : Kp (fun k => k = w.heap.size ∨ k = w.heap.size + 1) w5 (((w5.setCell ⟨w.heap.size, 1, none⟩ (.slice A3 (ts.length + 1) cap3)).setCell ⟨w.heap.size + 1, 0, none⟩ (.float .f64 rate)).setCell ⟨w.heap.size + 1, 1, none⟩ (.slice A3 (ts.length + 1) cap3)) := (((Kp.refl _ w5).setCell (p := ⟨w.heap.size, 1, none⟩) _ (.inl (.inl rfl))).setCell (p := ⟨w.heap.size + 1, 0, none⟩) _ (.inl (.inr rfl))).setCell (p := ⟨w.heap.size + 1, 1, none⟩) _ (.inl (.inr rfl))
      have hkz : Kp none_ w _ := hkw.trans kz (fun i hi hc => by omega)
      have hsz := hs3.kp kz (fun i hi hc hd => by omega)
      refine bodyPost_ret (v := .tuple #[.agg #[.float .f64 rate, .slice A3 (ts.length + 1) cap3], .int .i64 0]) ?_ rfl ?_
      · simp [results, Try.results21, go_sem, e0, e1]
      · exact ⟨_, rfl, hkz, by
          exact hsz.mono (ok' := fun _ => True) (fun _ _ _ => trivial)⟩
    · obtain ⟨bb, off, rfl, cl⟩ := HT.out w1 hk1 hne
      have j0 : 0 < ts.length := List.length_pos_iff.2 hne
      have j1 : (0 : Int) ≤ (ts.length : Int) - 1 := by omega
      have j2 : (ts.length : Int) - 1 < (ts.length : Int) := by omega
      have j3 : ((ts.length : Int) - 1).toNat = ts.length - 1 := by omega
      have j4 : c.last ≤ h := by omega
      clear hne HT hlt
      go_enter Try.func21, Try.ntmps21
      go_wp2_with fail
      rw [← hw1]
      clear hw1
      refine (htm h _).mono ?_; rintro e' w1 ⟨rfl, rfl⟩
      rw [h1]
      go_wp2_with fail
      refine (htm t _).mono ?_; rintro e' w2 ⟨rfl, rfl⟩
      rw [h2]
      go_wp2_with fail
      refine (htm e _).mono ?_; rintro e' w3 ⟨rfl, rfl⟩
      rw [h3]
      have zA := hA1.lt
      have zB := hB1.lt
      have ho := owns_empty w3 w3.heap.size 114 5 (Nat.le_refl _)
      go_wp2_with (at_builtin; refine wpList_append_sl (P := Try.prog) (w3.alloc (.cells #[] 114)) (by rfl) (.tmp 42) (.tmp 44) 48 (by rfl) w3.heap.size 114 i0 _ 5 40 Try.underlying48 hi hz0 hz1 hz2 (by rfl) (by decide) (.slice (some ⟨w3.heap.size, 0, none⟩) 0 0) 0 [] (by rfl) ho (fun _ => True) (.slice (some ⟨bb, off, none⟩) ts.length cap) ts.length (taks ts) (by rfl) ?ca ?cb ?cc ?cd ?ce ?_)
      case ca => exact (hl.then_ hk1).alloc _
      case cb => exact taks_one ts
      case cc => unfold maxLen; omega
      case cd => omega
      case ce => simp
      intro v1 w4 ho1 hg1 hat1
      have ho2 := owns_alloc ho1 (.cells #[.int .i64 h, .bool true, .int .i64 t, .int .i64 e, .int .i64 0] 114)
      have hb2 : Blk (w4.alloc (.cells #[.int .i64 h, .bool true, .int .i64 t, .int .i64 e, .int .i64 0] 114)) w4.heap.size 114 #[.int .i64 h, .bool true, .int .i64 t, .int .i64 e, .int .i64 0] := Blk.new _ _ _
      have hk2 : Kp none_ w3 w4 := ((Kp.refl none_ w3).alloc _).grown hg1 (fun k hk => .inr (by cases hk; simp))
      go_wp2_with (at_builtin; refine wpList_append_sl (P := Try.prog) (w4.alloc (.cells #[.int .i64 h, .bool true, .int .i64 t, .int .i64 e, .int .i64 0] 114)) (by rfl) (.tmp 45) (.tmp 50) 48 (by rfl) w3.heap.size 114 i0 _ 5 40 Try.underlying48 hi hz0 hz1 hz2 (by rfl) (by decide) v1 ts.length (taks ts) (by rfl) ho2 (fun _ => True) (.slice (some ⟨w4.heap.size, 0, none⟩) 1 1) 1 (TakD.cells ⟨h, true, t, e, 0⟩) (by rfl) ?ca ?cb ?cc ?cd ?ce ?_)
      case ca => exact Sl.of_blk hb2 trivial 1 5 rfl (by unfold maxLen; omega)
      case cb => have := taks_one [⟨h, true, t, e, 0⟩]; simpa [taks] using this
      case cc => unfold maxLen; omega
      case cd => omega
      case ce => have := hk2.size; simp; omega
      intro v3 w5 ho3 hg3 hat3
      have hk3 : Kp none_ w3 w5 := (hk2.alloc _).grown hg3 (fun k hk => .inr (owns_ge ho2 k hk).1)
      rw [taks_snoc] at ho3
      have hs3 : Tl (fun k => w3.heap.size ≤ k) w5 v3 (ts ++ [⟨h, true, t, e, 0⟩]) := by
        have := Sl.of_own (ok := fun k => w3.heap.size ≤ k) ho3 (fun _ h => h)
        show Sl _ _ _ _ (ts ++ [_]).length _
        rw [List.length_append]
        exact this
      obtain ⟨A3, cap3, hv3, _, _⟩ := hs3.form
      subst hv3
      rw [List.length_append] at hs3
      have hA5 := hA1.kp hk3 (fun h => h)
      have hB5 := hB1.kp hk3 (fun h => h)
      have hkw := hk1.then_ hk3
      clear a0 a1 b0 b1 f0 f1 f2
      have a0 := hA5.cell 0
      have a1 := hA5.cell 1
      have b0 := hB5.cell 0
      have b1 := hB5.cell 1
      have f0 := hB5.frozen 0
      have f1 := hB5.frozen 1
      have f2 := hA5.frozen 1
      simp at a0 a1 b0 b1
      clear ho ho1 ho2 ho3 hg1 hg3 hat1 hat3 hb2
      go_wp2_with fail
      have hz := (((hB5.far (p := ⟨w.heap.size, 1, none⟩) (by simp) (.slice A3 (ts.length + 1) cap3))).set 0 (.float .f64 rate)).set 1 (.slice A3 (ts.length + 1) cap3)
      have e0 := hz.cell 0
      have e1 := hz.cell 1
      simp at e0 e1
      have kz : Kp (fun k => k = w.heap.size ∨ k = w.heap.size + 1) w5 (((w5.setCell ⟨w.heap.size, 1, none⟩ (.slice A3 (ts.length + 1) cap3)).setCell ⟨w.heap.size + 1, 0, none⟩ (.float .f64 rate)).setCell ⟨w.heap.size + 1, 1, none⟩ (.slice A3 (ts.length + 1) cap3)) := (((Kp.refl _ w5).setCell (p := ⟨w.heap.size, 1, none⟩) _ (.inl (.inl rfl))).setCell (p := ⟨w.heap.size + 1, 0, none⟩) _ (.inl (.inr rfl))).setCell (p := ⟨w.heap.size + 1, 1, none⟩) _ (.inl (.inr rfl))
      have hkz : Kp none_ w _ := hkw.trans kz (fun i hi hc => by omega)
      have hsz := hs3.kp kz (fun i hi hc hd => by omega)
      refine bodyPost_ret (v := .tuple #[.agg #[.float .f64 rate, .slice A3 (ts.length + 1) cap3], .int .i64 0]) ?_ rfl ?_
      · simp [results, Try.results21, go_sem, e0, e1]
      · exact ⟨_, rfl, hkz, by
          exact hsz.mono (ok' := fun _ => True) (fun _ _ _ => trivial)⟩
end Go.Proofs.Ytjgbandmjamcaaa

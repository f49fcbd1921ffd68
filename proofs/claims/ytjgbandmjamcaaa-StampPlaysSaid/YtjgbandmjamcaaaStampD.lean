/- The walk of StampPlays: a source beside the document's list of stamps, call by call. -/
import Derived.Test.YtjgbandmjamcaaaStampC
namespace Go.Proofs.Ytjgbandmjamcaaa
open Go.RowKit

/-- A call as it lies in memory: five cells, and the list that the last one reads as. -/
structure CallD where
  kind : Int
  t : Int
  lo : Int
  hi : Int
  av : Value
  above : List Int
def CallD.cells (c : CallD) : List Value := [.int .i64 c.kind, .int .i64 c.t, .int .i64 c.lo, .int .i64 c.hi, c.av]
theorem flat5 {α : Type} (f : α → List Value) (hf : ∀ c, (f c).length = 5) : ∀ (l : List α) (i j : Nat), j < 5 → (l.flatMap f)[i * 5 + j]? = (l[i]?).bind fun c => (f c)[j]? := by
  intro l
  induction l with
  | nil => intro i j hj; simp
  | cons c l ih =>
    intro i j hj
    rw [List.flatMap_cons]
    cases i with
    | zero => rw [List.getElem?_append_left (by rw [hf]; omega)]; simp
    | succ i =>
      rw [List.getElem?_append_right (by rw [hf]; omega), hf, show (i + 1) * 5 + j - 5 = i * 5 + j from by omega, ih i j hj]
      simp
theorem Il.take {ok : Nat → Prop} {w : World} {A : Option Addr} {n cap : Nat} {xs : List Int} (h : Il ok w (.slice A n cap) xs) (hn : n = xs.length) (m : Nat) (hm : m ≤ n) : Il ok w (.slice A m cap) (xs.take m) := by
  subst hn
  obtain ⟨_, A', cap', h2, h3, h3', h4⟩ := h
  injection h2 with h2 h2' h2''
  subst h2
  subst h2''
  have hl : (xs.take m).length = m := by simp; omega
  refine ⟨by simp [ints], A, cap, by rw [hl], by omega, h3', fun hn => ?_⟩
  obtain ⟨b, off, e, hb, hlt, hc⟩ := h4 (by omega)
  refine ⟨b, off, e, hb, hlt, fun j u hu => hc j u ?_⟩
  unfold ints at hu ⊢
  rw [List.getElem?_map, List.getElem?_take] at hu
  split at hu
  · rw [List.getElem?_map]; exact hu
  · cases hu

/-- What a source answers, and its last stamp then. -/
def nextP (last lo hi : Int) (xs : List Int) : Int × Int × Int :=
  if isSpan lo hi = true then
    if mxl (max last hi) xs ≥ 1125899906842624 then (0, 101, last) else (mxl (max last hi) xs + 1, 0, mxl (max last hi) xs + 1)
  else (0, 100, last)
theorem stamp_Next' (b : Nat) (last lo hi : Int) (av : Value) (xs : List Int) (w : World) (hb : Blk w b 102 #[.int .i64 last]) (ha : Il (fun k => k ≠ b) w av xs) :
    Calls Try.prog 12 #[.pointer (some ⟨b, 0, none⟩), .agg #[.int .i64 lo, .int .i64 hi], av] w (Ret (.tuple #[.int .i64 (nextP last lo hi xs).1, .int .i64 (nextP last lo hi xs).2.1]) fun w' => Kp (only b) w w' ∧ Blk w' b 102 #[.int .i64 (nextP last lo hi xs).2.2]) := by
  refine (stamp_Next b last lo hi av xs w hb ha).mono fun e w' h => ?_
  unfold nextOut at h
  unfold nextP
  by_cases hs : isSpan lo hi = true
  · rw [if_pos hs] at h ⊢
    by_cases hm : mxl (max last hi) xs ≥ 1125899906842624
    · rw [if_pos hm] at h ⊢
      exact ⟨h.1, h.2.mono (fun _ _ h => h.elim), hb.kp h.2 (fun h => h)⟩
    · rw [if_neg hm] at h ⊢
      exact h
  · rw [if_neg hs] at h ⊢
    exact ⟨h.1, h.2.mono (fun _ _ h => h.elim), hb.kp h.2 (fun h => h)⟩
theorem mxl_max (a : Int) (l : List Int) (h : 0 ≤ a) : mxl a l = max a (mxl 0 l) := by
  have key : ∀ (l : List Int) (a b : Int), mxl (max a b) l = max a (mxl b l) := by
    intro l
    induction l with
    | nil => intro a b; rfl
    | cons x l ih =>
      intro a b
      show mxl (max (max a b) x) l = max a (mxl (max b x) l)
      rw [Int.max_assoc, ih]
  have := key l a 0
  rwa [Int.max_eq_left h] at this
/-- The source and the document's list answer alike, and stay alike. -/
theorem next_alike (ms : List Int) (lo hi : Int) (xs : List Int) : nextP (mxl 0 ms) lo hi xs = ((nextRef ms lo hi xs).2.1, (nextRef ms lo hi xs).2.2, mxl 0 (nextRef ms lo hi xs).1) := by
  have h1 : mxl 0 (ms ++ [hi] ++ xs) = mxl (max (mxl 0 ms) hi) xs := by rw [mxl_append, mxl_snoc]
  unfold nextP nextRef
  rw [h1]
  by_cases hs : isSpan lo hi = true
  · rw [if_pos hs, if_pos hs]
    by_cases hm : mxl (max (mxl 0 ms) hi) xs ≥ 1125899906842624
    · rw [if_pos hm, if_pos (by omega)]
    · rw [if_neg hm, if_neg (by omega)]
      have h2 := mxl_ge (max (mxl 0 ms) hi) xs
      have h3 : mxl 0 ms ≤ max (mxl 0 ms) hi := Int.le_max_left _ _
      rw [mxl_snoc, Int.max_eq_right (a := mxl 0 ms) (b := mxl (max (mxl 0 ms) hi) xs + 1) (by omega)]
  · rw [if_neg hs, if_neg hs]
theorem nextRef_len (ms : List Int) (lo hi : Int) (xs : List Int) : (nextRef ms lo hi xs).1.length ≤ ms.length + 1 := by
  unfold nextRef
  repeat' split
  all_goals simp
theorem keep_alike (ms : List Int) (t : Int) : keepVal (mxl 0 ms) t = mxl 0 (keepRef ms t) := by
  unfold keepVal keepRef
  split
  · rw [mxl_snoc]
  · rfl
theorem keepRef_len (ms : List Int) (t : Int) : (keepRef ms t).length ≤ ms.length + 1 := by
  unfold keepRef
  split <;> simp

set_option maxRecDepth 100000 in
set_option maxHeartbeats 4000000 in
theorem stampPlays_walk (W : World) (v : Value) (cs : List CallD) (hv : Sl (fun _ => True) W 5 v cs.length (cs.flatMap CallD.cells)) (hi : ∀ c ∈ cs, Il (fun _ => True) W c.av c.above) :
    Calls Try.prog 3 #[v] W (Ret (.bool true) (Kp none_ W)) := by
  obtain ⟨A, cap, rfl, hcap, hmax⟩ := hv.form
  unfold maxLen at hmax
  go_enter Try.func3, Try.ntmps3
  go_wp2_with fail
  refine (stamp_New _).mono ?_; rintro e w1 ⟨rfl, rfl⟩
  go_wp2_with fail
  refine (stamp_awake _).mono ?_; rintro e w2 ⟨rfl, hk2⟩
  have hb := (Blk.new W 102 #[.int .i64 0]).kp hk2 (fun h => h)
  have hk : Kp none_ W w2 := ((Kp.refl none_ W).alloc _).then_ hk2
  clear hk2
  go_wp2_with fail
  go_loopg [4, 5] cs.length (fun gk m i wr => ∃ (j : Nat) (ms : List Int), j ≤ cs.length ∧ gk = cs.length - j ∧ i = .int .i64 j ∧ j ≤ 40 ∧ ms.length ≤ j ∧ Kp none_ W wr ∧ Blk wr W.heap.size 102 #[.int .i64 (mxl 0 ms)] ∧ Il (fun k => k ≠ W.heap.size) wr m ms)
  case atStart => exact ⟨0, [], by omega, rfl, rfl, by omega, by simp, hk, hb, Sl.nil _ _ _⟩
  case round =>
    clear hk hb w2
    obtain ⟨j, ms, hj, rfl, rfl, hj40, hms, hk, hb, hm⟩ := hrel
    by_cases hlt : j < cs.length
    case neg =>
      go_wp2_with fail
      go_ret
      exact ⟨rfl, hk⟩
    by_cases h40 : j < 40
    case neg =>
      go_wp2_with fail
      go_ret
      exact ⟨rfl, hk⟩
    obtain ⟨ba, off, rfl, _, hbl, hcl⟩ := hv.cells (by omega)
    have hcj : ∀ q u, q < 5 → (CallD.cells cs[j])[q]? = some u → wr.cell? ⟨ba, off + j * 5 + q, none⟩ = some u := fun q u hq hu => by
      rw [Nat.add_assoc]
      exact (hk.below.cell (p := ⟨ba, off + (j * 5 + q), none⟩) hbl).trans (hcl _ u (by rw [flat5 _ (fun _ => rfl) _ _ _ hq, List.getElem?_eq_getElem hlt]; exact hu))
    have hic := ((hi _ (List.getElem_mem hlt)).mono (ok' := fun k => k < W.heap.size) (fun _ h _ => h)).then_ hk
    clear hcl
    obtain ⟨c, hc⟩ : ∃ c, c = cs[j] := ⟨_, rfl⟩
    rw [← hc] at hcj hic
    have c0 : wr.cell? ⟨ba, off + j * 5, none⟩ = _ := hcj 0 _ (by omega) rfl
    have c1 := hcj 1 _ (by omega) rfl
    have c2 := hcj 2 _ (by omega) rfl
    have c3 := hcj 3 _ (by omega) rfl
    have c4 := hcj 4 _ (by omega) rfl
    clear hcj hc
    obtain ⟨kind, t, lo, hi', av, above⟩ := c
    dsimp only at c0 c1 c2 c3 c4
    change Il (fun k => k < W.heap.size) wr av above at hic
    obtain ⟨Aa, capa, rfl, hca, hma⟩ := hic.form
    unfold maxLen at hma
    go_upto_if 38 with fail
    go_cut [6] (fun s6 wx => ∃ xs' av', s6 = .pointer (some ⟨wr.heap.size, 0, none⟩) ∧ xs' = above.take 50 ∧ Kp none_ wr wx ∧ Blk wx wr.heap.size 30 #[.int .i64 kind, .int .i64 t, .int .i64 lo, .int .i64 hi', av'] ∧ Il (fun k => k < W.heap.size) wr av' xs')
    case first =>
      have hbx := Blk.new wr 30 #[.int .i64 kind, .int .i64 t, .int .i64 lo, .int .i64 hi', .slice Aa above.length capa]
      have hkx : Kp none_ wr (wr.alloc (.cells #[.int .i64 kind, .int .i64 t, .int .i64 lo, .int .i64 hi', .slice Aa above.length capa] 30)) := (Kp.refl _ _).alloc _
      by_cases h50 : 50 < above.length
      · go_wp2_with fail
        go_meet
        exact ⟨_, _, rfl, rfl, (Kp.refl _ _).alloc _, Blk.new _ _ _, hic.take rfl 50 (by omega)⟩
      · go_wp2_with fail
        go_meet
        exact ⟨above, _, rfl, (List.take_of_length_le (by omega)).symm, hkx, hbx, hic⟩
    case rest =>
      obtain ⟨xs', av', rfl, hx', hkx, hbx, hix⟩ := hcut
      have hl50 : xs'.length ≤ 50 := by rw [hx']; simp; omega
      clear hx' hic hca hma c0 c1 c2 c3 c4
      have hbw := hb.kp hkx (fun h => h)
      have hmw := hm.then_ hkx
      have hixw := (hix.then_ hkx).mono (ok' := fun k => k ≠ W.heap.size) (fun k _ h => by omega)
      have hkw := hk.then_ hkx
      have b0 := hbx.cell 0
      have b1 := hbx.cell 1
      have b2 := hbx.cell 2
      have b3 := hbx.cell 3
      have b4 := hbx.cell 4
      simp at b0 b1 b2 b3 b4
      have hne : wr.heap.size ≠ W.heap.size := by have := hb.lt; omega
      clear hb hm hix hkx
      by_cases hk0 : kind = 0
      · subst hk0
        have hal := Lib.hid (next_alike ms lo hi' xs')
        go_upto_region 12 with fail
        go_cut [7, 8] (fun s7 s8 wx => s7 = .int .i64 (nextRef ms lo hi' xs').2.1 ∧ s8 = .int .i64 (nextRef ms lo hi' xs').2.2 ∧ Kp (only W.heap.size) wc wx ∧ Blk wx W.heap.size 102 #[.int .i64 (mxl 0 (nextRef ms lo hi' xs').1)])
        case first =>
          obtain ⟨i0, hi0, hz0, hz1, hz2⟩ := info_parts info_int64
          go_region_held3 (fun w' => w'.cell? ⟨wr.heap.size, 2, none⟩ = some (.int .i64 lo) ∧ w'.cell? ⟨wr.heap.size, 3, none⟩ = some (.int .i64 hi') ∧ w'.cell? ⟨wr.heap.size, 4, none⟩ = some av') (first | go_keep | (exact ⟨d2, d3, d4⟩)) (first
            | ((with_reducible refine gate_step 53 rfl ?_); refine step_append_sl _ (by rfl) (.tmp 50) (.tmp 52) 26 (by rfl) wc.heap.size 2 i0 (.int .i64 0) 1 8 Try.underlying26 hi0 hz0 hz1 hz2 rfl (by decide) (.slice (some ⟨_, 0, none⟩) 0 0) 0 [] rfl ?_ (fun k => k ≠ W.heap.size) av' xs'.length (ints xs') rfl ?_ ?_ ?_ ?_ ?_ ?_; (· ((with_reducible repeat (first | apply owns_drew | refine owns_empty' _ _ _ _ _ ?_ ?_ | apply owns_alloc)); (all_goals first | (simp; done) | (have := hbw.lt; omega)))); (· exact hixw.then_ (by with_reducible repeat (first | exact Kp.refl _ _ | apply Kp.drew | apply Kp.drewN | apply Kp.alloc))); (· exact ints_one xs'); (· unfold maxLen; omega); (· omega); (· (first | (simp; done) | (simp; omega) | omega)); intro v2 w2 ho2 hg2 hat2; rw [Nat.zero_add, List.nil_append] at ho2; have hk2 : Kp none_ wc w2 := Kp.grown (by with_reducible repeat (first | exact Kp.refl _ _ | apply Kp.drew | apply Kp.drewN | apply Kp.alloc)) hg2 (fun k hk => .inr (by cases hk; simp)); have hbx2 := hbx.kp hk2 (fun h => h); have d2 := hbx2.cell 2; have d3 := hbx2.cell 3; have d4 := hbx2.cell 4; simp at d2 d3 d4; have hb2 := hbw.kp hk2 (fun h => h))
            | (go_at_call 12; refine (stamp_Next' W.heap.size (mxl 0 ms) lo hi' v2 xs' _ hb2 (Il.of_own ho2 rfl (fun k hk => by have := hbw.lt; omega))).mono ?_; rintro e w3 ⟨rfl, hk3, hb3⟩; have hbx3 := hbx2.kp hk3 hne; have d2 := hbx3.cell 2; have d3 := hbx3.cell 3; have d4 := hbx3.cell 4; simp at d2 d3 d4))
          all_goals go_wp2_with fail
          all_goals go_meet
          all_goals (rw [hal.out] at hb3; exact ⟨by rw [hal.out], by rw [hal.out], (hk2.mono (T := only W.heap.size) (fun _ _ h => h.elim)).trans hk3 (fun _ _ h => h), hb3⟩)
        case rest =>
          obtain ⟨rfl, rfl, hkx, hbs⟩ := hcut
          rename World => wd
          have hbd := hbx.kp hkx hne
          have hmd := hmw.kp hkx (fun _ _ h => h)
          have hid := hixw.kp hkx (fun _ _ h => h)
          have hkd : Kp none_ W wd := hkw.trans hkx (fun i hi h => by cases h; omega)
          have b2 := hbd.cell 2
          have b3 := hbd.cell 3
          have b4 := hbd.cell 4
          simp at b2 b3 b4
          have hml := nextRef_len ms lo hi' xs'
          go_wp2_with fail
          refine (ref_Next (fun k => k ≠ W.heap.size) u4 av' ms xs' lo hi' _ hmd hid (by omega) (by omega)).mono ?_
          rintro e we ⟨v', rfl, hke, hme⟩
          have hbe := hbs.kp hke (fun h => h)
          have hkE := hkd.then_ hke
          generalize nextRef ms lo hi' xs' = r at *
          obtain ⟨ms', t', e'⟩ := r
          dsimp only at *
          go_wp2_with fail
          refine (stamp_Last W.heap.size _ _ hbe).mono ?_; rintro e wf ⟨rfl, rfl⟩
          go_wp2_with fail
          refine (ref_Last v' ms' _ _ hme).mono ?_; rintro e wf ⟨rfl, rfl⟩
          go_wp2_with fail
          go_roundg (cs.length - (j + 1))
          case measure => omega
          case rel => exact ⟨j + 1, ms', hlt, rfl, by go_num, by omega, by omega, hkE, hbe, hme.mono (fun k hk1 h => by have := hbd.lt; have := hbs.lt; have := hkd.size; rcases h with h | h <;> omega)⟩
      · have hk0' : (kind == 0) = false := by simpa using hk0
        have hml := keepRef_len ms t
        go_wp2_with fail
        refine (ref_Keep (fun k => k ≠ W.heap.size) u4 ms t _ hmw (by omega)).mono ?_
        rintro e we ⟨v', rfl, hke, hme⟩
        have hbe := hbw.kp hke (fun h => h)
        have hkE := hkw.then_ hke
        have hbd := hbx.kp hke (fun h => h)
        have b1 := hbd.cell 1
        simp at b1
        go_wp2_with fail
        refine (stamp_Keep W.heap.size _ t _ hbe).mono ?_
        rintro e wf ⟨rfl, hkf, hbf⟩
        rw [keep_alike] at hbf
        have hkF : Kp none_ W wf := hkE.trans hkf (fun i hi h => by cases h; omega)
        have hmf := hme.kp (S := only W.heap.size) hkf (fun k hk1 h e => by cases e; have := hbw.lt; rcases h with h | h <;> omega)
        generalize keepRef ms t = ms' at *
        generalize keepErr t = er at *
        go_wp2_with fail
        refine (stamp_Last W.heap.size _ _ hbf).mono ?_; rintro e wg ⟨rfl, rfl⟩
        go_wp2_with fail
        refine (ref_Last v' ms' _ _ hmf).mono ?_; rintro e wg ⟨rfl, rfl⟩
        go_wp2_with fail
        go_roundg (cs.length - (j + 1))
        case measure => omega
        case rel => exact ⟨j + 1, ms', hlt, rfl, by go_num, by omega, by omega, hkF, hbf, hmf.mono (fun k hk1 h => by have := hbw.lt; rcases h with h | h <;> omega)⟩
end Go.Proofs.Ytjgbandmjamcaaa

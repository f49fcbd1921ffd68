/- The walk of a turn: who holds. -/
import Derived.Test.YtjgbandmjamcaaaPlayC
namespace Go.Proofs.Ytjgbandmjamcaaa
open Go.RowKit

noncomputable def play51 : Code := (Try.f40.body.bind (fromOf 51)).getD .skip
/-- Of the first k leaders so many hold. -/
def HeldI (n : Nat) (us : Nat → List Int) (sp : Nat → Int × Int) (k q : Nat) : Prop :=
  (q = 0 ∧ ∀ i, i < k → holdsB n (us i) (sp i).1 (sp i).2 = false) ∨ (q = 1 ∧ ∃ i, i < k ∧ holdsB n (us i) (sp i).1 (sp i).2 = true ∧ ∀ j, j < k → j ≠ i → holdsB n (us j) (sp j).1 (sp j).2 = false)
theorem HeldI.no {n : Nat} {us : Nat → List Int} {sp : Nat → Int × Int} {k q : Nat} (h : HeldI n us sp k q) (hk : holdsB n (us k) (sp k).1 (sp k).2 = false) : HeldI n us sp (k + 1) q := by
  rcases h with ⟨h0, h⟩ | ⟨h1, i, hi, h, h'⟩
  · refine .inl ⟨h0, fun i hi => ?_⟩
    rcases Nat.lt_or_eq_of_le (Nat.le_of_lt_succ hi) with h2 | h2
    · exact h i h2
    · subst h2; exact hk
  · refine .inr ⟨h1, i, by omega, h, fun j hj hne => ?_⟩
    rcases Nat.lt_or_eq_of_le (Nat.le_of_lt_succ hj) with h2 | h2
    · exact h' j h2 hne
    · subst h2; exact hk
theorem HeldI.yes {T : Int} {n : Nat} {vl vu : Nat → Int} {us : Nat → List Int} {sl : Nat → Int} {last : Int} (hli : LI T n vl vu us sl last) {sp : Nat → Int × Int} (hsp : Sps T sp) {k q : Nat} (h3 : k < 3) (h : HeldI n us sp k q) (hk : holdsB n (us k) (sp k).1 (sp k).2 = true) : q = 0 ∧ HeldI n us sp (k + 1) 1 := by
  have hh : ∀ i, i < 3 → holdsB n (us i) (sp i).1 (sp i).2 = true → T < untilF n (us i) := fun i hi h => by
    unfold holdsB at h
    simp at h
    have := (hsp i (by omega)).2.1
    omega
  rcases h with ⟨h0, h⟩ | ⟨h1, i, hi, h, h'⟩
  · exact ⟨h0, .inr ⟨rfl, k, by omega, hk, fun j hj hne => h j (by omega)⟩⟩
  · exact (hli.apart (i := i) (j := k) (by omega) h3 (by omega) (hh i (by omega) h) (hh k h3 hk)).elim
theorem HeldI.le {n : Nat} {us : Nat → List Int} {sp : Nat → Int × Int} {k q : Nat} (h : HeldI n us sp k q) : q ≤ 1 := by
  rcases h with ⟨h, _⟩ | ⟨h, _⟩ <;> omega
set_option maxRecDepth 100000 in
set_option maxHeartbeats 8000000 in
theorem play51_wp (W : World) (b n : Nat) (t0 : Int) (j : Nat) (P V H S : Nat → Nat) (rd fl vl vu : Nat → Int) (us : Nat → List Int) (sl : Nat → Int) (T last : Int) (c : TurnD) (gX who : Nat) (sp : Nat → Int × Int)
    (x1 x2 x3 x4 x5 x6 x13 x14 x15 x16 x17 x18 x19 x21 x23 x25 x26 x27 x29 x30 x31 x32 x33 x34 x35 x36 x37 x38 x39 x40 x41 x42 x43 x44 x45 x46 x47 x48 x49 x50 x51 x52 x53 x54 x55 x56 x57 x58 x59 x60 x61 x62 x63 x64 x65 x66 x67 x68 x69 x70 x71 x72 x73 x74 x75 x76 x77 x78 x79 x80 x81 x82 x83 x84 x85 x86 x87 x88 x89 x90 x91 x92 x93 x94 x95 x96 x97 x98 x99 x100 x101 x102 x103 x104 x105 x106 x107 x108 x109 x110 x111 x112 x113 x114 x115 x116 x117 x118 x119 x120 x121 x122 x123 x124 x125 x126 x127 x128 x129 x130 x131 x132 x133 x134 x135 x136 x137 x138 x139 x140 x141 x142 x143 x144 x145 x146 x147 x148 x149 x150 x151 x152 x153 x154 x155 x156 x157 x158 x159 x160 x161 x162 x163 x164 x165 x166 x167 x168 x169 x170 x171 x172 x173 x174 x175 x176 x177 x178 x179 x180 x181 x182 x183 x184 x185 x186 x187 x188 x189 x190 x191 x192 x193 x194 x195 x196 x197 x198 x199 x200 x201 x202 x203 x204 x205 x206 x207 x208 x209 x210 x211 x212 x213 x214 x215 x216 x217 x218 x219 x220 x221 x222 x223 x224 x225 x226 x227 x228 x229 x230 x231 x232 x233 x234 x235 x236 x237 x238 x239 x240 x241 x242 x243 x244 x245 x246 x247 x248 x249 x250 x251 x252 x253 x254 x255 x256 x257 x258 x259 x260 x261 x262 x263 x264 x265 x266 x267 x268 x269 x270 x271 x272 x273 x274 x275 x276 x277 x278 x279 x280 x281 x282 x283 x284 x285 : Value) (w : World) (Q : Exit → Act → World → Prop)
    (hQ : ∀ (y34 y35 y36 y37 y235 y236 y237 y238 y239 y240 y241 y242 y243 y244 y245 y246 y247 y248 y249 y250 y251 y252 y253 y254 y255 y256 y257 y258 y259 y260 y261 y262 y263 y264 y265 y266 y267 y268 y269 y270 y271 y272 y273 y274 y275 y276 y277 y278 y279 y280 y281 y282 y283 y284 y285 : Value) (last' : Int) (w' : World), PRel W b n t0 (j + 1) T last' w' → Q .normal ⟨#[.int .i64 T, x1, x2, x3, x4, x5, x6, .int .i64 n, .pointer (some ⟨b, 0, none⟩), .pointer (some ⟨b + 1, 0, none⟩), .pointer (some ⟨b + 2, 0, none⟩), .pointer (some ⟨b + 3, 0, none⟩), .pointer (some ⟨b + 4, 0, none⟩), x13, x14, x15, x16, x17, x18, x19, .int .i64 last', x21, .pointer (some ⟨gX, 0, none⟩), x23, .pointer (some ⟨gX + 1, 0, none⟩), x25, x26, x27, .int .i64 who, x29, x30, x31, x32, x33, y34, y35, y36, y37, x38, x39, x40, x41, x42, x43, x44, x45, x46, x47, x48, x49, x50, x51, x52, x53, x54, x55, x56, x57, x58, x59, x60, x61, x62, x63, x64, x65, x66, x67, x68, x69, x70, x71, x72, x73, x74, x75, x76, x77, x78, x79, x80, x81, x82, x83, x84, x85, x86, x87, x88, x89, x90, x91, x92, x93, x94, x95, x96, x97, x98, x99, x100, x101, x102, x103, x104, x105, x106, x107, x108, x109, x110, x111, x112, x113, x114, x115, x116, x117, x118, x119, x120, x121, x122, x123, x124, x125, x126, x127, x128, x129, x130, x131, x132, x133, x134, x135, x136, x137, x138, x139, x140, x141, x142, x143, x144, x145, x146, x147, x148, x149, x150, x151, x152, x153, x154, x155, x156, x157, x158, x159, x160, x161, x162, x163, x164, x165, x166, x167, x168, x169, x170, x171, x172, x173, x174, x175, x176, x177, x178, x179, x180, x181, x182, x183, x184, x185, x186, x187, x188, x189, x190, x191, x192, x193, x194, x195, x196, x197, x198, x199, x200, x201, x202, x203, x204, x205, x206, x207, x208, x209, x210, x211, x212, x213, x214, x215, x216, x217, x218, x219, x220, x221, x222, x223, x224, x225, x226, x227, x228, x229, x230, x231, x232, x233, x234, y235, y236, y237, y238, y239, y240, y241, y242, y243, y244, y245, y246, y247, y248, y249, y250, y251, y252, y253, y254, y255, y256, y257, y258, y259, y260, y261, y262, y263, y264, y265, y266, y267, y268, y269, y270, y271, y272, y273, y274, y275, y276, y277, y278, y279, y280, y281, y282, y283, y284, y285], []⟩ w')
    (hpm : PM W b n 8 5 3 P V H S (fun k => pclk (t0 + k) (rd k) (fl k)) rd vl vu us sl w) (hli : LI T n vl vu us sl last) (hck : ∀ k, k < 8 → ClkI t0 T (rd k) (fl k)) (hT : T ≤ t0 + 65535 * (j + 1)) (hj : j < 60)
    (hx : Blk w gX 99 c.cells.toArray) (hn : Blk w (gX + 1) 128 (arr2 8 sp)) (hsp : Sps T sp) (hw : who < 3) :
    Code.wp Try.prog play51 Q ⟨#[.int .i64 T, x1, x2, x3, x4, x5, x6, .int .i64 n, .pointer (some ⟨b, 0, none⟩), .pointer (some ⟨b + 1, 0, none⟩), .pointer (some ⟨b + 2, 0, none⟩), .pointer (some ⟨b + 3, 0, none⟩), .pointer (some ⟨b + 4, 0, none⟩), x13, x14, x15, x16, x17, x18, x19, .int .i64 last, x21, .pointer (some ⟨gX, 0, none⟩), x23, .pointer (some ⟨gX + 1, 0, none⟩), x25, x26, x27, .int .i64 who, x29, x30, x31, x32, x33, x34, x35, x36, x37, x38, x39, x40, x41, x42, x43, x44, x45, x46, x47, x48, x49, x50, x51, x52, x53, x54, x55, x56, x57, x58, x59, x60, x61, x62, x63, x64, x65, x66, x67, x68, x69, x70, x71, x72, x73, x74, x75, x76, x77, x78, x79, x80, x81, x82, x83, x84, x85, x86, x87, x88, x89, x90, x91, x92, x93, x94, x95, x96, x97, x98, x99, x100, x101, x102, x103, x104, x105, x106, x107, x108, x109, x110, x111, x112, x113, x114, x115, x116, x117, x118, x119, x120, x121, x122, x123, x124, x125, x126, x127, x128, x129, x130, x131, x132, x133, x134, x135, x136, x137, x138, x139, x140, x141, x142, x143, x144, x145, x146, x147, x148, x149, x150, x151, x152, x153, x154, x155, x156, x157, x158, x159, x160, x161, x162, x163, x164, x165, x166, x167, x168, x169, x170, x171, x172, x173, x174, x175, x176, x177, x178, x179, x180, x181, x182, x183, x184, x185, x186, x187, x188, x189, x190, x191, x192, x193, x194, x195, x196, x197, x198, x199, x200, x201, x202, x203, x204, x205, x206, x207, x208, x209, x210, x211, x212, x213, x214, x215, x216, x217, x218, x219, x220, x221, x222, x223, x224, x225, x226, x227, x228, x229, x230, x231, x232, x233, x234, x235, x236, x237, x238, x239, x240, x241, x242, x243, x244, x245, x246, x247, x248, x249, x250, x251, x252, x253, x254, x255, x256, x257, x258, x259, x260, x261, x262, x263, x264, x265, x266, x267, x268, x269, x270, x271, x272, x273, x274, x275, x276, x277, x278, x279, x280, x281, x282, x283, x284, x285], []⟩ w := by
  conv => arg 2; whnf
  have HQ := Lib.hid hQ
  clear hQ
  have HCK := Lib.hid hck
  clear hck
  have HSP := Lib.hid hsp
  clear hsp
  go_wp2_with fail
  rename_i w0
  go_loopg [34, 35] 3 (fun gk qq kk wr => ∃ (k q : Nat), k ≤ 3 ∧ gk = 3 - k ∧ kk = .int .i64 k ∧ qq = .int .i64 q ∧ HeldI n us sp k q ∧ PM W b n 8 5 3 P V H S (fun k => pclk (t0 + k) (rd k) (fl k)) rd vl vu us sl wr ∧ Blk wr gX 99 c.cells.toArray ∧ Blk wr (gX + 1) 128 (arr2 8 sp))
  case atStart => exact ⟨0, 0, by omega, rfl, rfl, rfl, .inl ⟨rfl, fun _ h => absurd h (by omega)⟩, hpm, hx, hn⟩
  case round =>
    clear hpm hx hn
    obtain ⟨k, q, hk, rfl, rfl, rfl, hhe, hpm, hx, hn⟩ := hrel
    have hq1 := hhe.le
    have HH := Lib.hid hhe
    clear hhe
    by_cases hlt : k < 3
    · have hi3 : (k : Int) < 3 := by omega
      have hi8 : (k : Int) < 8 := by omega
      have hi0 : (0 : Int) ≤ (k : Int) := by omega
      have a0 := hpm.aH.cell k
      rw [arr_get _ hlt, pf_lt _ hlt, ptr] at a0
      have a2 := (hn.cell (k * 2)).trans (arr2_get0 sp (k := k) (by omega))
      have a3 := (hn.cell (k * 2 + 1)).trans (arr2_get1 sp (k := k) (by omega))
      have hhd : hold (H k) wr n (us k) := ⟨hpm.oH.blk k hlt, hli.len k hlt, hli.n1, hli.n5⟩
      have HY := Lib.hid (fun h => HeldI.yes hli HSP.out hlt HH.out h)
      have HN := Lib.hid (fun h => HeldI.no (k := k) HH.out h)
      generalize (sp k).1 = lo at *
      generalize (sp k).2 = hi at *
      go_upto_region 55 with fail
      refine wp_region_D [] (fun w' => w'.cell? ⟨b + 3, k, none⟩ = some (.pointer (some ⟨H k, 0, none⟩)) ∧ w'.cell? ⟨gX + 1, k * 2, none⟩ = some (.int .i64 lo) ∧ w'.cell? ⟨gX + 1, k * 2 + 1, none⟩ = some (.int .i64 hi)) (by kernel_rfl) ?_ (fun hHeld => ?_)
      · try dsimp only
        first | go_keep | (refine ⟨?_, ?_, ?_⟩ <;> assumption)
      refine wpD_takeP 0 (v := ?_) rfl (by kernel_rfl) (by kernel_rfl) (by kernel_rfl) (by kernel_rfl) (fun _ _ _ h => h) (fun _ => hHeld) (yields_any (by rfl) ?_) ?_; rotate_left; (· intro wS; go_simp; try with_reducible rfl)
      try simp only [Act.put, List.setIfInBounds_toArray, List.set_cons_zero, List.set_cons_succ]
      refine wpD_takeP 1 (v := ?_) rfl (by kernel_rfl) (by kernel_rfl) (by kernel_rfl) (by kernel_rfl) (fun _ _ _ h => h) (fun _ => hHeld) (yields_any (by rfl) ?_) ?_; rotate_left; (· intro wS; go_simp; try with_reducible rfl)
      try simp only [Act.put, List.setIfInBounds_toArray, List.set_cons_zero, List.set_cons_succ]
      refine wpD_take 2 (v := ?_) rfl (by kernel_rfl) (by kernel_rfl) (by kernel_rfl) (by kernel_rfl) (by kernel_rfl) (fun _ _ _ h => h) hHeld (yields_if (by rfl) ?_) ?_; rotate_left; (· intro wS hS; (try dsimp only at hS); go_simp; try with_reducible rfl)
      try simp only [Act.put, List.setIfInBounds_toArray, List.set_cons_zero, List.set_cons_succ]
      refine wpD_takeP 3 (v := ?_) rfl (by kernel_rfl) (by kernel_rfl) (by kernel_rfl) (by kernel_rfl) (fun _ _ _ h => h) (fun _ => hHeld) (yields_any (by rfl) ?_) ?_; rotate_left; (· intro wS; go_simp; try with_reducible rfl)
      try simp only [Act.put, List.setIfInBounds_toArray, List.set_cons_zero, List.set_cons_succ]
      refine wpD_takeP 4 (v := ?_) rfl (by kernel_rfl) (by kernel_rfl) (by kernel_rfl) (by kernel_rfl) (fun _ _ _ h => h) (fun _ => hHeld) (yields_any (by rfl) ?_) ?_; rotate_left; (· intro wS; go_simp; try with_reducible rfl)
      try simp only [Act.put, List.setIfInBounds_toArray, List.set_cons_zero, List.set_cons_succ]
      refine wpD_take 5 (v := ?_) rfl (by kernel_rfl) (by kernel_rfl) (by kernel_rfl) (by kernel_rfl) (by kernel_rfl) (fun _ _ _ h => h) hHeld (yields_if (by rfl) ?_) ?_; rotate_left; (· intro wS hS; (try dsimp only at hS); go_simp; try with_reducible rfl)
      try simp only [Act.put, List.setIfInBounds_toArray, List.set_cons_zero, List.set_cons_succ]
      refine wpD_ready [6] (by kernel_rfl) (by simp) ?_
      refine AllD.cons 6 rfl (fun K' hK => ?_) AllD.nil
      go_simp
      refine (lease_Holds (H k) n (us k) lo hi _ hhd.drew).mono ?_
      rintro e w3 ⟨rfl, hk3⟩
      have hpm3 := (hpm.keep ((Kp.refl none_ wr).drew)).keep hk3
      have hx3 := (hx.drew).kp hk3 (fun h => h)
      have hn3 := (hn.drew).kp hk3 (fun h => h)
      have d0 := hpm3.aH.cell k
      rw [arr_get _ hlt, pf_lt _ hlt, ptr] at d0
      have d2 : w3.cell? ⟨gX + 1, k * 2, none⟩ = some (.int .i64 lo) := by rw [hn3.cell, ← hn.cell]; exact a2
      have d3 : w3.cell? ⟨gX + 1, k * 2 + 1, none⟩ = some (.int .i64 hi) := by rw [hn3.cell, ← hn.cell]; exact a3
      go_wp2_with fail
      refine hold_step hK ?_ (fun hHeld => ?_)
      · try dsimp only
        first | go_keep | (refine ⟨?_, ?_, ?_⟩ <;> assumption)
      clear hK K'
      try simp only [Act.put, List.setIfInBounds_toArray, List.set_cons_zero, List.set_cons_succ]
      refine wpD_done (by kernel_rfl) ?_ _
      refine np_intro ?_
      cases hb : holdsB n (us k) lo hi with
      | false =>
        have HN2 := Lib.hid (HN.out hb)
        clear hb
        go_wp2_with fail
        go_roundg (3 - (k + 1))
        case measure => omega
        case rel => exact ⟨k + 1, q, hlt, rfl, by go_num, rfl, HN2.out, hpm3, hx3, hn3⟩
      | true =>
        obtain ⟨hq0, hy⟩ := HY.out hb
        have HN2 := Lib.hid hy
        clear hb hy
        subst hq0
        go_wp2_with fail
        go_roundg (3 - (k + 1))
        case measure => omega
        case rel => exact ⟨k + 1, 1, hlt, rfl, by go_num, rfl, HN2.out, hpm3, hx3, hn3⟩
    · obtain rfl : k = 3 := by omega
      iterate 16 go_step
      refine play57_wp W b n t0 j P V H S rd fl vl vu us sl T last c gX who q sp _ _ _ _ _ _ _ _ _ _ _ _ _ _ _ _ _ _ _ _ _ _ _ _ _ _ _ _ _ _ _ _ _ _ _ _ _ _ _ _ _ _ _ _ _ _ _ _ _ _ _ _ _ _ _ _ _ _ _ _ _ _ _ _ _ _ _ _ _ _ _ _ _ _ _ _ _ _ _ _ _ _ _ _ _ _ _ _ _ _ _ _ _ _ _ _ _ _ _ _ _ _ _ _ _ _ _ _ _ _ _ _ _ _ _ _ _ _ _ _ _ _ _ _ _ _ _ _ _ _ _ _ _ _ _ _ _ _ _ _ _ _ _ _ _ _ _ _ _ _ _ _ _ _ _ _ _ _ _ _ _ _ _ _ _ _ _ _ _ _ _ _ _ _ _ _ _ _ _ _ _ _ _ _ _ _ _ _ _ _ _ _ _ _ _ _ _ _ _ _ _ _ _ _ _ _ _ _ _ _ _ _ _ _ _ _ _ _ _ _ _ _ _ _ _ _ _ _ _ _ _ _ _ _ _ _ _ _ _ _ _ _ _ _ _ _ _ _ _ _ _ _ _ _ _ _ _ _ _ _ _ _ _ _ _ _ _ _ _ _ _ _ _ _ _ Q ?_ hpm hli HCK.out hT hj hx hn HSP.out hq1 hw
      intro _ _ _ _ _ _ _ _ _ _ _ _ _ _ _ _ _ _ _ _ _ _ _ _ _ _ _ _ _ _ _ _ _ _ _ _ _ _ _ _ last' w' h
      apply HQ.out
      exact h
end Go.Proofs.Ytjgbandmjamcaaa

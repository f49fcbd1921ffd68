/- The walk of a turn, part by part, from its end: stamps. -/
import Derived.Test.YtjgbandmjamcaaaPlayB
namespace Go.Proofs.Ytjgbandmjamcaaa
open Go.RowKit

/-- The number of the first region of a piece of code. -/
def firstOf : Code → Option Nat
  | .region n _ _ => some n
  | .seq a _ => firstOf a
  | .block _ c => firstOf c
  | .loop c => firstOf c
  | .scope c => firstOf c
  | .cond _ a _ => firstOf a
  | _ => none
/-- The code from a region on, to the end of what it stands in. -/
def fromOf (id : Nat) : Code → Option Code
  | .seq a b => if firstOf a = some id then some (.seq a b) else match fromOf id a with
    | some c => some c
    | none => fromOf id b
  | .region n ops d => if n = id then some (.region n ops d) else none
  | .block _ c => fromOf id c
  | .loop c => fromOf id c
  | .scope c => fromOf id c
  | .cond _ a b => match fromOf id a with
    | some c => some c
    | none => fromOf id b
  | _ => none
noncomputable def play57 : Code := (Try.f40.body.bind (fromOf 57)).getD .skip
/-- What a turn knows of its spans. -/
def Sps (T : Int) (sp : Nat → Int × Int) : Prop := ∀ k, k < 8 → (sp k).1 ≤ T ∧ T ≤ (sp k).2 ∧ isSpan (sp k).1 (sp k).2 = true
set_option maxRecDepth 100000 in
set_option maxHeartbeats 8000000 in
theorem play57_wp (W : World) (b n : Nat) (t0 : Int) (j : Nat) (P V H S : Nat → Nat) (rd fl vl vu : Nat → Int) (us : Nat → List Int) (sl : Nat → Int) (T last : Int) (c : TurnD) (gX who q : Nat) (sp : Nat → Int × Int)
    (x1 x2 x3 x4 x5 x6 x13 x14 x15 x16 x17 x18 x19 x21 x23 x25 x26 x27 x29 x30 x31 x32 x33 x35 x36 x37 x38 x39 x40 x41 x42 x43 x44 x45 x46 x47 x48 x49 x50 x51 x52 x53 x54 x55 x56 x57 x58 x59 x60 x61 x62 x63 x64 x65 x66 x67 x68 x69 x70 x71 x72 x73 x74 x75 x76 x77 x78 x79 x80 x81 x82 x83 x84 x85 x86 x87 x88 x89 x90 x91 x92 x93 x94 x95 x96 x97 x98 x99 x100 x101 x102 x103 x104 x105 x106 x107 x108 x109 x110 x111 x112 x113 x114 x115 x116 x117 x118 x119 x120 x121 x122 x123 x124 x125 x126 x127 x128 x129 x130 x131 x132 x133 x134 x135 x136 x137 x138 x139 x140 x141 x142 x143 x144 x145 x146 x147 x148 x149 x150 x151 x152 x153 x154 x155 x156 x157 x158 x159 x160 x161 x162 x163 x164 x165 x166 x167 x168 x169 x170 x171 x172 x173 x174 x175 x176 x177 x178 x179 x180 x181 x182 x183 x184 x185 x186 x187 x188 x189 x190 x191 x192 x193 x194 x195 x196 x197 x198 x199 x200 x201 x202 x203 x204 x205 x206 x207 x208 x209 x210 x211 x212 x213 x214 x215 x216 x217 x218 x219 x220 x221 x222 x223 x224 x225 x226 x227 x228 x229 x230 x231 x232 x233 x234 x235 x236 x237 x238 x239 x240 x241 x242 x243 x244 x245 x246 x247 x248 x249 x250 x251 x252 x253 x254 x255 x256 x257 x258 x259 x260 x261 x262 x263 x264 x265 x266 x267 x268 x269 x270 x271 x272 x273 x274 x275 x276 x277 x278 x279 x280 x281 x282 x283 x284 x285 : Value) (w : World) (Q : Exit → Act → World → Prop)
    (hQ : ∀ (y36 y37 y248 y249 y250 y251 y252 y253 y254 y255 y256 y257 y258 y259 y260 y261 y262 y263 y264 y265 y266 y267 y268 y269 y270 y271 y272 y273 y274 y275 y276 y277 y278 y279 y280 y281 y282 y283 y284 y285 : Value) (last' : Int) (w' : World), PRel W b n t0 (j + 1) T last' w' → Q .normal ⟨#[.int .i64 T, x1, x2, x3, x4, x5, x6, .int .i64 n, .pointer (some ⟨b, 0, none⟩), .pointer (some ⟨b + 1, 0, none⟩), .pointer (some ⟨b + 2, 0, none⟩), .pointer (some ⟨b + 3, 0, none⟩), .pointer (some ⟨b + 4, 0, none⟩), x13, x14, x15, x16, x17, x18, x19, .int .i64 last', x21, .pointer (some ⟨gX, 0, none⟩), x23, .pointer (some ⟨gX + 1, 0, none⟩), x25, x26, x27, .int .i64 who, x29, x30, x31, x32, x33, .int .i64 q, x35, y36, y37, x38, x39, x40, x41, x42, x43, x44, x45, x46, x47, x48, x49, x50, x51, x52, x53, x54, x55, x56, x57, x58, x59, x60, x61, x62, x63, x64, x65, x66, x67, x68, x69, x70, x71, x72, x73, x74, x75, x76, x77, x78, x79, x80, x81, x82, x83, x84, x85, x86, x87, x88, x89, x90, x91, x92, x93, x94, x95, x96, x97, x98, x99, x100, x101, x102, x103, x104, x105, x106, x107, x108, x109, x110, x111, x112, x113, x114, x115, x116, x117, x118, x119, x120, x121, x122, x123, x124, x125, x126, x127, x128, x129, x130, x131, x132, x133, x134, x135, x136, x137, x138, x139, x140, x141, x142, x143, x144, x145, x146, x147, x148, x149, x150, x151, x152, x153, x154, x155, x156, x157, x158, x159, x160, x161, x162, x163, x164, x165, x166, x167, x168, x169, x170, x171, x172, x173, x174, x175, x176, x177, x178, x179, x180, x181, x182, x183, x184, x185, x186, x187, x188, x189, x190, x191, x192, x193, x194, x195, x196, x197, x198, x199, x200, x201, x202, x203, x204, x205, x206, x207, x208, x209, x210, x211, x212, x213, x214, x215, x216, x217, x218, x219, x220, x221, x222, x223, x224, x225, x226, x227, x228, x229, x230, x231, x232, x233, x234, x235, x236, x237, x238, x239, x240, x241, x242, x243, x244, x245, x246, x247, y248, y249, y250, y251, y252, y253, y254, y255, y256, y257, y258, y259, y260, y261, y262, y263, y264, y265, y266, y267, y268, y269, y270, y271, y272, y273, y274, y275, y276, y277, y278, y279, y280, y281, y282, y283, y284, y285], []⟩ w')
    (hpm : PM W b n 8 5 3 P V H S (fun k => pclk (t0 + k) (rd k) (fl k)) rd vl vu us sl w) (hli : LI T n vl vu us sl last) (hck : ∀ k, k < 8 → ClkI t0 T (rd k) (fl k)) (hT : T ≤ t0 + 65535 * (j + 1)) (hj : j < 60)
    (hx : Blk w gX 99 c.cells.toArray) (hn : Blk w (gX + 1) 128 (arr2 8 sp)) (hsp : Sps T sp) (hq : q ≤ 1) (hw : who < 3) :
    Code.wp Try.prog play57 Q ⟨#[.int .i64 T, x1, x2, x3, x4, x5, x6, .int .i64 n, .pointer (some ⟨b, 0, none⟩), .pointer (some ⟨b + 1, 0, none⟩), .pointer (some ⟨b + 2, 0, none⟩), .pointer (some ⟨b + 3, 0, none⟩), .pointer (some ⟨b + 4, 0, none⟩), x13, x14, x15, x16, x17, x18, x19, .int .i64 last, x21, .pointer (some ⟨gX, 0, none⟩), x23, .pointer (some ⟨gX + 1, 0, none⟩), x25, x26, x27, .int .i64 who, x29, x30, x31, x32, x33, .int .i64 q, x35, x36, x37, x38, x39, x40, x41, x42, x43, x44, x45, x46, x47, x48, x49, x50, x51, x52, x53, x54, x55, x56, x57, x58, x59, x60, x61, x62, x63, x64, x65, x66, x67, x68, x69, x70, x71, x72, x73, x74, x75, x76, x77, x78, x79, x80, x81, x82, x83, x84, x85, x86, x87, x88, x89, x90, x91, x92, x93, x94, x95, x96, x97, x98, x99, x100, x101, x102, x103, x104, x105, x106, x107, x108, x109, x110, x111, x112, x113, x114, x115, x116, x117, x118, x119, x120, x121, x122, x123, x124, x125, x126, x127, x128, x129, x130, x131, x132, x133, x134, x135, x136, x137, x138, x139, x140, x141, x142, x143, x144, x145, x146, x147, x148, x149, x150, x151, x152, x153, x154, x155, x156, x157, x158, x159, x160, x161, x162, x163, x164, x165, x166, x167, x168, x169, x170, x171, x172, x173, x174, x175, x176, x177, x178, x179, x180, x181, x182, x183, x184, x185, x186, x187, x188, x189, x190, x191, x192, x193, x194, x195, x196, x197, x198, x199, x200, x201, x202, x203, x204, x205, x206, x207, x208, x209, x210, x211, x212, x213, x214, x215, x216, x217, x218, x219, x220, x221, x222, x223, x224, x225, x226, x227, x228, x229, x230, x231, x232, x233, x234, x235, x236, x237, x238, x239, x240, x241, x242, x243, x244, x245, x246, x247, x248, x249, x250, x251, x252, x253, x254, x255, x256, x257, x258, x259, x260, x261, x262, x263, x264, x265, x266, x267, x268, x269, x270, x271, x272, x273, x274, x275, x276, x277, x278, x279, x280, x281, x282, x283, x284, x285], []⟩ w := by
  conv => arg 2; whnf
  have HQ := Lib.hid hQ
  clear hQ
  have HCK := Lib.hid hck
  clear hck
  have HSP := Lib.hid hsp
  clear hsp
  have x14 := hx.cell 14
  simp [TurnD.cells] at x14
  have hTj : T ≤ t0 + 65535 * ((j + 1 : Nat) : Int) := by omega
  cases hg : c.give with
  | false =>
    rw [hg] at x14
    go_wp2_with fail
    apply HQ.out
    exact ⟨P, V, H, S, rd, fl, vl, vu, us, sl, hpm, hli, HCK.out, hTj, by omega⟩
  | true =>
    rw [hg] at x14
    obtain ⟨sp1, sp2, sp3⟩ := HSP.out who (by omega)
    have a0 := hpm.aH.cell who
    have a1 := hpm.aS.cell who
    rw [arr_get _ hw, pf_lt _ hw, ptr] at a0 a1
    have G2 := Lib.hid (fun (wx : World) (h : Blk wx (gX + 1) 128 (arr2 8 sp)) => (h.cell (who * 2)).trans (arr2_get0 sp (k := who) (by omega)))
    have G3 := Lib.hid (fun (wx : World) (h : Blk wx (gX + 1) 128 (arr2 8 sp)) => (h.cell (who * 2 + 1)).trans (arr2_get1 sp (k := who) (by omega)))
    have a2 := G2.out _ hn
    have a3 := G3.out _ hn
    obtain ⟨hst1, hst2⟩ := hli.stamp who hw (sp who).1 (sp who).2 sp2
    have hhd : hold (H who) w n (us who) := ⟨hpm.oH.blk who hw, hli.len who hw, hli.n1, hli.n5⟩
    have hsr := hpm.oS.blk who hw
    have hub := hli.until_bd hw
    have hi0 : (0 : Int) ≤ (who : Int) := by omega
    have hi3 : (who : Int) < 3 := by omega
    have hi8 : (who : Int) < 8 := by omega
    generalize (sp who).1 = lo at *
    generalize (sp who).2 = hi at *
    go_upto_region 60 with fail
    refine wp_region_D [] (fun w' => w'.cell? ⟨b + 3, who, none⟩ = some (.pointer (some ⟨H who, 0, none⟩)) ∧ w'.cell? ⟨b + 4, who, none⟩ = some (.pointer (some ⟨S who, 0, none⟩)) ∧ w'.cell? ⟨gX + 1, who * 2, none⟩ = some (.int .i64 lo) ∧ w'.cell? ⟨gX + 1, who * 2 + 1, none⟩ = some (.int .i64 hi)) (by kernel_rfl) ?_ (fun hHeld => ?_)
    · try dsimp only
      first | go_keep | (refine ⟨?_, ?_, ?_, ?_⟩ <;> assumption)
    refine wpD_takeP 0 (v := ?_) rfl (by kernel_rfl) (by kernel_rfl) (by kernel_rfl) (by kernel_rfl) (fun _ _ _ h => h) (fun _ => hHeld) (yields_any (by rfl) ?_) ?_; rotate_left; (· intro wS; go_simp; try with_reducible rfl)
    try simp only [Act.put, List.setIfInBounds_toArray, List.set_cons_zero, List.set_cons_succ]
    refine wpD_takeP 1 (v := ?_) rfl (by kernel_rfl) (by kernel_rfl) (by kernel_rfl) (by kernel_rfl) (fun _ _ _ h => h) (fun _ => hHeld) (yields_any (by rfl) ?_) ?_; rotate_left; (· intro wS; go_simp; try with_reducible rfl)
    try simp only [Act.put, List.setIfInBounds_toArray, List.set_cons_zero, List.set_cons_succ]
    refine wpD_take 2 (v := ?_) rfl (by kernel_rfl) (by kernel_rfl) (by kernel_rfl) (by kernel_rfl) (by kernel_rfl) (fun _ _ _ h => h) hHeld (yields_if (by rfl) ?_) ?_; rotate_left; (· intro wS hS; (try dsimp only at hS); go_simp; try with_reducible rfl)
    try simp only [Act.put, List.setIfInBounds_toArray, List.set_cons_zero, List.set_cons_succ]
    refine wpD_takeP 3 (v := ?_) rfl (by kernel_rfl) (by kernel_rfl) (by kernel_rfl) (by kernel_rfl) (fun _ _ _ h => h) (fun _ => hHeld) (yields_any (by rfl) ?_) ?_; rotate_left; (· intro wS; go_simp; try with_reducible rfl)
    try simp only [Act.put, List.setIfInBounds_toArray, List.set_cons_zero, List.set_cons_succ]
    refine wpD_takeP 4 (v := ?_) rfl (by kernel_rfl) (by kernel_rfl) (by kernel_rfl) (by kernel_rfl) (fun _ _ _ h => h) (fun _ => hHeld) (yields_any (by rfl) ?_) ?_; rotate_left; (· intro wS; go_simp; try with_reducible rfl)
    try simp only [Act.put, List.setIfInBounds_toArray, List.set_cons_zero, List.set_cons_succ]
    refine wpD_take 5 (v := ?_) rfl (by kernel_rfl) (by kernel_rfl) (by kernel_rfl) (by kernel_rfl) (by kernel_rfl) (fun _ _ _ h => h) hHeld (yields_if (by rfl) ?_) ?_; rotate_left; (· intro wS hS; (try dsimp only at hS); go_simp; try with_reducible rfl)
    try simp only [Act.put, List.setIfInBounds_toArray, List.set_cons_zero, List.set_cons_succ]
    refine wpD_takeP 6 (v := ?_) rfl (by kernel_rfl) (by kernel_rfl) (by kernel_rfl) (by kernel_rfl) (fun _ _ _ h => h) (fun _ => hHeld) (yields_any (by rfl) ?_) ?_; rotate_left; (· intro wS; go_simp; try with_reducible rfl)
    try simp only [Act.put, List.setIfInBounds_toArray, List.set_cons_zero, List.set_cons_succ]
    refine wpD_takeP 7 (v := ?_) rfl (by kernel_rfl) (by kernel_rfl) (by kernel_rfl) (by kernel_rfl) (fun _ _ _ h => h) (fun _ => hHeld) (yields_any (by rfl) ?_) ?_; rotate_left; (· intro wS; go_simp; try with_reducible rfl)
    try simp only [Act.put, List.setIfInBounds_toArray, List.set_cons_zero, List.set_cons_succ]
    refine wpD_take 8 (v := ?_) rfl (by kernel_rfl) (by kernel_rfl) (by kernel_rfl) (by kernel_rfl) (by kernel_rfl) (fun _ _ _ h => h) hHeld (yields_if (by rfl) ?_) ?_; rotate_left; (· intro wS hS; (try dsimp only at hS); go_simp; try with_reducible rfl)
    try simp only [Act.put, List.setIfInBounds_toArray, List.set_cons_zero, List.set_cons_succ]
    refine wpD_ready [9] (by kernel_rfl) (by simp) ?_
    refine AllD.cons 9 rfl (fun K' hK => ?_) AllD.nil
    go_simp
    refine (lease_Stamp (H who) n (S who) (us who) (sl who) lo hi (.slice none 0 0) [] _ hhd.drew hsr (Sl.nil _ _ _) (by simp) hub).mono ?_
    rintro e w2 ⟨rfl, hk2, hb2⟩
    have hpm2 := PM.srcs (hpm.keep ((Kp.refl none_ w).drew)) hw hk2 hb2
    have hx2 := (hx.drew).kp hk2 (only_ne (Blk.ne_ hx hsr (by decide)))
    have hn2 := (hn.drew).kp hk2 (only_ne (Blk.ne_ hn hsr (by decide)))
    clear hpm hk2 hb2 hx hn hsr hhd hub
    generalize stampP n (us who) (sl who) lo hi [] = sv at *
    obtain ⟨given, err, sl'⟩ := sv
    dsimp only at hst1 hst2 hpm2 ⊢
    have b0 := hpm2.aH.cell who
    have b1 := hpm2.aS.cell who
    rw [arr_get _ hw, pf_lt _ hw, ptr] at b0 b1
    have b2 := G2.out _ hn2
    have b3 := G3.out _ hn2
    go_wp2_with fail
    refine hold_step hK ?_ (fun hHeld => ?_)
    · try dsimp only
      first | go_keep | (refine ⟨?_, ?_, ?_, ?_⟩ <;> assumption)
    clear hK K'
    try simp only [Act.put, List.setIfInBounds_toArray, List.set_cons_zero, List.set_cons_succ]
    refine wpD_takeP 10 (v := ?_) rfl (by kernel_rfl) (by kernel_rfl) (by kernel_rfl) (by kernel_rfl) (fun _ _ _ h => h) (fun _ => hHeld) (yields_any (by rfl) ?_) ?_; rotate_left; (· intro wS; go_simp; try with_reducible rfl)
    try simp only [Act.put, List.setIfInBounds_toArray, List.set_cons_zero, List.set_cons_succ]
    refine wpD_takeP 11 (v := ?_) rfl (by kernel_rfl) (by kernel_rfl) (by kernel_rfl) (by kernel_rfl) (fun _ _ _ h => h) (fun _ => hHeld) (yields_any (by rfl) ?_) ?_; rotate_left; (· intro wS; go_simp; try with_reducible rfl)
    try simp only [Act.put, List.setIfInBounds_toArray, List.set_cons_zero, List.set_cons_succ]
    refine wpD_takeP 12 (v := ?_) rfl (by kernel_rfl) (by kernel_rfl) (by kernel_rfl) (by kernel_rfl) (fun _ _ _ h => h) (fun _ => hHeld) (yields_any (by rfl) ?_) ?_; rotate_left; (· intro wS; go_simp; try with_reducible rfl)
    try simp only [Act.put, List.setIfInBounds_toArray, List.set_cons_zero, List.set_cons_succ]
    refine wpD_takeP 13 (v := ?_) rfl (by kernel_rfl) (by kernel_rfl) (by kernel_rfl) (by kernel_rfl) (fun _ _ _ h => h) (fun _ => hHeld) (yields_any (by rfl) ?_) ?_; rotate_left; (· intro wS; go_simp; try with_reducible rfl)
    try simp only [Act.put, List.setIfInBounds_toArray, List.set_cons_zero, List.set_cons_succ]
    refine wpD_takeP 14 (v := ?_) rfl (by kernel_rfl) (by kernel_rfl) (by kernel_rfl) (by kernel_rfl) (fun _ _ _ h => h) (fun _ => hHeld) (yields_any (by rfl) ?_) ?_; rotate_left; (· intro wS; go_simp; try with_reducible rfl)
    try simp only [Act.put, List.setIfInBounds_toArray, List.set_cons_zero, List.set_cons_succ]
    refine wpD_done (by kernel_rfl) ?_ _
    refine np_intro ?_
    by_cases he : err = 0
    · obtain ⟨h1, h2, h3, h4⟩ := hst2 he
      subst he
      have g1 : decide (given ≤ last) = false := by simp; omega
      have g2 : decide (given ≤ T) = false := by simp; omega
      have hhd2 : hold (H who) w2 n (us who) := ⟨hpm2.oH.blk who hw, hli.len who hw, hli.n1, hli.n5⟩
      clear hst1 hst2 a0 a1 a2 a3
      go_upto_region 62 with fail
      refine wp_region_D [] (fun w' => w'.cell? ⟨b + 3, who, none⟩ = some (.pointer (some ⟨H who, 0, none⟩)) ∧ w'.cell? ⟨gX + 1, who * 2, none⟩ = some (.int .i64 lo) ∧ w'.cell? ⟨gX + 1, who * 2 + 1, none⟩ = some (.int .i64 hi)) (by kernel_rfl) ?_ (fun hHeld => ?_)
      · try dsimp only
        first | go_keep | (refine ⟨?_, ?_, ?_⟩ <;> assumption)
      refine wpD_takeP 0 (v := ?_) rfl (by kernel_rfl) (by kernel_rfl) (by kernel_rfl) (by kernel_rfl) (fun _ _ _ h => h) (fun _ => hHeld) (yields_any (by rfl) ?_) ?_; rotate_left; (· intro wS; go_simp; try with_reducible rfl)
      try simp only [Act.put, List.setIfInBounds_toArray, List.set_cons_zero, List.set_cons_succ]
      refine wpD_takeP 1 (v := ?_) rfl (by kernel_rfl) (by kernel_rfl) (by kernel_rfl) (by kernel_rfl) (fun _ _ _ h => h) (fun _ => hHeld) (yields_any (by rfl) ?_) ?_; rotate_left; (· intro wS; go_simp; try with_reducible rfl)
      try simp only [Act.put, List.setIfInBounds_toArray, List.set_cons_zero, List.set_cons_succ]
      refine wpD_takeP 2 (v := ?_) rfl (by kernel_rfl) (by kernel_rfl) (by kernel_rfl) (by kernel_rfl) (fun _ _ _ h => h) (fun _ => hHeld) (yields_any (by rfl) ?_) ?_; rotate_left; (· intro wS; go_simp; try with_reducible rfl)
      try simp only [Act.put, List.setIfInBounds_toArray, List.set_cons_zero, List.set_cons_succ]
      refine wpD_takeP 3 (v := ?_) rfl (by kernel_rfl) (by kernel_rfl) (by kernel_rfl) (by kernel_rfl) (fun _ _ _ h => h) (fun _ => hHeld) (yields_any (by rfl) ?_) ?_; rotate_left; (· intro wS; go_simp; try with_reducible rfl)
      try simp only [Act.put, List.setIfInBounds_toArray, List.set_cons_zero, List.set_cons_succ]
      refine wpD_takeP 4 (v := ?_) rfl (by kernel_rfl) (by kernel_rfl) (by kernel_rfl) (by kernel_rfl) (fun _ _ _ h => h) (fun _ => hHeld) (yields_any (by rfl) ?_) ?_; rotate_left; (· intro wS; go_simp; try with_reducible rfl)
      try simp only [Act.put, List.setIfInBounds_toArray, List.set_cons_zero, List.set_cons_succ]
      refine wpD_takeP 5 (v := ?_) rfl (by kernel_rfl) (by kernel_rfl) (by kernel_rfl) (by kernel_rfl) (fun _ _ _ h => h) (fun _ => hHeld) (yields_any (by rfl) ?_) ?_; rotate_left; (· intro wS; go_simp; try with_reducible rfl)
      try simp only [Act.put, List.setIfInBounds_toArray, List.set_cons_zero, List.set_cons_succ]
      refine wpD_takeP 6 (v := ?_) rfl (by kernel_rfl) (by kernel_rfl) (by kernel_rfl) (by kernel_rfl) (fun _ _ _ h => h) (fun _ => hHeld) (yields_any (by rfl) ?_) ?_; rotate_left; (· intro wS; go_simp; try with_reducible rfl)
      try simp only [Act.put, List.setIfInBounds_toArray, List.set_cons_zero, List.set_cons_succ]
      refine wpD_takeP 7 (v := ?_) rfl (by kernel_rfl) (by kernel_rfl) (by kernel_rfl) (by kernel_rfl) (fun _ _ _ h => h) (fun _ => hHeld) (yields_any (by rfl) ?_) ?_; rotate_left; (· intro wS; go_simp; try with_reducible rfl)
      try simp only [Act.put, List.setIfInBounds_toArray, List.set_cons_zero, List.set_cons_succ]
      refine wpD_takeP 8 (v := ?_) rfl (by kernel_rfl) (by kernel_rfl) (by kernel_rfl) (by kernel_rfl) (fun _ _ _ h => h) (fun _ => hHeld) (yields_any (by rfl) ?_) ?_; rotate_left; (· intro wS; go_simp; try with_reducible rfl)
      try simp only [Act.put, List.setIfInBounds_toArray, List.set_cons_zero, List.set_cons_succ]
      refine wpD_takeP 9 (v := ?_) rfl (by kernel_rfl) (by kernel_rfl) (by kernel_rfl) (by kernel_rfl) (fun _ _ _ h => h) (fun _ => hHeld) (yields_any (by rfl) ?_) ?_; rotate_left; (· intro wS; go_simp; try with_reducible rfl)
      try simp only [Act.put, List.setIfInBounds_toArray, List.set_cons_zero, List.set_cons_succ]
      refine wpD_takeP 10 (v := ?_) rfl (by kernel_rfl) (by kernel_rfl) (by kernel_rfl) (by kernel_rfl) (fun _ _ _ h => h) (fun _ => hHeld) (yields_any (by rfl) ?_) ?_; rotate_left; (· intro wS; go_simp; try with_reducible rfl)
      try simp only [Act.put, List.setIfInBounds_toArray, List.set_cons_zero, List.set_cons_succ]
      refine wpD_take 11 (v := ?_) rfl (by kernel_rfl) (by kernel_rfl) (by kernel_rfl) (by kernel_rfl) (by kernel_rfl) (fun _ _ _ h => h) hHeld (yields_if (by rfl) ?_) ?_; rotate_left; (· intro wS hS; (try dsimp only at hS); go_simp; try with_reducible rfl)
      try simp only [Act.put, List.setIfInBounds_toArray, List.set_cons_zero, List.set_cons_succ]
      refine wpD_takeP 12 (v := ?_) rfl (by kernel_rfl) (by kernel_rfl) (by kernel_rfl) (by kernel_rfl) (fun _ _ _ h => h) (fun _ => hHeld) (yields_any (by rfl) ?_) ?_; rotate_left; (· intro wS; go_simp; try with_reducible rfl)
      try simp only [Act.put, List.setIfInBounds_toArray, List.set_cons_zero, List.set_cons_succ]
      refine wpD_takeP 13 (v := ?_) rfl (by kernel_rfl) (by kernel_rfl) (by kernel_rfl) (by kernel_rfl) (fun _ _ _ h => h) (fun _ => hHeld) (yields_any (by rfl) ?_) ?_; rotate_left; (· intro wS; go_simp; try with_reducible rfl)
      try simp only [Act.put, List.setIfInBounds_toArray, List.set_cons_zero, List.set_cons_succ]
      refine wpD_take 14 (v := ?_) rfl (by kernel_rfl) (by kernel_rfl) (by kernel_rfl) (by kernel_rfl) (by kernel_rfl) (fun _ _ _ h => h) hHeld (yields_if (by rfl) ?_) ?_; rotate_left; (· intro wS hS; (try dsimp only at hS); go_simp; try with_reducible rfl)
      try simp only [Act.put, List.setIfInBounds_toArray, List.set_cons_zero, List.set_cons_succ]
      refine wpD_ready [15] (by kernel_rfl) (by simp) ?_
      refine AllD.cons 15 rfl (fun K' hK => ?_) AllD.nil
      go_simp
      refine (lease_Holds (H who) n (us who) lo hi _ hhd2.drew).mono ?_
      rintro e w3 ⟨rfl, hk3⟩
      rw [h3]
      have hpm3 := (hpm2.keep ((Kp.refl none_ w2).drew)).keep hk3
      have d0 := hpm3.aH.cell who
      rw [arr_get _ hw, pf_lt _ hw, ptr] at d0
      have hn3 := (hn2.drew).kp hk3 (fun h => h)
      have d2 := G2.out _ hn3
      have d3 := G3.out _ hn3
      go_wp2_with fail
      refine hold_step hK ?_ (fun hHeld => ?_)
      · try dsimp only
        first | go_keep | (refine ⟨?_, ?_, ?_⟩ <;> assumption)
      clear hK K'
      try simp only [Act.put, List.setIfInBounds_toArray, List.set_cons_zero, List.set_cons_succ]
      refine wpD_takeP 16 (v := ?_) rfl (by kernel_rfl) (by kernel_rfl) (by kernel_rfl) (by kernel_rfl) (fun _ _ _ h => h) (fun _ => hHeld) (yields_any (by rfl) ?_) ?_; rotate_left; (· intro wS; go_simp; try with_reducible rfl)
      try simp only [Act.put, List.setIfInBounds_toArray, List.set_cons_zero, List.set_cons_succ]
      refine wpD_takeP 17 (v := ?_) rfl (by kernel_rfl) (by kernel_rfl) (by kernel_rfl) (by kernel_rfl) (fun _ _ _ h => h) (fun _ => hHeld) (yields_any (by rfl) ?_) ?_; rotate_left; (· intro wS; go_simp; try with_reducible rfl)
      try simp only [Act.put, List.setIfInBounds_toArray, List.set_cons_zero, List.set_cons_succ]
      refine wpD_done (by kernel_rfl) ?_ _
      refine np_intro ?_
      go_wp2_with fail
      apply HQ.out
      exact ⟨P, V, H, S, rd, fl, vl, vu, us, _, hpm3, h4, HCK.out, hTj, by omega⟩
    · have he' : (err == 0) = false := by simpa using he
      clear hst2 he
      go_wp2_with fail
      apply HQ.out
      exact ⟨P, V, H, S, rd, fl, vl, vu, us, _, hpm2, hst1, HCK.out, hTj, by omega⟩
end Go.Proofs.Ytjgbandmjamcaaa

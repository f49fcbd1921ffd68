/- The walk of a turn: a lease is asked for, granted, heard. -/
import Derived.Test.YtjgbandmjamcaaaPlayD
namespace Go.Proofs.Ytjgbandmjamcaaa
open Go.RowKit

noncomputable def play48 : Code := (Try.f40.body.bind (fromOf 48)).getD .skip
set_option maxRecDepth 100000 in
set_option maxHeartbeats 8000000 in
theorem play48_wp (W : World) (b n : Nat) (t0 : Int) (j : Nat) (P V H S : Nat → Nat) (rd fl vl vu : Nat → Int) (us : Nat → List Int) (sl : Nat → Int) (T last : Int) (c : TurnD) (gX who v : Nat) (sp : Nat → Int × Int)
    (x1 x2 x3 x4 x5 x6 x13 x14 x15 x16 x17 x18 x19 x21 x23 x25 x26 x27 x30 x31 x32 x33 x34 x35 x36 x37 x38 x39 x40 x41 x42 x43 x44 x45 x46 x47 x48 x49 x50 x51 x52 x53 x54 x55 x56 x57 x58 x59 x60 x61 x62 x63 x64 x65 x66 x67 x68 x69 x70 x71 x72 x73 x74 x75 x76 x77 x78 x79 x80 x81 x82 x83 x84 x85 x86 x87 x88 x89 x90 x91 x92 x93 x94 x95 x96 x97 x98 x99 x100 x101 x102 x103 x104 x105 x106 x107 x108 x109 x110 x111 x112 x113 x114 x115 x116 x117 x118 x119 x120 x121 x122 x123 x124 x125 x126 x127 x128 x129 x130 x131 x132 x133 x134 x135 x136 x137 x138 x139 x140 x141 x142 x143 x144 x145 x146 x147 x148 x149 x150 x151 x152 x153 x154 x155 x156 x157 x158 x159 x160 x161 x162 x163 x164 x165 x166 x167 x168 x169 x170 x171 x172 x173 x174 x175 x176 x177 x178 x179 x180 x181 x182 x183 x184 x185 x186 x187 x188 x189 x190 x191 x192 x193 x194 x195 x196 x197 x198 x199 x200 x201 x202 x203 x204 x205 x206 x207 x208 x209 x210 x211 x212 x213 x214 x215 x216 x217 x218 x219 x220 x221 x222 x223 x224 x225 x226 x227 x228 x229 x230 x231 x232 x233 x234 x235 x236 x237 x238 x239 x240 x241 x242 x243 x244 x245 x246 x247 x248 x249 x250 x251 x252 x253 x254 x255 x256 x257 x258 x259 x260 x261 x262 x263 x264 x265 x266 x267 x268 x269 x270 x271 x272 x273 x274 x275 x276 x277 x278 x279 x280 x281 x282 x283 x284 x285 : Value) (w : World) (Q : Exit → Act → World → Prop)
    (hQ : ∀ (y32 y33 y34 y35 y36 y37 y203 y204 y205 y206 y207 y208 y209 y210 y211 y212 y213 y214 y215 y216 y217 y218 y219 y220 y221 y222 y223 y224 y225 y226 y227 y228 y229 y230 y231 y232 y233 y234 y235 y236 y237 y238 y239 y240 y241 y242 y243 y244 y245 y246 y247 y248 y249 y250 y251 y252 y253 y254 y255 y256 y257 y258 y259 y260 y261 y262 y263 y264 y265 y266 y267 y268 y269 y270 y271 y272 y273 y274 y275 y276 y277 y278 y279 y280 y281 y282 y283 y284 y285 : Value) (last' : Int) (w' : World), PRel W b n t0 (j + 1) T last' w' → Q .normal ⟨#[.int .i64 T, x1, x2, x3, x4, x5, x6, .int .i64 n, .pointer (some ⟨b, 0, none⟩), .pointer (some ⟨b + 1, 0, none⟩), .pointer (some ⟨b + 2, 0, none⟩), .pointer (some ⟨b + 3, 0, none⟩), .pointer (some ⟨b + 4, 0, none⟩), x13, x14, x15, x16, x17, x18, x19, .int .i64 last', x21, .pointer (some ⟨gX, 0, none⟩), x23, .pointer (some ⟨gX + 1, 0, none⟩), x25, x26, x27, .int .i64 who, .int .i64 v, x30, x31, y32, y33, y34, y35, y36, y37, x38, x39, x40, x41, x42, x43, x44, x45, x46, x47, x48, x49, x50, x51, x52, x53, x54, x55, x56, x57, x58, x59, x60, x61, x62, x63, x64, x65, x66, x67, x68, x69, x70, x71, x72, x73, x74, x75, x76, x77, x78, x79, x80, x81, x82, x83, x84, x85, x86, x87, x88, x89, x90, x91, x92, x93, x94, x95, x96, x97, x98, x99, x100, x101, x102, x103, x104, x105, x106, x107, x108, x109, x110, x111, x112, x113, x114, x115, x116, x117, x118, x119, x120, x121, x122, x123, x124, x125, x126, x127, x128, x129, x130, x131, x132, x133, x134, x135, x136, x137, x138, x139, x140, x141, x142, x143, x144, x145, x146, x147, x148, x149, x150, x151, x152, x153, x154, x155, x156, x157, x158, x159, x160, x161, x162, x163, x164, x165, x166, x167, x168, x169, x170, x171, x172, x173, x174, x175, x176, x177, x178, x179, x180, x181, x182, x183, x184, x185, x186, x187, x188, x189, x190, x191, x192, x193, x194, x195, x196, x197, x198, x199, x200, x201, x202, y203, y204, y205, y206, y207, y208, y209, y210, y211, y212, y213, y214, y215, y216, y217, y218, y219, y220, y221, y222, y223, y224, y225, y226, y227, y228, y229, y230, y231, y232, y233, y234, y235, y236, y237, y238, y239, y240, y241, y242, y243, y244, y245, y246, y247, y248, y249, y250, y251, y252, y253, y254, y255, y256, y257, y258, y259, y260, y261, y262, y263, y264, y265, y266, y267, y268, y269, y270, y271, y272, y273, y274, y275, y276, y277, y278, y279, y280, y281, y282, y283, y284, y285], []⟩ w')
    (hpm : PM W b n 8 5 3 P V H S (fun k => pclk (t0 + k) (rd k) (fl k)) rd vl vu us sl w) (hli : LI T n vl vu us sl last) (hck : ∀ k, k < 8 → ClkI t0 T (rd k) (fl k)) (hT : T ≤ t0 + 65535 * (j + 1)) (hj : j < 60)
    (hx : Blk w gX 99 c.cells.toArray) (hn : Blk w (gX + 1) 128 (arr2 8 sp)) (hsp : Sps T sp) (hw : who < 3) (hv : v < n) (hok : c.ok) :
    Code.wp Try.prog play48 Q ⟨#[.int .i64 T, x1, x2, x3, x4, x5, x6, .int .i64 n, .pointer (some ⟨b, 0, none⟩), .pointer (some ⟨b + 1, 0, none⟩), .pointer (some ⟨b + 2, 0, none⟩), .pointer (some ⟨b + 3, 0, none⟩), .pointer (some ⟨b + 4, 0, none⟩), x13, x14, x15, x16, x17, x18, x19, .int .i64 last, x21, .pointer (some ⟨gX, 0, none⟩), x23, .pointer (some ⟨gX + 1, 0, none⟩), x25, x26, x27, .int .i64 who, .int .i64 v, x30, x31, x32, x33, x34, x35, x36, x37, x38, x39, x40, x41, x42, x43, x44, x45, x46, x47, x48, x49, x50, x51, x52, x53, x54, x55, x56, x57, x58, x59, x60, x61, x62, x63, x64, x65, x66, x67, x68, x69, x70, x71, x72, x73, x74, x75, x76, x77, x78, x79, x80, x81, x82, x83, x84, x85, x86, x87, x88, x89, x90, x91, x92, x93, x94, x95, x96, x97, x98, x99, x100, x101, x102, x103, x104, x105, x106, x107, x108, x109, x110, x111, x112, x113, x114, x115, x116, x117, x118, x119, x120, x121, x122, x123, x124, x125, x126, x127, x128, x129, x130, x131, x132, x133, x134, x135, x136, x137, x138, x139, x140, x141, x142, x143, x144, x145, x146, x147, x148, x149, x150, x151, x152, x153, x154, x155, x156, x157, x158, x159, x160, x161, x162, x163, x164, x165, x166, x167, x168, x169, x170, x171, x172, x173, x174, x175, x176, x177, x178, x179, x180, x181, x182, x183, x184, x185, x186, x187, x188, x189, x190, x191, x192, x193, x194, x195, x196, x197, x198, x199, x200, x201, x202, x203, x204, x205, x206, x207, x208, x209, x210, x211, x212, x213, x214, x215, x216, x217, x218, x219, x220, x221, x222, x223, x224, x225, x226, x227, x228, x229, x230, x231, x232, x233, x234, x235, x236, x237, x238, x239, x240, x241, x242, x243, x244, x245, x246, x247, x248, x249, x250, x251, x252, x253, x254, x255, x256, x257, x258, x259, x260, x261, x262, x263, x264, x265, x266, x267, x268, x269, x270, x271, x272, x273, x274, x275, x276, x277, x278, x279, x280, x281, x282, x283, x284, x285], []⟩ w := by
  conv => arg 2; whnf
  change Code.wp Try.prog (Code.seq _ (Code.seq _ play51)) Q _ _
  have HQ := Lib.hid hQ
  clear hQ
  have HCK := Lib.hid hck
  clear hck
  have HSP := Lib.hid hsp
  clear hsp
  obtain ⟨_, _, hl0, hl1, _, _, _⟩ := hok
  have hn5 := hli.n5
  have x1 := hx.cell 1
  have x12 := hx.cell 12
  simp [TurnD.cells] at x1 x12
  obtain ⟨sp1, sp2, sp3⟩ := HSP.out (3 + v) (by omega)
  have a0 := hpm.aV.cell v
  rw [arr_get _ (by omega), pf_lt _ (by omega), ptr] at a0
  have G2 := Lib.hid (fun (wx : World) (h : Blk wx (gX + 1) 128 (arr2 8 sp)) => (h.cell ((3 + v) * 2)).trans (arr2_get0 sp (k := 3 + v) (by omega)))
  have G3 := Lib.hid (fun (wx : World) (h : Blk wx (gX + 1) 128 (arr2 8 sp)) => (h.cell ((3 + v) * 2 + 1)).trans (arr2_get1 sp (k := 3 + v) (by omega)))
  have a2 := G2.out _ hn
  have a3 := G3.out _ hn
  have hvb := hpm.oV.blk v (by omega)
  obtain ⟨hg1, hg2⟩ := hli.grant v who hv hw (sp (3 + v)).1 (sp (3 + v)).2 (1 + c.len) sp1 (by omega)
  have i1 : (v : Int) < 5 := by omega
  have i2 : (0 : Int) ≤ (v : Int) := by omega
  have i3 : (0 : Int) ≤ 3 + (v : Int) := by omega
  have i4 : 3 + (v : Int) < 8 := by omega
  have i5 : IntKind.i64.wrap (3 + (v : Int)) = 3 + (v : Int) := by rw [IntKind.wrap_i64]; omega
  have i6 : (3 + (v : Int)).toNat = 3 + v := by omega
  have i7 : IntKind.i64.wrap ((who : Int) + 1) = (who : Int) + 1 := by rw [IntKind.wrap_i64]; omega
  have i8 : IntKind.i64.wrap c.len = c.len := by rw [IntKind.wrap_i64]; omega
  have i9 : IntKind.i64.wrap (1 + c.len) = 1 + c.len := by rw [IntKind.wrap_i64]; omega
  generalize (sp (3 + v)).1 = lo at *
  generalize (sp (3 + v)).2 = hi at *
  go_upto_region 48 with fail
  refine wp_region_D [] (fun w' => w'.cell? ⟨b + 2, v, none⟩ = some (.pointer (some ⟨V v, 0, none⟩)) ∧ w'.cell? ⟨gX + 1, (3 + v) * 2, none⟩ = some (.int .i64 lo) ∧ w'.cell? ⟨gX + 1, (3 + v) * 2 + 1, none⟩ = some (.int .i64 hi) ∧ w'.cell? ⟨gX, 1, none⟩ = some (.int .u16 c.len)) (by kernel_rfl) ?_ (fun hHeld => ?_)
  · try dsimp only
    first | go_keep | (refine ⟨?_, ?_, ?_, ?_⟩ <;> assumption)
  refine wpD_takeP 0 (v := ?_) rfl (by kernel_rfl) (by kernel_rfl) (by kernel_rfl) (by kernel_rfl) (fun _ _ _ h => h) (fun _ => hHeld) (yields_any (by rfl) ?_) ?_; rotate_left; (· intro wS; go_simp; try with_reducible rfl)
  try simp only [Act.put, List.setIfInBounds_toArray, List.set_cons_zero, List.set_cons_succ]
  refine wpD_takeP 1 (v := ?_) rfl (by kernel_rfl) (by kernel_rfl) (by kernel_rfl) (by kernel_rfl) (fun _ _ _ h => h) (fun _ => hHeld) (yields_any (by rfl) ?_) ?_; rotate_left; (· intro wS; go_simp; try with_reducible rfl)
  try simp only [Act.put, List.setIfInBounds_toArray, List.set_cons_zero, List.set_cons_succ]
  refine wpD_take 2 (v := ?_) rfl (by kernel_rfl) (by kernel_rfl) (by kernel_rfl) (by kernel_rfl) (by kernel_rfl) (fun _ _ _ h => h) hHeld (yields_if (by rfl) ?_) ?_; rotate_left; (· intro wS hS; (try dsimp only at hS); go_simp; try with_reducible rfl)
  try simp only [Act.put, List.setIfInBounds_toArray, List.set_cons_zero, List.set_cons_succ]
  refine wpD_takeP 3 (v := ?_) rfl (by kernel_rfl) (by kernel_rfl) (by kernel_rfl) (by kernel_rfl) (fun _ _ _ h => h) (fun _ => hHeld) (yields_any (by rfl) ?_) ?_; rotate_left; (· intro wS; go_simp; try with_reducible rfl)
  try simp only [Act.put, List.setIfInBounds_toArray, List.set_cons_zero, List.set_cons_succ]
  refine wpD_takeP 4 (v := ?_) rfl (by kernel_rfl) (by kernel_rfl) (by kernel_rfl) (by kernel_rfl) (fun _ _ _ h => h) (fun _ => hHeld) (yields_any (by rfl) ?_) ?_; rotate_left; (· intro wS; go_simp; try with_reducible rfl)
  try simp only [Act.put, List.setIfInBounds_toArray, List.set_cons_zero, List.set_cons_succ]
  refine wpD_takeP 5 (v := ?_) rfl (by kernel_rfl) (by kernel_rfl) (by kernel_rfl) (by kernel_rfl) (fun _ _ _ h => h) (fun _ => hHeld) (yields_any (by rfl) ?_) ?_; rotate_left; (· intro wS; go_simp; try with_reducible rfl)
  try simp only [Act.put, List.setIfInBounds_toArray, List.set_cons_zero, List.set_cons_succ]
  refine wpD_take 6 (v := ?_) rfl (by kernel_rfl) (by kernel_rfl) (by kernel_rfl) (by kernel_rfl) (by kernel_rfl) (fun _ _ _ h => h) hHeld (yields_if (by rfl) ?_) ?_; rotate_left; (· intro wS hS; (try dsimp only at hS); go_simp; try with_reducible rfl)
  try simp only [Act.put, List.setIfInBounds_toArray, List.set_cons_zero, List.set_cons_succ]
  refine wpD_takeP 7 (v := ?_) rfl (by kernel_rfl) (by kernel_rfl) (by kernel_rfl) (by kernel_rfl) (fun _ _ _ h => h) (fun _ => hHeld) (yields_any (by rfl) ?_) ?_; rotate_left; (· intro wS; go_simp; try with_reducible rfl)
  try simp only [Act.put, List.setIfInBounds_toArray, List.set_cons_zero, List.set_cons_succ]
  refine wpD_takeP 8 (v := ?_) rfl (by kernel_rfl) (by kernel_rfl) (by kernel_rfl) (by kernel_rfl) (fun _ _ _ h => h) (fun _ => hHeld) (yields_any (by rfl) ?_) ?_; rotate_left; (· intro wS; go_simp; try with_reducible rfl)
  try simp only [Act.put, List.setIfInBounds_toArray, List.set_cons_zero, List.set_cons_succ]
  refine wpD_takeP 9 (v := ?_) rfl (by kernel_rfl) (by kernel_rfl) (by kernel_rfl) (by kernel_rfl) (fun _ _ _ h => h) (fun _ => hHeld) (yields_any (by rfl) ?_) ?_; rotate_left; (· intro wS; go_simp; try with_reducible rfl)
  try simp only [Act.put, List.setIfInBounds_toArray, List.set_cons_zero, List.set_cons_succ]
  refine wpD_take 10 (v := ?_) rfl (by kernel_rfl) (by kernel_rfl) (by kernel_rfl) (by kernel_rfl) (by kernel_rfl) (fun _ _ _ h => h) hHeld (yields_if (by rfl) ?_) ?_; rotate_left; (· intro wS hS; (try dsimp only at hS); go_simp; try with_reducible rfl)
  try simp only [Act.put, List.setIfInBounds_toArray, List.set_cons_zero, List.set_cons_succ]
  refine wpD_takeP 11 (v := ?_) rfl (by kernel_rfl) (by kernel_rfl) (by kernel_rfl) (by kernel_rfl) (fun _ _ _ h => h) (fun _ => hHeld) (yields_any (by rfl) ?_) ?_; rotate_left; (· intro wS; go_simp; try with_reducible rfl)
  try simp only [Act.put, List.setIfInBounds_toArray, List.set_cons_zero, List.set_cons_succ]
  refine wpD_takeP 12 (v := ?_) rfl (by kernel_rfl) (by kernel_rfl) (by kernel_rfl) (by kernel_rfl) (fun _ _ _ h => h) (fun _ => hHeld) (yields_any (by rfl) ?_) ?_; rotate_left; (· intro wS; go_simp; try with_reducible rfl)
  try simp only [Act.put, List.setIfInBounds_toArray, List.set_cons_zero, List.set_cons_succ]
  refine wpD_ready [13] (by kernel_rfl) (by simp) ?_
  refine AllD.cons 13 rfl (fun K' hK => ?_) AllD.nil
  go_simp
  refine (lease_Grant (V v) (vl v) (vu v) lo hi (who + 1) (1 + c.len) _ hvb.drew).mono ?_
  rintro e w2 ⟨rfl, hk2, hb2⟩
  have hpm2 := PM.vot (hpm.keep ((Kp.refl none_ w).drew)) (by omega) hk2 hb2
  have hx2 := (hx.drew).kp hk2 (only_ne (Blk.ne_ hx hvb (by decide)))
  have hn2 := (hn.drew).kp hk2 (only_ne (Blk.ne_ hn hvb (by decide)))
  clear hpm hk2 hb2 hx hn hvb hli
  generalize grantP (vl v) (vu v) lo hi (who + 1) (1 + c.len) = gp at *
  obtain ⟨ga, ge, gl, gu⟩ := gp
  dsimp only at hg1 hg2 hpm2 ⊢
  have b0 := hpm2.aV.cell v
  rw [arr_get _ (by omega), pf_lt _ (by omega), ptr] at b0
  have b2 := G2.out _ hn2
  have b3 := G3.out _ hn2
  have b4 := hx2.cell 1
  have b5 := hx2.cell 12
  simp [TurnD.cells] at b4 b5
  go_wp2_with fail
  refine hold_step hK ?_ (fun hHeld => ?_)
  · try dsimp only
    first | go_keep | (refine ⟨?_, ?_, ?_, ?_⟩ <;> assumption)
  clear hK K'
  try simp only [Act.put, List.setIfInBounds_toArray, List.set_cons_zero, List.set_cons_succ]
  refine wpD_takeP 14 (v := ?_) rfl (by kernel_rfl) (by kernel_rfl) (by kernel_rfl) (by kernel_rfl) (fun _ _ _ h => h) (fun _ => hHeld) (yields_any (by rfl) ?_) ?_; rotate_left; (· intro wS; go_simp; try with_reducible rfl)
  try simp only [Act.put, List.setIfInBounds_toArray, List.set_cons_zero, List.set_cons_succ]
  refine wpD_takeP 15 (v := ?_) rfl (by kernel_rfl) (by kernel_rfl) (by kernel_rfl) (by kernel_rfl) (fun _ _ _ h => h) (fun _ => hHeld) (yields_any (by rfl) ?_) ?_; rotate_left; (· intro wS; go_simp; try with_reducible rfl)
  try simp only [Act.put, List.setIfInBounds_toArray, List.set_cons_zero, List.set_cons_succ]
  refine wpD_takeP 16 (v := ?_) rfl (by kernel_rfl) (by kernel_rfl) (by kernel_rfl) (by kernel_rfl) (fun _ _ _ h => h) (fun _ => hHeld) (yields_any (by rfl) ?_) ?_; rotate_left; (· intro wS; go_simp; try with_reducible rfl)
  try simp only [Act.put, List.setIfInBounds_toArray, List.set_cons_zero, List.set_cons_succ]
  refine wpD_takeP 17 (v := ?_) rfl (by kernel_rfl) (by kernel_rfl) (by kernel_rfl) (by kernel_rfl) (fun _ _ _ h => h) (fun _ => hHeld) (yields_any (by rfl) ?_) ?_; rotate_left; (· intro wS; go_simp; try with_reducible rfl)
  try simp only [Act.put, List.setIfInBounds_toArray, List.set_cons_zero, List.set_cons_succ]
  refine wpD_takeP 18 (v := ?_) rfl (by kernel_rfl) (by kernel_rfl) (by kernel_rfl) (by kernel_rfl) (fun _ _ _ h => h) (fun _ => hHeld) (yields_any (by rfl) ?_) ?_; rotate_left; (· intro wS; go_simp; try with_reducible rfl)
  try simp only [Act.put, List.setIfInBounds_toArray, List.set_cons_zero, List.set_cons_succ]
  refine wpD_done (by kernel_rfl) ?_ _
  refine np_intro ?_
  clear a0 a2 a3 x1 x12
  by_cases he : ge = 0
  · obtain ⟨h1, h2, h3, h4⟩ := hg2 he
    subst he h3 h4
    have hgv : upd vl v ((who : Int) + 1) v = (who : Int) + 1 := upd_same _ _ _
    have hgu : upd vu v ga v = ga := upd_same _ _ _
    have hhr := hg1.heard v who hv hw hgv
    rw [hgu] at hhr
    clear hg2
    cases hh : c.heard with
    | false =>
      rw [hh] at b5
      go_wp2_with fail
      refine play51_wp W b n t0 j P V H S rd fl _ _ us sl T last c gX who sp _ _ _ _ _ _ _ _ _ _ _ _ _ _ _ _ _ _ _ _ _ _ _ _ _ _ _ _ _ _ _ _ _ _ _ _ _ _ _ _ _ _ _ _ _ _ _ _ _ _ _ _ _ _ _ _ _ _ _ _ _ _ _ _ _ _ _ _ _ _ _ _ _ _ _ _ _ _ _ _ _ _ _ _ _ _ _ _ _ _ _ _ _ _ _ _ _ _ _ _ _ _ _ _ _ _ _ _ _ _ _ _ _ _ _ _ _ _ _ _ _ _ _ _ _ _ _ _ _ _ _ _ _ _ _ _ _ _ _ _ _ _ _ _ _ _ _ _ _ _ _ _ _ _ _ _ _ _ _ _ _ _ _ _ _ _ _ _ _ _ _ _ _ _ _ _ _ _ _ _ _ _ _ _ _ _ _ _ _ _ _ _ _ _ _ _ _ _ _ _ _ _ _ _ _ _ _ _ _ _ _ _ _ _ _ _ _ _ _ _ _ _ _ _ _ _ _ _ _ _ _ _ _ _ _ _ _ _ _ _ _ _ _ _ _ _ _ _ _ _ _ _ _ _ _ _ _ _ _ _ _ _ _ _ _ _ _ _ _ _ _ _ _ _ _ _ Q ?_ hpm2 hg1 HCK.out hT hj hx2 hn2 HSP.out hw
      intro _ _ _ _ _ _ _ _ _ _ _ _ _ _ _ _ _ _ _ _ _ _ _ _ _ _ _ _ _ _ _ _ _ _ _ _ _ _ _ _ _ _ _ _ _ _ _ _ _ _ _ _ _ _ _ last' w' h
      apply HQ.out
      exact h
    | true =>
      rw [hh] at b5
      obtain ⟨hr1, hr2⟩ := hhr
      have c0 := hpm2.aH.cell who
      rw [arr_get _ hw, pf_lt _ hw, ptr] at c0
      have hhd : hold (H who) w2 n (us who) := ⟨hpm2.oH.blk who hw, hg1.len who hw, hg1.n1, hg1.n5⟩
      have k1 : (who : Int) < 3 := by omega
      have k0 : (0 : Int) ≤ (who : Int) := by omega
      have HR1 := Lib.hid hr1
      clear hr1
      go_wp2_with fail
      refine (lease_Heard (H who) n (us who) v ga _ hhd).mono ?_; rintro e w3 ⟨rfl, hk3, hh3⟩
      rw [HR1.out] at hh3 ⊢
      have hHb := hpm2.oH.blk who hw
      have hpm3 := PM.hol hpm2 hw hk3 hh3.1
      have hx3 := hx2.kp hk3 (only_ne (Blk.ne_ hx2 hHb (by decide)))
      have hn3 := hn2.kp hk3 (only_ne (Blk.ne_ hn2 hHb (by decide)))
      go_wp2_with fail
      refine play51_wp W b n t0 j P V H S rd fl _ _ _ sl T last c gX who sp _ _ _ _ _ _ _ _ _ _ _ _ _ _ _ _ _ _ _ _ _ _ _ _ _ _ _ _ _ _ _ _ _ _ _ _ _ _ _ _ _ _ _ _ _ _ _ _ _ _ _ _ _ _ _ _ _ _ _ _ _ _ _ _ _ _ _ _ _ _ _ _ _ _ _ _ _ _ _ _ _ _ _ _ _ _ _ _ _ _ _ _ _ _ _ _ _ _ _ _ _ _ _ _ _ _ _ _ _ _ _ _ _ _ _ _ _ _ _ _ _ _ _ _ _ _ _ _ _ _ _ _ _ _ _ _ _ _ _ _ _ _ _ _ _ _ _ _ _ _ _ _ _ _ _ _ _ _ _ _ _ _ _ _ _ _ _ _ _ _ _ _ _ _ _ _ _ _ _ _ _ _ _ _ _ _ _ _ _ _ _ _ _ _ _ _ _ _ _ _ _ _ _ _ _ _ _ _ _ _ _ _ _ _ _ _ _ _ _ _ _ _ _ _ _ _ _ _ _ _ _ _ _ _ _ _ _ _ _ _ _ _ _ _ _ _ _ _ _ _ _ _ _ _ _ _ _ _ _ _ _ _ _ _ _ _ _ _ _ _ _ _ _ _ _ _ Q ?_ hpm3 hr2 HCK.out hT hj hx3 hn3 HSP.out hw
      intro _ _ _ _ _ _ _ _ _ _ _ _ _ _ _ _ _ _ _ _ _ _ _ _ _ _ _ _ _ _ _ _ _ _ _ _ _ _ _ _ _ _ _ _ _ _ _ _ _ _ _ _ _ _ _ last' w' h
      apply HQ.out
      exact h
  · have he' : (ge == 0) = false := by simpa using he
    clear hg2 he
    go_wp2_with fail
    refine play51_wp W b n t0 j P V H S rd fl _ _ us sl T last c gX who sp _ _ _ _ _ _ _ _ _ _ _ _ _ _ _ _ _ _ _ _ _ _ _ _ _ _ _ _ _ _ _ _ _ _ _ _ _ _ _ _ _ _ _ _ _ _ _ _ _ _ _ _ _ _ _ _ _ _ _ _ _ _ _ _ _ _ _ _ _ _ _ _ _ _ _ _ _ _ _ _ _ _ _ _ _ _ _ _ _ _ _ _ _ _ _ _ _ _ _ _ _ _ _ _ _ _ _ _ _ _ _ _ _ _ _ _ _ _ _ _ _ _ _ _ _ _ _ _ _ _ _ _ _ _ _ _ _ _ _ _ _ _ _ _ _ _ _ _ _ _ _ _ _ _ _ _ _ _ _ _ _ _ _ _ _ _ _ _ _ _ _ _ _ _ _ _ _ _ _ _ _ _ _ _ _ _ _ _ _ _ _ _ _ _ _ _ _ _ _ _ _ _ _ _ _ _ _ _ _ _ _ _ _ _ _ _ _ _ _ _ _ _ _ _ _ _ _ _ _ _ _ _ _ _ _ _ _ _ _ _ _ _ _ _ _ _ _ _ _ _ _ _ _ _ _ _ _ _ _ _ _ _ _ _ _ _ _ _ _ _ _ _ _ _ _ _ Q ?_ hpm2 hg1 HCK.out hT hj hx2 hn2 HSP.out hw
    intro _ _ _ _ _ _ _ _ _ _ _ _ _ _ _ _ _ _ _ _ _ _ _ _ _ _ _ _ _ _ _ _ _ _ _ _ _ _ _ _ _ _ _ _ _ _ _ _ _ _ _ _ _ _ _ last' w' h
    apply HQ.out
    exact h
end Go.Proofs.Ytjgbandmjamcaaa

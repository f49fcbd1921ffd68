/- The walk of a turn, whole. -/
import Derived.Test.YtjgbandmjamcaaaPlayG
namespace Go.Proofs.Ytjgbandmjamcaaa
open Go.RowKit

noncomputable def play30 : Code := (Try.f40.body.bind (fromOf 30)).getD .skip
set_option maxRecDepth 100000 in
set_option maxHeartbeats 8000000 in
theorem play30_wp (W : World) (b n : Nat) (t0 : Int) (j : Nat) (P V H S : Nat → Nat) (rd fl vl vu : Nat → Int) (us : Nat → List Int) (sl : Nat → Int) (T last : Int) (c : TurnD) (ba off len cap : Nat)
    (x1 x3 x4 x5 x6 x13 x14 x15 x16 x17 x18 x19 x22 x23 x24 x25 x26 x27 x28 x29 x30 x31 x32 x33 x34 x35 x36 x37 x38 x39 x40 x41 x42 x43 x44 x45 x46 x47 x48 x49 x50 x51 x52 x53 x54 x55 x56 x57 x58 x59 x60 x61 x62 x63 x64 x65 x66 x67 x68 x69 x70 x71 x72 x73 x74 x75 x76 x77 x78 x79 x80 x81 x82 x83 x84 x85 x86 x87 x88 x89 x90 x91 x92 x93 x94 x95 x96 x97 x98 x99 x100 x101 x102 x103 x104 x105 x106 x107 x108 x109 x110 x111 x112 x113 x114 x115 x116 x117 x118 x119 x120 x121 x122 x123 x124 x125 x126 x127 x128 x129 x130 x131 x132 x133 x134 x135 x136 x137 x138 x139 x140 x141 x142 x143 x144 x145 x146 x147 x148 x149 x150 x151 x152 x153 x154 x155 x156 x157 x158 x159 x160 x161 x162 x163 x164 x165 x166 x167 x168 x169 x170 x171 x172 x173 x174 x175 x176 x177 x178 x179 x180 x181 x182 x183 x184 x185 x186 x187 x188 x189 x190 x191 x192 x193 x194 x195 x196 x197 x198 x199 x200 x201 x202 x203 x204 x205 x206 x207 x208 x209 x210 x211 x212 x213 x214 x215 x216 x217 x218 x219 x220 x221 x222 x223 x224 x225 x226 x227 x228 x229 x230 x231 x232 x233 x234 x235 x236 x237 x238 x239 x240 x241 x242 x243 x244 x245 x246 x247 x248 x249 x250 x251 x252 x253 x254 x255 x256 x257 x258 x259 x260 x261 x262 x263 x264 x265 x266 x267 x268 x269 x270 x271 x272 x273 x274 x275 x276 x277 x278 x279 x280 x281 x282 x283 x284 x285 : Value) (w : World) (Q : Exit → Act → World → Prop)
    (hQ : ∀ (y6 y22 y23 y24 y25 y26 y27 y28 y29 y30 y31 y32 y33 y34 y35 y36 y37 y117 y118 y119 y120 y121 y122 y123 y124 y125 y126 y127 y128 y129 y130 y131 y132 y133 y134 y135 y136 y137 y138 y139 y140 y141 y142 y143 y144 y145 y146 y147 y148 y149 y150 y151 y152 y153 y154 y155 y156 y157 y158 y159 y160 y161 y162 y163 y164 y165 y166 y167 y168 y169 y170 y171 y172 y173 y174 y175 y176 y177 y178 y179 y180 y181 y182 y183 y184 y185 y186 y187 y188 y189 y190 y191 y192 y193 y194 y195 y196 y197 y198 y199 y200 y201 y202 y203 y204 y205 y206 y207 y208 y209 y210 y211 y212 y213 y214 y215 y216 y217 y218 y219 y220 y221 y222 y223 y224 y225 y226 y227 y228 y229 y230 y231 y232 y233 y234 y235 y236 y237 y238 y239 y240 y241 y242 y243 y244 y245 y246 y247 y248 y249 y250 y251 y252 y253 y254 y255 y256 y257 y258 y259 y260 y261 y262 y263 y264 y265 y266 y267 y268 y269 y270 y271 y272 y273 y274 y275 y276 y277 y278 y279 y280 y281 y282 y283 y284 y285 : Value) (T' last' : Int) (w' : World), PRel W b n t0 (j + 1) T' last' w' → Q .normal ⟨#[.int .i64 T', x1, .slice (some ⟨ba, off, none⟩) len cap, x3, x4, x5, y6, .int .i64 n, .pointer (some ⟨b, 0, none⟩), .pointer (some ⟨b + 1, 0, none⟩), .pointer (some ⟨b + 2, 0, none⟩), .pointer (some ⟨b + 3, 0, none⟩), .pointer (some ⟨b + 4, 0, none⟩), x13, x14, x15, x16, x17, x18, x19, .int .i64 last', .int .i64 ((j : Int) + 1), y22, y23, y24, y25, y26, y27, y28, y29, y30, y31, y32, y33, y34, y35, y36, y37, x38, x39, x40, x41, x42, x43, x44, x45, x46, x47, x48, x49, x50, x51, x52, x53, x54, x55, x56, x57, x58, x59, x60, x61, x62, x63, x64, x65, x66, x67, x68, x69, x70, x71, x72, x73, x74, x75, x76, x77, x78, x79, x80, x81, x82, x83, x84, x85, x86, x87, x88, x89, x90, x91, x92, x93, x94, x95, x96, x97, x98, x99, x100, x101, x102, x103, x104, x105, x106, x107, x108, x109, x110, x111, x112, x113, x114, x115, x116, y117, y118, y119, y120, y121, y122, y123, y124, y125, y126, y127, y128, y129, y130, y131, y132, y133, y134, y135, y136, y137, y138, y139, y140, y141, y142, y143, y144, y145, y146, y147, y148, y149, y150, y151, y152, y153, y154, y155, y156, y157, y158, y159, y160, y161, y162, y163, y164, y165, y166, y167, y168, y169, y170, y171, y172, y173, y174, y175, y176, y177, y178, y179, y180, y181, y182, y183, y184, y185, y186, y187, y188, y189, y190, y191, y192, y193, y194, y195, y196, y197, y198, y199, y200, y201, y202, y203, y204, y205, y206, y207, y208, y209, y210, y211, y212, y213, y214, y215, y216, y217, y218, y219, y220, y221, y222, y223, y224, y225, y226, y227, y228, y229, y230, y231, y232, y233, y234, y235, y236, y237, y238, y239, y240, y241, y242, y243, y244, y245, y246, y247, y248, y249, y250, y251, y252, y253, y254, y255, y256, y257, y258, y259, y260, y261, y262, y263, y264, y265, y266, y267, y268, y269, y270, y271, y272, y273, y274, y275, y276, y277, y278, y279, y280, y281, y282, y283, y284, y285], []⟩ w')
    (hpm : PM W b n 8 5 3 P V H S (fun k => pclk (t0 + k) (rd k) (fl k)) rd vl vu us sl w) (hli : LI T n vl vu us sl last) (hck : ∀ k, k < 8 → ClkI t0 T (rd k) (fl k)) (hT : T ≤ t0 + 65535 * j) (hj : j < 60) (hb1 : t0 ≤ 1099511627775)
    (hcj : ∀ q u, q < 15 → (TurnD.cells c)[q]? = some u → w.cell? ⟨ba, off + j * 15 + q, none⟩ = some u) (hjl : j < len) (_ : len ≤ 9223372036854775807) (hok : c.ok) :
    Code.wp Try.prog play30 Q ⟨#[.int .i64 T, x1, .slice (some ⟨ba, off, none⟩) len cap, x3, x4, x5, x6, .int .i64 n, .pointer (some ⟨b, 0, none⟩), .pointer (some ⟨b + 1, 0, none⟩), .pointer (some ⟨b + 2, 0, none⟩), .pointer (some ⟨b + 3, 0, none⟩), .pointer (some ⟨b + 4, 0, none⟩), x13, x14, x15, x16, x17, x18, x19, .int .i64 last, .int .i64 j, x22, x23, x24, x25, x26, x27, x28, x29, x30, x31, x32, x33, x34, x35, x36, x37, x38, x39, x40, x41, x42, x43, x44, x45, x46, x47, x48, x49, x50, x51, x52, x53, x54, x55, x56, x57, x58, x59, x60, x61, x62, x63, x64, x65, x66, x67, x68, x69, x70, x71, x72, x73, x74, x75, x76, x77, x78, x79, x80, x81, x82, x83, x84, x85, x86, x87, x88, x89, x90, x91, x92, x93, x94, x95, x96, x97, x98, x99, x100, x101, x102, x103, x104, x105, x106, x107, x108, x109, x110, x111, x112, x113, x114, x115, x116, x117, x118, x119, x120, x121, x122, x123, x124, x125, x126, x127, x128, x129, x130, x131, x132, x133, x134, x135, x136, x137, x138, x139, x140, x141, x142, x143, x144, x145, x146, x147, x148, x149, x150, x151, x152, x153, x154, x155, x156, x157, x158, x159, x160, x161, x162, x163, x164, x165, x166, x167, x168, x169, x170, x171, x172, x173, x174, x175, x176, x177, x178, x179, x180, x181, x182, x183, x184, x185, x186, x187, x188, x189, x190, x191, x192, x193, x194, x195, x196, x197, x198, x199, x200, x201, x202, x203, x204, x205, x206, x207, x208, x209, x210, x211, x212, x213, x214, x215, x216, x217, x218, x219, x220, x221, x222, x223, x224, x225, x226, x227, x228, x229, x230, x231, x232, x233, x234, x235, x236, x237, x238, x239, x240, x241, x242, x243, x244, x245, x246, x247, x248, x249, x250, x251, x252, x253, x254, x255, x256, x257, x258, x259, x260, x261, x262, x263, x264, x265, x266, x267, x268, x269, x270, x271, x272, x273, x274, x275, x276, x277, x278, x279, x280, x281, x282, x283, x284, x285], []⟩ w := by
  conv => arg 2; whnf
  change Code.wp Try.prog (Code.seq (Code.block _ (Code.seq _ (Code.seq _ (Code.seq _ (Code.seq _ play34))))) _) Q _ _
  have HQ := Lib.hid hQ
  clear hQ
  have HCK := Lib.hid hck
  clear hck
  obtain ⟨hd0, hd1, hl0, hl1, hsk, hld, hvt⟩ := id hok
  have c0 : w.cell? ⟨ba, off + j * 15, none⟩ = _ := hcj 0 _ (by omega) rfl
  have c1 := hcj 1 _ (by omega) rfl
  have c2 := hcj 2 _ (by omega) rfl
  have c3 := hcj 3 _ (by omega) rfl
  have c4 := hcj 4 _ (by omega) rfl
  have c5 := hcj 5 _ (by omega) rfl
  have c6 := hcj 6 _ (by omega) rfl
  have c7 := hcj 7 _ (by omega) rfl
  have c8 := hcj 8 _ (by omega) rfl
  have c9 := hcj 9 _ (by omega) rfl
  have c10 := hcj 10 _ (by omega) rfl
  have c11 := hcj 11 _ (by omega) rfl
  have c12 := hcj 12 _ (by omega) rfl
  have c13 := hcj 13 _ (by omega) rfl
  have c14 := hcj 14 _ (by omega) rfl
  clear hcj hsk
  have hT0 := hli.t0
  have hT1 := hli.tm
  have i0 : (0 : Int) ≤ (j : Int) := by omega
  have i1 : (j : Int) < (len : Int) := by omega
  go_wp2_with fail
  have hpm2 := (hpm.keep ((Kp.refl none_ w).alloc (.cells c.cells.toArray 99))).keep ((Kp.refl none_ _).alloc (.cells (arr2 8 fun _ => (0, 0)) 128))
  have hx2 := (Blk.new w 99 c.cells.toArray).alloc (.cells (arr2 8 fun _ => (0, 0)) 128)
  have hn2 := Blk.new' (w.alloc (.cells c.cells.toArray 99)) 128 (arr2 8 fun _ => (0, 0)) (w.heap.size + 1) (by simp)
  have hgx : b ≤ w.heap.size := by have := hpm.aC.lt; omega
  refine play34_wp W b n t0 j P V H S rd fl vl vu us sl T (T + c.d) last c w.heap.size (fun _ => (0, 0)) _ _ _ _ _ _ _ _ _ _ _ _ _ _ _ _ _ _ _ _ _ _ _ _ _ _ _ _ _ _ _ _ _ _ _ _ _ _ _ _ _ _ _ _ _ _ _ _ _ _ _ _ _ _ _ _ _ _ _ _ _ _ _ _ _ _ _ _ _ _ _ _ _ _ _ _ _ _ _ _ _ _ _ _ _ _ _ _ _ _ _ _ _ _ _ _ _ _ _ _ _ _ _ _ _ _ _ _ _ _ _ _ _ _ _ _ _ _ _ _ _ _ _ _ _ _ _ _ _ _ _ _ _ _ _ _ _ _ _ _ _ _ _ _ _ _ _ _ _ _ _ _ _ _ _ _ _ _ _ _ _ _ _ _ _ _ _ _ _ _ _ _ _ _ _ _ _ _ _ _ _ _ _ _ _ _ _ _ _ _ _ _ _ _ _ _ _ _ _ _ _ _ _ _ _ _ _ _ _ _ _ _ _ _ _ _ _ _ _ _ _ _ _ _ _ _ _ _ _ _ _ _ _ _ _ _ _ _ _ _ _ _ _ _ _ _ _ _ _ _ _ _ _ _ _ _ _ _ _ _ _ _ _ _ _ _ _ _ _ _ _ _ _ _ _ _ _ ?_ hpm2 (hli.time c.d hd0 (by omega)) HCK.out (by omega) hj rfl hx2 hn2 hok hgx
  intro _ _ _ _ _ _ _ _ _ _ _ _ _ _ _ _ _ _ _ _ _ _ _ _ _ _ _ _ _ _ _ _ _ _ _ _ _ _ _ _ _ _ _ _ _ _ _ _ _ _ _ _ _ _ _ _ _ _ _ _ _ _ _ _ _ _ _ _ _ _ _ _ _ _ _ _ _ _ _ _ _ _ _ _ _ _ _ _ _ _ _ _ _ _ _ _ _ _ _ _ _ _ _ _ _ _ _ _ _ _ _ _ _ _ _ _ _ _ _ _ _ _ _ _ _ _ _ _ _ _ _ _ _ _ _ _ _ _ _ _ _ _ _ _ _ _ _ _ _ _ _ _ _ _ _ _ _ _ _ _ _ _ _ _ _ _ _ _ _ _ _ last' w' h
  go_wp2_with fail
  apply HQ.out
  exact h
end Go.Proofs.Ytjgbandmjamcaaa

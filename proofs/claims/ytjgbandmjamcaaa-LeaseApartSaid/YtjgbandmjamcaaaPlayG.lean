/- The walk of a turn: the clocks are read. -/
import Derived.Test.YtjgbandmjamcaaaPlayF
namespace Go.Proofs.Ytjgbandmjamcaaa
open Go.RowKit

/-- A span's block has changed. -/
theorem PM.far {W w w' : World} {b n nC nV nH : Nat} {P V H S : Nat → Nat} {C : Nat → ClkD} {rd vl vu : Nat → Int} {us : Nat → List Int} {sl : Nat → Int} (h : PM W b n nC nV nH P V H S C rd vl vu us sl w) {g : Nat} {cs : Array Value} {t : TypeId} (hB : Blk w g t cs) (ht : t = 28 ∨ t = 128) (hg : b ≤ g) (k : Kp (only g) w w') : PM W b n nC nV nH P V H S C rd vl vu us sl w' := by
  rcases ht with rfl | rfl
  all_goals exact ⟨h.eb, h.kpOnly hg k, h.aC.kp k (only_ne (h.aC.ne_ hB (by decide))), h.aR.kp k (only_ne (h.aR.ne_ hB (by decide))), h.aV.kp k (only_ne (h.aV.ne_ hB (by decide))), h.aH.kp k (only_ne (h.aH.ne_ hB (by decide))), h.aS.kp k (only_ne (h.aS.ne_ hB (by decide))), h.oC.other hB (by decide) k, h.oV.other hB (by decide) k, h.oH.other hB (by decide) k, h.oS.other hB (by decide) k⟩
noncomputable def play34 : Code := (Try.f40.body.bind (fromOf 34)).getD .skip
set_option maxRecDepth 100000 in
set_option maxHeartbeats 600000 in
theorem play34_wp (W : World) (b n : Nat) (t0 : Int) (j : Nat) (P V H S : Nat → Nat) (rd fl vl vu : Nat → Int) (us : Nat → List Int) (sl : Nat → Int) (T T' last : Int) (c : TurnD) (gX : Nat) (sp : Nat → Int × Int)
    (x1 x2 x3 x4 x5 x6 x13 x14 x15 x16 x17 x18 x19 x21 x25 x26 x27 x28 x29 x30 x31 x32 x33 x34 x35 x36 x37 x38 x39 x40 x41 x42 x43 x44 x45 x46 x47 x48 x49 x50 x51 x52 x53 x54 x55 x56 x57 x58 x59 x60 x61 x62 x63 x64 x65 x66 x67 x68 x69 x70 x71 x72 x73 x74 x75 x76 x77 x78 x79 x80 x81 x82 x83 x84 x85 x86 x87 x88 x89 x90 x91 x92 x93 x94 x95 x96 x97 x98 x99 x100 x101 x102 x103 x104 x105 x106 x107 x108 x109 x110 x111 x112 x113 x114 x115 x116 x117 x118 x119 x120 x121 x122 x123 x124 x125 x126 x127 x128 x129 x130 x131 x132 x133 x134 x135 x136 x137 x138 x139 x140 x141 x142 x143 x144 x145 x146 x147 x148 x149 x150 x151 x152 x153 x154 x155 x156 x157 x158 x159 x160 x161 x162 x163 x164 x165 x166 x167 x168 x169 x170 x171 x172 x173 x174 x175 x176 x177 x178 x179 x180 x181 x182 x183 x184 x185 x186 x187 x188 x189 x190 x191 x192 x193 x194 x195 x196 x197 x198 x199 x200 x201 x202 x203 x204 x205 x206 x207 x208 x209 x210 x211 x212 x213 x214 x215 x216 x217 x218 x219 x220 x221 x222 x223 x224 x225 x226 x227 x228 x229 x230 x231 x232 x233 x234 x235 x236 x237 x238 x239 x240 x241 x242 x243 x244 x245 x246 x247 x248 x249 x250 x251 x252 x253 x254 x255 x256 x257 x258 x259 x260 x261 x262 x263 x264 x265 x266 x267 x268 x269 x270 x271 x272 x273 x274 x275 x276 x277 x278 x279 x280 x281 x282 x283 x284 x285 : Value) (w : World) (Q : Exit → Act → World → Prop)
    (hQ : ∀ (y6 y25 y26 y27 y28 y29 y30 y31 y32 y33 y34 y35 y36 y37 y129 y130 y131 y132 y133 y134 y135 y136 y137 y138 y139 y140 y141 y142 y143 y144 y145 y146 y147 y148 y149 y150 y151 y152 y153 y154 y155 y156 y157 y158 y159 y160 y161 y162 y163 y164 y165 y166 y167 y168 y169 y170 y171 y172 y173 y174 y175 y176 y177 y178 y179 y180 y181 y182 y183 y184 y185 y186 y187 y188 y189 y190 y191 y192 y193 y194 y195 y196 y197 y198 y199 y200 y201 y202 y203 y204 y205 y206 y207 y208 y209 y210 y211 y212 y213 y214 y215 y216 y217 y218 y219 y220 y221 y222 y223 y224 y225 y226 y227 y228 y229 y230 y231 y232 y233 y234 y235 y236 y237 y238 y239 y240 y241 y242 y243 y244 y245 y246 y247 y248 y249 y250 y251 y252 y253 y254 y255 y256 y257 y258 y259 y260 y261 y262 y263 y264 y265 y266 y267 y268 y269 y270 y271 y272 y273 y274 y275 y276 y277 y278 y279 y280 y281 y282 y283 y284 y285 : Value) (last' : Int) (w' : World), PRel W b n t0 (j + 1) T' last' w' → Q .normal ⟨#[.int .i64 T', x1, x2, x3, x4, x5, y6, .int .i64 n, .pointer (some ⟨b, 0, none⟩), .pointer (some ⟨b + 1, 0, none⟩), .pointer (some ⟨b + 2, 0, none⟩), .pointer (some ⟨b + 3, 0, none⟩), .pointer (some ⟨b + 4, 0, none⟩), x13, x14, x15, x16, x17, x18, x19, .int .i64 last', x21, .pointer (some ⟨gX, 0, none⟩), .int .i64 c.d, .pointer (some ⟨gX + 1, 0, none⟩), y25, y26, y27, y28, y29, y30, y31, y32, y33, y34, y35, y36, y37, x38, x39, x40, x41, x42, x43, x44, x45, x46, x47, x48, x49, x50, x51, x52, x53, x54, x55, x56, x57, x58, x59, x60, x61, x62, x63, x64, x65, x66, x67, x68, x69, x70, x71, x72, x73, x74, x75, x76, x77, x78, x79, x80, x81, x82, x83, x84, x85, x86, x87, x88, x89, x90, x91, x92, x93, x94, x95, x96, x97, x98, x99, x100, x101, x102, x103, x104, x105, x106, x107, x108, x109, x110, x111, x112, x113, x114, x115, x116, x117, x118, x119, x120, x121, x122, x123, x124, x125, x126, x127, x128, y129, y130, y131, y132, y133, y134, y135, y136, y137, y138, y139, y140, y141, y142, y143, y144, y145, y146, y147, y148, y149, y150, y151, y152, y153, y154, y155, y156, y157, y158, y159, y160, y161, y162, y163, y164, y165, y166, y167, y168, y169, y170, y171, y172, y173, y174, y175, y176, y177, y178, y179, y180, y181, y182, y183, y184, y185, y186, y187, y188, y189, y190, y191, y192, y193, y194, y195, y196, y197, y198, y199, y200, y201, y202, y203, y204, y205, y206, y207, y208, y209, y210, y211, y212, y213, y214, y215, y216, y217, y218, y219, y220, y221, y222, y223, y224, y225, y226, y227, y228, y229, y230, y231, y232, y233, y234, y235, y236, y237, y238, y239, y240, y241, y242, y243, y244, y245, y246, y247, y248, y249, y250, y251, y252, y253, y254, y255, y256, y257, y258, y259, y260, y261, y262, y263, y264, y265, y266, y267, y268, y269, y270, y271, y272, y273, y274, y275, y276, y277, y278, y279, y280, y281, y282, y283, y284, y285], []⟩ w')
    (hpm : PM W b n 8 5 3 P V H S (fun k => pclk (t0 + k) (rd k) (fl k)) rd vl vu us sl w) (hli : LI T' n vl vu us sl last) (hck : ∀ k, k < 8 → ClkI t0 T (rd k) (fl k)) (hT : T' ≤ t0 + 65535 * (j + 1)) (hj : j < 60) (hTT : T' = T + c.d)
    (hx : Blk w gX 99 c.cells.toArray) (hn : Blk w (gX + 1) 128 (arr2 8 sp)) (hok : c.ok) (hgb : b ≤ gX) :
    Code.wp Try.prog play34 Q ⟨#[.int .i64 T', x1, x2, x3, x4, x5, x6, .int .i64 n, .pointer (some ⟨b, 0, none⟩), .pointer (some ⟨b + 1, 0, none⟩), .pointer (some ⟨b + 2, 0, none⟩), .pointer (some ⟨b + 3, 0, none⟩), .pointer (some ⟨b + 4, 0, none⟩), x13, x14, x15, x16, x17, x18, x19, .int .i64 last, x21, .pointer (some ⟨gX, 0, none⟩), .int .i64 c.d, .pointer (some ⟨gX + 1, 0, none⟩), x25, x26, x27, x28, x29, x30, x31, x32, x33, x34, x35, x36, x37, x38, x39, x40, x41, x42, x43, x44, x45, x46, x47, x48, x49, x50, x51, x52, x53, x54, x55, x56, x57, x58, x59, x60, x61, x62, x63, x64, x65, x66, x67, x68, x69, x70, x71, x72, x73, x74, x75, x76, x77, x78, x79, x80, x81, x82, x83, x84, x85, x86, x87, x88, x89, x90, x91, x92, x93, x94, x95, x96, x97, x98, x99, x100, x101, x102, x103, x104, x105, x106, x107, x108, x109, x110, x111, x112, x113, x114, x115, x116, x117, x118, x119, x120, x121, x122, x123, x124, x125, x126, x127, x128, x129, x130, x131, x132, x133, x134, x135, x136, x137, x138, x139, x140, x141, x142, x143, x144, x145, x146, x147, x148, x149, x150, x151, x152, x153, x154, x155, x156, x157, x158, x159, x160, x161, x162, x163, x164, x165, x166, x167, x168, x169, x170, x171, x172, x173, x174, x175, x176, x177, x178, x179, x180, x181, x182, x183, x184, x185, x186, x187, x188, x189, x190, x191, x192, x193, x194, x195, x196, x197, x198, x199, x200, x201, x202, x203, x204, x205, x206, x207, x208, x209, x210, x211, x212, x213, x214, x215, x216, x217, x218, x219, x220, x221, x222, x223, x224, x225, x226, x227, x228, x229, x230, x231, x232, x233, x234, x235, x236, x237, x238, x239, x240, x241, x242, x243, x244, x245, x246, x247, x248, x249, x250, x251, x252, x253, x254, x255, x256, x257, x258, x259, x260, x261, x262, x263, x264, x265, x266, x267, x268, x269, x270, x271, x272, x273, x274, x275, x276, x277, x278, x279, x280, x281, x282, x283, x284, x285], []⟩ w := by
  conv => arg 2; whnf
  change Code.wp Try.prog (Code.seq _ play42) Q _ _
  have HQ := Lib.hid hQ
  clear hQ
  obtain ⟨hd0, hd1, hl0, hl1, hsk, hld, hvt⟩ := id hok
  have HTT := Lib.hid hTT
  clear hTT
  have hsp : SpI t0 T T' 0 rd fl sp := ⟨fun q hq => absurd hq (by omega), fun q _ hq => hck q hq⟩
  clear hck
  go_wp2_with fail
  rename_i w0
  go_loopg [25] 8 (fun gk kk wr => ∃ (k : Nat) (rd fl : Nat → Int) (sp : Nat → Int × Int), k ≤ 8 ∧ gk = 8 - k ∧ kk = .int .i64 k ∧ PM W b n 8 5 3 P V H S (fun q => pclk (t0 + q) (rd q) (fl q)) rd vl vu us sl wr ∧ Blk wr gX 99 c.cells.toArray ∧ Blk wr (gX + 1) 128 (arr2 8 sp) ∧ SpI t0 T T' k rd fl sp)
  case atStart => exact ⟨0, rd, fl, sp, by omega, rfl, rfl, hpm, hx, hn, hsp⟩
  case round =>
    clear hpm hx hn hsp
    clear rd fl sp
    obtain ⟨k, rd, fl, sp, hk, rfl, rfl, hpm, hx, hn, hsp⟩ := hrel
    by_cases hk8 : k < 8
    · have HSI := Lib.hid hsp
      have hcI := hsp.2 k (Nat.le_refl _) hk8
      clear hsp
      have hTT := HTT.out
      have hst := clk_step t0 T (rd k) (fl k) c.d (c.sk k) k hk8 hcI ⟨hd0, hd1⟩ (by omega)
      rw [← hTT] at hst
      have hbd := brt_bd (c.sk k) (c.d / 256) (by omega)
      have hski := hsk k hk8
      have hrd : 0 ≤ rd k ∧ rd k ≤ 4000000 := by unfold ClkI at hcI; omega
      clear hTT hcI
      have hr1 := hpm.aR.cell k
      rw [arr_get _ hk8] at hr1
      have hr2 := hpm.aR.frozen k
      have hx1 := hx.cell (2 + k)
      rw [List.getElem?_toArray, c.skew hk8] at hx1
      have hbr := fun w => play_brought (c.sk k) (c.d / 256) (by omega) (by omega) w
      generalize brt (c.sk k) (c.d / 256) = br at *
      obtain ⟨r', hr'⟩ : ∃ r', r' = rd k + (c.d - br) := ⟨_, rfl⟩
      have s1 : c.d.tdiv 256 = c.d / 256 := Int.tdiv_eq_ediv_of_nonneg hd0
      have s2 : IntKind.i64.wrap (c.d - br) = c.d - br := by rw [IntKind.wrap_i64]; omega
      have s3 : IntKind.i64.wrap (rd k + (c.d - br)) = r' := by rw [IntKind.wrap_i64]; omega
      have s4 : IntKind.i64.wrap (c.sk k) = c.sk k := by rw [IntKind.wrap_i64]; omega
      have s5 : IntKind.i64.wrap (c.d / 256) = c.d / 256 := by rw [IntKind.wrap_i64]; omega
      rw [← hr'] at hst
      clear hr' hsk
      have i8 : (k : Int) < 8 := by omega
      have i0 : (0 : Int) ≤ (k : Int) := by omega
      have HST := Lib.hid hst
      clear hst
      go_upto_region 37 with fail
      refine wp_region_D [15] (fun w' => w'.cell? ⟨b + 1, k, none⟩ = some (.int .i64 (rd k)) ∧ w'.cell? ⟨gX, 2 + k, none⟩ = some (.int .i8 (c.sk k))) (by kernel_rfl) ?_ (fun hHeld => ?_)
      · try dsimp only
        first | exact ⟨hr1, hx1⟩ | (refine ⟨?_, ?_⟩ <;> assumption) | go_keep
      refine wpD_takeP 0 (v := ?_) rfl (by kernel_rfl) (by kernel_rfl) (by kernel_rfl) (by kernel_rfl) (fun _ _ _ h => h) (fun _ => hHeld) (yields_any (by rfl) ?_) ?_; rotate_left; (· intro wS; (try go_simp); try with_reducible rfl)
      try simp only [Act.put, List.setIfInBounds_toArray, List.set_cons_zero, List.set_cons_succ]
      refine wpD_takeP 1 (v := ?_) rfl (by kernel_rfl) (by kernel_rfl) (by kernel_rfl) (by kernel_rfl) (fun _ _ _ h => h) (fun _ => hHeld) (yields_any (by rfl) ?_) ?_; rotate_left; (· intro wS; (try go_simp); try with_reducible rfl)
      try simp only [Act.put, List.setIfInBounds_toArray, List.set_cons_zero, List.set_cons_succ]
      refine wpD_take 2 (v := ?_) rfl (by kernel_rfl) (by kernel_rfl) (by kernel_rfl) (by kernel_rfl) (by kernel_rfl) (fun _ _ _ h => h) hHeld (yields_if (by rfl) ?_) ?_; rotate_left; (· intro wS hS; (try dsimp only at hS); (try go_simp); try with_reducible rfl)
      try simp only [Act.put, List.setIfInBounds_toArray, List.set_cons_zero, List.set_cons_succ]
      refine wpD_takeP 3 (v := ?_) rfl (by kernel_rfl) (by kernel_rfl) (by kernel_rfl) (by kernel_rfl) (fun _ _ _ h => h) (fun _ => hHeld) (yields_any (by rfl) ?_) ?_; rotate_left; (· intro wS; (try go_simp); try with_reducible rfl)
      try simp only [Act.put, List.setIfInBounds_toArray, List.set_cons_zero, List.set_cons_succ]
      refine wpD_takeP 4 (v := ?_) rfl (by kernel_rfl) (by kernel_rfl) (by kernel_rfl) (by kernel_rfl) (fun _ _ _ h => h) (fun _ => hHeld) (yields_any (by rfl) ?_) ?_; rotate_left; (· intro wS; (try go_simp); try with_reducible rfl)
      try simp only [Act.put, List.setIfInBounds_toArray, List.set_cons_zero, List.set_cons_succ]
      refine wpD_takeP 5 (v := ?_) rfl (by kernel_rfl) (by kernel_rfl) (by kernel_rfl) (by kernel_rfl) (fun _ _ _ h => h) (fun _ => hHeld) (yields_any (by rfl) ?_) ?_; rotate_left; (· intro wS; (try go_simp); try with_reducible rfl)
      try simp only [Act.put, List.setIfInBounds_toArray, List.set_cons_zero, List.set_cons_succ]
      refine wpD_takeP 6 (v := ?_) rfl (by kernel_rfl) (by kernel_rfl) (by kernel_rfl) (by kernel_rfl) (fun _ _ _ h => h) (fun _ => hHeld) (yields_any (by rfl) ?_) ?_; rotate_left; (· intro wS; (try go_simp); try with_reducible rfl)
      try simp only [Act.put, List.setIfInBounds_toArray, List.set_cons_zero, List.set_cons_succ]
      refine wpD_take 7 (v := ?_) rfl (by kernel_rfl) (by kernel_rfl) (by kernel_rfl) (by kernel_rfl) (by kernel_rfl) (fun _ _ _ h => h) hHeld (yields_if (by rfl) ?_) ?_; rotate_left; (· intro wS hS; (try dsimp only at hS); (try go_simp); try with_reducible rfl)
      try simp only [Act.put, List.setIfInBounds_toArray, List.set_cons_zero, List.set_cons_succ]
      refine wpD_takeP 8 (v := ?_) rfl (by kernel_rfl) (by kernel_rfl) (by kernel_rfl) (by kernel_rfl) (fun _ _ _ h => h) (fun _ => hHeld) (yields_any (by rfl) ?_) ?_; rotate_left; (· intro wS; (try go_simp); try with_reducible rfl)
      try simp only [Act.put, List.setIfInBounds_toArray, List.set_cons_zero, List.set_cons_succ]
      refine wpD_takeP 9 (v := ?_) rfl (by kernel_rfl) (by kernel_rfl) (by kernel_rfl) (by kernel_rfl) (fun _ _ _ h => h) (fun _ => hHeld) (yields_any (by rfl) ?_) ?_; rotate_left; (· intro wS; (try go_simp); try with_reducible rfl)
      try simp only [Act.put, List.setIfInBounds_toArray, List.set_cons_zero, List.set_cons_succ]
      refine wpD_takeP 10 (v := ?_) rfl (by kernel_rfl) (by kernel_rfl) (by kernel_rfl) (by kernel_rfl) (fun _ _ _ h => h) (fun _ => hHeld) (yields_any (by rfl) ?_) ?_; rotate_left; (· intro wS; (try go_simp); try with_reducible rfl)
      try simp only [Act.put, List.setIfInBounds_toArray, List.set_cons_zero, List.set_cons_succ]
      refine wpD_ready [11] (by kernel_rfl) (by simp) ?_
      refine AllD.cons 11 rfl (fun K' hK => ?_) AllD.nil
      go_simp
      refine (hbr _).mono ?_
      rintro e w2 ⟨rfl, rfl⟩
      go_wp2_with fail
      refine hold_step hK ?_ (fun hHeld => ?_)
      · try dsimp only
        first | exact ⟨hr1, hx1⟩ | (refine ⟨?_, ?_⟩ <;> assumption) | go_keep
      clear hK K'
      try simp only [Act.put, List.setIfInBounds_toArray, List.set_cons_zero, List.set_cons_succ]
      refine wpD_takeP 12 (v := ?_) rfl (by kernel_rfl) (by kernel_rfl) (by kernel_rfl) (by kernel_rfl) (fun _ _ _ h => h) (fun _ => hHeld) (yields_any (by rfl) ?_) ?_; rotate_left; (· intro wS; (try go_simp); try with_reducible rfl)
      try simp only [Act.put, List.setIfInBounds_toArray, List.set_cons_zero, List.set_cons_succ]
      refine wpD_takeP 13 (v := ?_) rfl (by kernel_rfl) (by kernel_rfl) (by kernel_rfl) (by kernel_rfl) (fun _ _ _ h => h) (fun _ => hHeld) (yields_any (by rfl) ?_) ?_; rotate_left; (· intro wS; (try go_simp); try with_reducible rfl)
      try simp only [Act.put, List.setIfInBounds_toArray, List.set_cons_zero, List.set_cons_succ]
      refine wpD_takeP 14 (v := ?_) rfl (by kernel_rfl) (by kernel_rfl) (by kernel_rfl) (by kernel_rfl) (fun _ _ _ h => h) (fun _ => hHeld) (yields_any (by rfl) ?_) ?_; rotate_left; (· intro wS; (try go_simp); try with_reducible rfl)
      try simp only [Act.put, List.setIfInBounds_toArray, List.set_cons_zero, List.set_cons_succ]
      refine wpD_ready [15] (by kernel_rfl) (by simp) ?_
      refine AllD.cons 15 rfl (fun K' hK => ?_) AllD.nil
      go_simp
      (try go_wp2_with fail)
      refine late_step hK (by kernel_rfl) ?_
      clear hK K'
      try simp only [Act.put, List.setIfInBounds_toArray, List.set_cons_zero, List.set_cons_succ]
      refine wpD_done (by kernel_rfl) ?_ _
      refine np_intro ?_
      have hkA : Kp (only (b + 1)) wr (wr.setCell ⟨b + 1, k, none⟩ (.int .i64 r')).drew := (kp_set wr (b + 1) k (.int .i64 r')).drew
      have hpmA := (hpm.read_ k r').keep ((Kp.refl none_ _).drew)
      have hxA := hx.kp hkA (only_ne (Blk.ne_ hx hpm.aR (by decide)))
      have hnA := hn.kp hkA (only_ne (Blk.ne_ hn hpm.aR (by decide)))
      have hbA : b < (wr.setCell ⟨b + 1, k, none⟩ (.int .i64 r')).drew.heap.size := hpmA.aC.lt
      generalize (wr.setCell ⟨b + 1, k, none⟩ (.int .i64 r')).drew = wA at *
      clear hpm hx hn hr1 hr2 hx1 hkA s1 s2 s3 s4 s5 hbr hHeld
      obtain ⟨hc1, hc2, hc3, hc4, hc5, hc6, hc7, hc8⟩ := HST.out
      have hnow := fun (w : World) (h : Blk w (P k) 112 (pclk (t0 + k) (rd k) (fl k)).cells) => clock_Now (P k) (pclk (t0 + k) (rd k) (fl k)) r' w h hc1 rfl hc3 hc2 hc4
      have hcb : Blk wA (P k) 112 (pclk (t0 + k) (rd k) (fl k)).cells := hpmA.oC.blk k hk8
      have HUP := Lib.hid (pclk_upd t0 rd fl k r' (nowLo (pclk (t0 + k) (rd k) (fl k)) r'))
      have hcl : ∀ (w : World), Blk w (P k) 112 (ClkD.cells ⟨(pclk (t0 + k) (rd k) (fl k)).at_, (pclk (t0 + k) (rd k) (fl k)).time, (pclk (t0 + k) (rd k) (fl k)).width, true, (pclk (t0 + k) (rd k) (fl k)).rate, r', nowLo (pclk (t0 + k) (rd k) (fl k)) r'⟩) → Blk w (P k) 112 (pclk (t0 + k) r' (nowLo (pclk (t0 + k) (rd k) (fl k)) r')).cells := fun _ h => h
      have HCL := Lib.hid hcl
      clear hcl HST
      generalize hlo : nowLo (pclk (t0 + k) (rd k) (fl k)) r' = lo at *
      generalize hhi : nowHi (pclk (t0 + k) (rd k) (fl k)) r' = hi at *
      clear hlo hhi hc1 hc2 hc3 hc4
      have HNW := Lib.hid hnow
      clear hnow
      have a0 := hpmA.aC.cell k
      rw [arr_get _ hk8, pf_lt _ hk8, ptr] at a0
      have a1 := hpmA.aR.cell k
      rw [arr_get _ hk8, upd_same] at a1
      have nA0 : wA.heap.size ≠ b := by omega
      have nA1 : wA.heap.size ≠ b + 1 := by have := hpmA.aR.lt; omega
      go_upto_region 38 with fail
      go_cut [26, 27] from 129 to 174 (fun s26 s27 wx => ∃ g, s26 = .pointer (some ⟨g, 0, none⟩) ∧ s27 = .int .i64 0 ∧ PM W b n 8 5 3 P V H S (fun q => pclk (t0 + q) (upd rd k r' q) (upd fl k lo q)) (upd rd k r') vl vu us sl wx ∧ Blk wx gX 99 c.cells.toArray ∧ Blk wx (gX + 1) 128 (arr2 8 sp) ∧ Blk wx g 28 #[.int .i64 lo, .int .i64 hi])
      case first =>
        refine wp_region_D [] (fun w' => w'.cell? ⟨b, k, none⟩ = some (.pointer (some ⟨P k, 0, none⟩)) ∧ w'.cell? ⟨b + 1, k, none⟩ = some (.int .i64 r')) (by kernel_rfl) ?_ (fun hHeld => ?_)
        · try dsimp only
          first | exact ⟨a0, a1⟩ | (refine ⟨?_, ?_⟩ <;> assumption) | go_keep
        refine wpD_takeP 0 (v := ?_) rfl (by kernel_rfl) (by kernel_rfl) (by kernel_rfl) (by kernel_rfl) (fun _ _ _ h => h) (fun _ => hHeld) (yields_any (by rfl) ?_) ?_; rotate_left; (· intro wS; (try go_simp); try with_reducible rfl)
        try simp only [Act.put, List.setIfInBounds_toArray, List.set_cons_zero, List.set_cons_succ]
        refine wpD_takeP 1 (v := ?_) rfl (by kernel_rfl) (by kernel_rfl) (by kernel_rfl) (by kernel_rfl) (fun _ _ _ h => h) (fun _ => hHeld) (yields_any (by rfl) ?_) ?_; rotate_left; (· intro wS; (try go_simp); try with_reducible rfl)
        try simp only [Act.put, List.setIfInBounds_toArray, List.set_cons_zero, List.set_cons_succ]
        refine wpD_take 2 (v := ?_) rfl (by kernel_rfl) (by kernel_rfl) (by kernel_rfl) (by kernel_rfl) (by kernel_rfl) (fun _ _ _ h => h) hHeld (yields_if (by rfl) ?_) ?_; rotate_left; (· intro wS hS; (try dsimp only at hS); (try go_simp); try with_reducible rfl)
        try simp only [Act.put, List.setIfInBounds_toArray, List.set_cons_zero, List.set_cons_succ]
        refine wpD_takeP 3 (v := ?_) rfl (by kernel_rfl) (by kernel_rfl) (by kernel_rfl) (by kernel_rfl) (fun _ _ _ h => h) (fun _ => hHeld) (yields_any (by rfl) ?_) ?_; rotate_left; (· intro wS; (try go_simp); try with_reducible rfl)
        try simp only [Act.put, List.setIfInBounds_toArray, List.set_cons_zero, List.set_cons_succ]
        refine wpD_takeP 4 (v := ?_) rfl (by kernel_rfl) (by kernel_rfl) (by kernel_rfl) (by kernel_rfl) (fun _ _ _ h => h) (fun _ => hHeld) (yields_any (by rfl) ?_) ?_; rotate_left; (· intro wS; (try go_simp); try with_reducible rfl)
        try simp only [Act.put, List.setIfInBounds_toArray, List.set_cons_zero, List.set_cons_succ]
        refine wpD_take 5 (v := ?_) rfl (by kernel_rfl) (by kernel_rfl) (by kernel_rfl) (by kernel_rfl) (by kernel_rfl) (fun _ _ _ h => h) hHeld (yields_if (by rfl) ?_) ?_; rotate_left; (· intro wS hS; (try dsimp only at hS); (try go_simp); try with_reducible rfl)
        try simp only [Act.put, List.setIfInBounds_toArray, List.set_cons_zero, List.set_cons_succ]
        refine wpD_ready [6, 10] (by kernel_rfl) (by simp) ?_
        refine AllD.cons 6 rfl (fun K' hK => ?_) ?_
        · go_simp
          refine (HNW.out _ (by with_reducible repeat (first | exact hcb | apply Blk.drew | apply Blk.alloc))).mono ?_
          rintro e w2 ⟨rfl, hk2, hb2⟩
          have hpm2 := PM.clk (hpmA.keep (by with_reducible repeat (first | exact Kp.refl _ _ | apply Kp.drew | apply Kp.drewN | apply Kp.alloc))) hk8 hk2 (HCL.out _ hb2)
          rw [HUP.out] at hpm2
          have hx2 := Blk.kp (w := _) (by with_reducible repeat (first | exact hxA | apply Blk.drew | apply Blk.alloc)) hk2 (only_ne (Blk.ne_ hxA hcb (by decide)))
          have hn2 := Blk.kp (w := _) (by with_reducible repeat (first | exact hnA | apply Blk.drew | apply Blk.alloc)) hk2 (only_ne (Blk.ne_ hnA hcb (by decide)))
          have d0 := hpm2.aC.cell k
          rw [arr_get _ hk8, pf_lt _ hk8, ptr] at d0
          have d1 := hpm2.aR.cell k
          rw [arr_get _ hk8, upd_same] at d1
          try (have hfr : Blk w2 wA.heap.size 28 #[.int .i64 0, .int .i64 0] := Blk.kp (Blk.drew (Blk.new' _ 28 #[.int .i64 0, .int .i64 0] _ rfl)) hk2 (only_ne (by have := hcb.lt; omega)); have k0 : w2.cell? ⟨wA.heap.size, 0, none⟩ = some (.int .i64 0) := hfr.cell 0; have k1 : w2.cell? ⟨wA.heap.size, 1, none⟩ = some (.int .i64 0) := hfr.cell 1; have l0 := hfr.frozen 0; have l1 := hfr.frozen 1)
          go_wp2_with fail
          refine hold_step hK ?_ (fun hHeld => ?_)
          · try dsimp only
            first | exact ⟨a0, a1⟩ | (refine ⟨?_, ?_⟩ <;> assumption) | go_keep
          clear hK K'
          try simp only [Act.put, List.setIfInBounds_toArray, List.set_cons_zero, List.set_cons_succ]
          refine wpD_takeP 7 (v := ?_) rfl (by kernel_rfl) (by kernel_rfl) (by kernel_rfl) (by kernel_rfl) (fun _ _ _ h => h) (fun _ => hHeld) (yields_any (by rfl) ?_) ?_; rotate_left; (· intro wS; (try go_simp); try with_reducible rfl)
          try simp only [Act.put, List.setIfInBounds_toArray, List.set_cons_zero, List.set_cons_succ]
          refine wpD_takeP 8 (v := ?_) rfl (by kernel_rfl) (by kernel_rfl) (by kernel_rfl) (by kernel_rfl) (fun _ _ _ h => h) (fun _ => hHeld) (yields_any (by rfl) ?_) ?_; rotate_left; (· intro wS; (try go_simp); try with_reducible rfl)
          try simp only [Act.put, List.setIfInBounds_toArray, List.set_cons_zero, List.set_cons_succ]
          refine wpD_takeP 9 (v := ?_) rfl (by kernel_rfl) (by kernel_rfl) (by kernel_rfl) (by kernel_rfl) (fun _ _ _ h => h) (fun _ => hHeld) (yields_any (by rfl) ?_) ?_; rotate_left; (· intro wS; (try go_simp); try with_reducible rfl)
          try simp only [Act.put, List.setIfInBounds_toArray, List.set_cons_zero, List.set_cons_succ]
          refine wpD_ready [10] (by kernel_rfl) (by simp) ?_
          refine AllD.cons 10 rfl (fun K' hK => ?_) AllD.nil
          go_simp
          refine hold_step hK ?_ (fun hHeld => ?_)
          · try dsimp only
            first | exact ⟨a0, a1⟩ | (refine ⟨?_, ?_⟩ <;> assumption) | go_keep
          clear hK K'
          try simp only [Act.put, List.setIfInBounds_toArray, List.set_cons_zero, List.set_cons_succ]
          refine wpD_ready [11] (by kernel_rfl) (by simp) ?_
          refine AllD.cons 11 rfl (fun K' hK => ?_) AllD.nil
          go_simp
          (try go_wp2_with fail)
          refine hold_step hK ?_ (fun hHeld => ?_)
          · try dsimp only
            first | exact ⟨a0, a1⟩ | (refine ⟨?_, ?_⟩ <;> assumption) | go_keep
          clear hK K'
          try simp only [Act.put, List.setIfInBounds_toArray, List.set_cons_zero, List.set_cons_succ]
          refine wpD_takeP 12 (v := ?_) rfl (by kernel_rfl) (by kernel_rfl) (by kernel_rfl) (by kernel_rfl) (fun _ _ _ h => h) (fun _ => hHeld) (yields_any (by rfl) ?_) ?_; rotate_left; (· intro wS; (try go_simp); try with_reducible rfl)
          try simp only [Act.put, List.setIfInBounds_toArray, List.set_cons_zero, List.set_cons_succ]
          refine wpD_done (by kernel_rfl) ?_ _
          refine np_intro ?_
          go_wp2_with fail
          go_meet
          first
            | exact ⟨_, rfl, rfl, hpm2.keep ((Kp.refl none_ _).alloc _), hx2.alloc _, hn2.alloc _, Blk.new _ _ _⟩
            | (have kS : Kp (only wA.heap.size) w2 ((w2.setCell ⟨wA.heap.size, 0, none⟩ (.int .i64 lo)).setCell ⟨wA.heap.size, 1, none⟩ (.int .i64 hi)) := (kp_set w2 wA.heap.size 0 (.int .i64 lo)).setCell (p := ⟨wA.heap.size, 1, none⟩) _ (.inl rfl)
               exact ⟨_, rfl, rfl, hpm2.far hfr (.inl rfl) (by omega) kS, hx2.kp kS (only_ne (Blk.ne_ hx2 hfr (by decide))), hn2.kp kS (only_ne (Blk.ne_ hn2 hfr (by decide))), (hfr.set 0 _).set 1 _⟩)
        refine AllD.cons 10 rfl (fun K' hK => ?_) AllD.nil
        go_simp
        refine hold_step hK ?_ (fun hHeld => ?_)
        · try dsimp only
          first | exact ⟨a0, a1⟩ | (refine ⟨?_, ?_⟩ <;> assumption) | go_keep
        clear hK K'
        try simp only [Act.put, List.setIfInBounds_toArray, List.set_cons_zero, List.set_cons_succ]
        refine wpD_ready [6] (by kernel_rfl) (by simp) ?_
        refine AllD.cons 6 rfl (fun K' hK => ?_) AllD.nil
        go_simp
        refine (HNW.out _ (by with_reducible repeat (first | exact hcb | apply Blk.drew | apply Blk.alloc))).mono ?_
        rintro e w2 ⟨rfl, hk2, hb2⟩
        have hpm2 := PM.clk (hpmA.keep (by with_reducible repeat (first | exact Kp.refl _ _ | apply Kp.drew | apply Kp.drewN | apply Kp.alloc))) hk8 hk2 (HCL.out _ hb2)
        rw [HUP.out] at hpm2
        have hx2 := Blk.kp (w := _) (by with_reducible repeat (first | exact hxA | apply Blk.drew | apply Blk.alloc)) hk2 (only_ne (Blk.ne_ hxA hcb (by decide)))
        have hn2 := Blk.kp (w := _) (by with_reducible repeat (first | exact hnA | apply Blk.drew | apply Blk.alloc)) hk2 (only_ne (Blk.ne_ hnA hcb (by decide)))
        have d0 := hpm2.aC.cell k
        rw [arr_get _ hk8, pf_lt _ hk8, ptr] at d0
        have d1 := hpm2.aR.cell k
        rw [arr_get _ hk8, upd_same] at d1
        try (have hfr : Blk w2 wA.heap.size 28 #[.int .i64 0, .int .i64 0] := Blk.kp (Blk.drew (Blk.new' _ 28 #[.int .i64 0, .int .i64 0] _ rfl)) hk2 (only_ne (by have := hcb.lt; omega)); have k0 : w2.cell? ⟨wA.heap.size, 0, none⟩ = some (.int .i64 0) := hfr.cell 0; have k1 : w2.cell? ⟨wA.heap.size, 1, none⟩ = some (.int .i64 0) := hfr.cell 1; have l0 := hfr.frozen 0; have l1 := hfr.frozen 1)
        go_wp2_with fail
        refine hold_step hK ?_ (fun hHeld => ?_)
        · try dsimp only
          first | exact ⟨a0, a1⟩ | (refine ⟨?_, ?_⟩ <;> assumption) | go_keep
        clear hK K'
        try simp only [Act.put, List.setIfInBounds_toArray, List.set_cons_zero, List.set_cons_succ]
        refine wpD_takeP 7 (v := ?_) rfl (by kernel_rfl) (by kernel_rfl) (by kernel_rfl) (by kernel_rfl) (fun _ _ _ h => h) (fun _ => hHeld) (yields_any (by rfl) ?_) ?_; rotate_left; (· intro wS; (try go_simp); try with_reducible rfl)
        try simp only [Act.put, List.setIfInBounds_toArray, List.set_cons_zero, List.set_cons_succ]
        refine wpD_takeP 8 (v := ?_) rfl (by kernel_rfl) (by kernel_rfl) (by kernel_rfl) (by kernel_rfl) (fun _ _ _ h => h) (fun _ => hHeld) (yields_any (by rfl) ?_) ?_; rotate_left; (· intro wS; (try go_simp); try with_reducible rfl)
        try simp only [Act.put, List.setIfInBounds_toArray, List.set_cons_zero, List.set_cons_succ]
        refine wpD_takeP 9 (v := ?_) rfl (by kernel_rfl) (by kernel_rfl) (by kernel_rfl) (by kernel_rfl) (fun _ _ _ h => h) (fun _ => hHeld) (yields_any (by rfl) ?_) ?_; rotate_left; (· intro wS; (try go_simp); try with_reducible rfl)
        try simp only [Act.put, List.setIfInBounds_toArray, List.set_cons_zero, List.set_cons_succ]
        refine wpD_ready [11] (by kernel_rfl) (by simp) ?_
        refine AllD.cons 11 rfl (fun K' hK => ?_) AllD.nil
        go_simp
        (try go_wp2_with fail)
        refine hold_step hK ?_ (fun hHeld => ?_)
        · try dsimp only
          first | exact ⟨a0, a1⟩ | (refine ⟨?_, ?_⟩ <;> assumption) | go_keep
        clear hK K'
        try simp only [Act.put, List.setIfInBounds_toArray, List.set_cons_zero, List.set_cons_succ]
        refine wpD_takeP 12 (v := ?_) rfl (by kernel_rfl) (by kernel_rfl) (by kernel_rfl) (by kernel_rfl) (fun _ _ _ h => h) (fun _ => hHeld) (yields_any (by rfl) ?_) ?_; rotate_left; (· intro wS; (try go_simp); try with_reducible rfl)
        try simp only [Act.put, List.setIfInBounds_toArray, List.set_cons_zero, List.set_cons_succ]
        refine wpD_done (by kernel_rfl) ?_ _
        refine np_intro ?_
        go_wp2_with fail
        go_meet
        first
          | exact ⟨_, rfl, rfl, hpm2.keep ((Kp.refl none_ _).alloc _), hx2.alloc _, hn2.alloc _, Blk.new _ _ _⟩
          | (have kS : Kp (only wA.heap.size) w2 ((w2.setCell ⟨wA.heap.size, 0, none⟩ (.int .i64 lo)).setCell ⟨wA.heap.size, 1, none⟩ (.int .i64 hi)) := (kp_set w2 wA.heap.size 0 (.int .i64 lo)).setCell (p := ⟨wA.heap.size, 1, none⟩) _ (.inl rfl)
             exact ⟨_, rfl, rfl, hpm2.far hfr (.inl rfl) (by omega) kS, hx2.kp kS (only_ne (Blk.ne_ hx2 hfr (by decide))), hn2.kp kS (only_ne (Blk.ne_ hn2 hfr (by decide))), (hfr.set 0 _).set 1 _⟩)
      case rest =>
        obtain ⟨g, rfl, rfl, hpmB, hxB, hnB, hsB⟩ := hcut
        have d0 := hsB.cell 0
        have d1 := hsB.cell 1
        simp at d0 d1
        have hnz := hnB.lt
        have e0 := hnB.cell (k * 2)
        have e1 := hnB.cell (k * 2 + 1)
        rw [arr2_get0 _ hk8] at e0
        rw [arr2_get1 _ hk8] at e1
        have e2 := hnB.frozen (k * 2)
        have e3 := hnB.frozen (k * 2 + 1)
        have kN : Kp (only (gX + 1)) wc ((wc.setCell ⟨gX + 1, k * 2, none⟩ (.int .i64 lo)).setCell ⟨gX + 1, k * 2 + 1, none⟩ (.int .i64 hi)) := (kp_set wc (gX + 1) (k * 2) (.int .i64 lo)).setCell (p := ⟨gX + 1, k * 2 + 1, none⟩) _ (.inl rfl)
        have hpmC := hpmB.far hnB (.inr rfl) (by omega) kN
        have hxC := hxB.kp kN (only_ne (Blk.ne_ hxB hnB (by decide)))
        have hnC := (hnB.set (k * 2) (.int .i64 lo)).set (k * 2 + 1) (.int .i64 hi)
        rw [arr2_set] at hnC
        have HSP := Lib.hid (HSI.out.next hc8 hc5 hc6 hc7)
        clear hpmB hxB hnB HSI hc8
        go_wp2_with fail
        go_roundg (8 - (k + 1))
        case measure => omega
        case rel => exact ⟨k + 1, _, _, _, hk8, rfl, by go_num, hpmC, hxC, hnC, HSP.out⟩
    · obtain rfl : k = 8 := by omega
      go_wp2_with fail
      refine play42_wp W b n t0 j P V H S rd fl vl vu us sl T' last c gX sp _ _ _ _ _ _ _ _ _ _ _ _ _ _ _ _ _ _ _ _ _ _ _ _ _ _ _ _ _ _ _ _ _ _ _ _ _ _ _ _ _ _ _ _ _ _ _ _ _ _ _ _ _ _ _ _ _ _ _ _ _ _ _ _ _ _ _ _ _ _ _ _ _ _ _ _ _ _ _ _ _ _ _ _ _ _ _ _ _ _ _ _ _ _ _ _ _ _ _ _ _ _ _ _ _ _ _ _ _ _ _ _ _ _ _ _ _ _ _ _ _ _ _ _ _ _ _ _ _ _ _ _ _ _ _ _ _ _ _ _ _ _ _ _ _ _ _ _ _ _ _ _ _ _ _ _ _ _ _ _ _ _ _ _ _ _ _ _ _ _ _ _ _ _ _ _ _ _ _ _ _ _ _ _ _ _ _ _ _ _ _ _ _ _ _ _ _ _ _ _ _ _ _ _ _ _ _ _ _ _ _ _ _ _ _ _ _ _ _ _ _ _ _ _ _ _ _ _ _ _ _ _ _ _ _ _ _ _ _ _ _ _ _ _ _ _ _ _ _ _ _ _ _ _ _ _ _ _ _ _ _ _ _ _ _ _ _ _ _ _ _ _ _ _ _ _ _ Q ?_ hpm hli (fun q hq => (hsp.1 q hq).1) hT hj hx hn (fun q hq => (hsp.1 q hq).2) hok hgb
      intro _ _ _ _ _ _ _ _ _ _ _ _ _ _ _ _ _ _ _ _ _ _ _ _ _ _ _ _ _ _ _ _ _ _ _ _ _ _ _ _ _ _ _ _ _ _ _ _ _ _ _ _ _ _ _ _ _ _ _ _ _ _ _ _ _ _ _ _ _ _ _ _ _ _ _ _ _ _ _ _ _ _ _ _ _ _ _ _ _ _ _ _ _ _ _ _ _ _ _ _ _ _ _ _ _ _ _ _ _ _ _ _ _ _ _ _ _ _ _ _ _ last' w' h
      dsimp only
      apply HQ.out
      exact h
end Go.Proofs.Ytjgbandmjamcaaa

/- Contracts: the document's clock is asked: behind the last reading. -/
import Derived.Test.YtjgbandmjamcaaaClkJ
namespace Go.Proofs.Ytjgbandmjamcaaa
open Go.RowKit
attribute [local go_sem] run_store_float

theorem now22_wp (rate : Nat) (A : Option Addr) (cap : Nat) (ts : List TakD) (h lo0 hi0 fl LO HI : Int) (b g : Nat) (w w2 : World) (x0 x3 x6 x7 x8 x10 x11 x12 x13 x14 x16 x17 x18 x19 x20 x21 x22 x23 x24 x25 x26 x27 x28 x29 x30 x31 x32 x33 x34 x35 x36 x37 x38 x39 x40 x41 x42 x43 x44 x45 x46 x47 x48 x49 x50 x51 x52 x53 x54 x55 x56 x57 x58 x59 x60 x61 x62 x63 x64 x65 x66 x67 x68 x69 x70 x71 x72 x73 x74 x75 x76 x77 x78 x79 x80 x81 x82 x83 x84 x85 x86 x87 x88 x89 x90 x91 x92 x93 x94 x95 x96 x97 x98 x99 x100 x101 x102 x103 x104 x105 x106 x107 x108 x109 x110 x111 x112 x113 x114 x115 x116 x117 x118 x119 x120 x121 x122 x123 x124 x125 x126 x127 x128 x129 x130 x131 x132 x133 x134 x135 x136 x137 x138 x139 : Value) (hl : Tl (fun _ => True) w (.slice A ts.length cap) ts) (hn : ts.length ≤ 1000) (hM : NowM w b rate (.slice A ts.length cap) w2)
    (hg : Blk w2 g 28 #[.int .i64 lo0, .int .i64 hi0]) (hgb : b + 3 < g) (hLO : LO = max lo0 fl) (hHI : HI = max (min hi0 1125899906842624) LO) :
    Code.wp Try.prog now22 (bodyPost Try.prog Try.f23 (refNowOut rate 0 LO HI (ts ++ [⟨h, false, 0, 0, LO⟩]) w)) ⟨#[x0, .int .i64 h, .pointer (some ⟨b, 0, none⟩), x3, .pointer (some ⟨b + 1, 0, none⟩), .pointer (some ⟨b + 2, 0, none⟩), x6, x7, x8, .int .i64 fl, x10, x11, x12, x13, x14, .pointer (some ⟨g, 0, none⟩), x16, x17, x18, x19, x20, x21, x22, x23, x24, x25, x26, x27, x28, x29, x30, x31, x32, x33, x34, x35, x36, x37, x38, x39, x40, x41, x42, x43, x44, x45, x46, x47, x48, x49, x50, x51, x52, x53, x54, x55, x56, x57, x58, x59, x60, x61, x62, x63, x64, x65, x66, x67, x68, x69, x70, x71, x72, x73, x74, x75, x76, x77, x78, x79, x80, x81, x82, x83, x84, x85, x86, x87, x88, x89, x90, x91, x92, x93, x94, x95, x96, x97, x98, x99, x100, x101, x102, x103, x104, x105, x106, x107, x108, x109, x110, x111, x112, x113, x114, x115, x116, x117, x118, x119, x120, x121, x122, x123, x124, x125, x126, x127, x128, x129, x130, x131, x132, x133, x134, x135, x136, x137, x138, x139], []⟩ w2 := by
  by_cases h1 : lo0 < fl
  · have e1 : LO = fl := by omega
    rw [e1] at hHI ⊢
    by_cases h2 : 1125899906842624 < hi0
    · by_cases h3 : 1125899906842624 < fl
      · have e2 : HI = fl := by omega
        rw [e2]
        exact now22_111 rate A cap ts h lo0 hi0 fl b g w w2 _ _ _ _ _ _ _ _ _ _ _ _ _ _ _ _ _ _ _ _ _ _ _ _ _ _ _ _ _ _ _ _ _ _ _ _ _ _ _ _ _ _ _ _ _ _ _ _ _ _ _ _ _ _ _ _ _ _ _ _ _ _ _ _ _ _ _ _ _ _ _ _ _ _ _ _ _ _ _ _ _ _ _ _ _ _ _ _ _ _ _ _ _ _ _ _ _ _ _ _ _ _ _ _ _ _ _ _ _ _ _ _ _ _ _ _ _ _ _ _ _ _ _ _ _ _ _ _ _ _ _ _ _ _ hl hn hM hg hgb (by omega) (by omega) (by omega)
      · have e2 : HI = 1125899906842624 := by omega
        rw [e2]
        exact now22_110 rate A cap ts h lo0 hi0 fl b g w w2 _ _ _ _ _ _ _ _ _ _ _ _ _ _ _ _ _ _ _ _ _ _ _ _ _ _ _ _ _ _ _ _ _ _ _ _ _ _ _ _ _ _ _ _ _ _ _ _ _ _ _ _ _ _ _ _ _ _ _ _ _ _ _ _ _ _ _ _ _ _ _ _ _ _ _ _ _ _ _ _ _ _ _ _ _ _ _ _ _ _ _ _ _ _ _ _ _ _ _ _ _ _ _ _ _ _ _ _ _ _ _ _ _ _ _ _ _ _ _ _ _ _ _ _ _ _ _ _ _ _ _ _ _ _ hl hn hM hg hgb (by omega) (by omega) (by omega)
    · by_cases h3 : hi0 < fl
      · have e2 : HI = fl := by omega
        rw [e2]
        exact now22_101 rate A cap ts h lo0 hi0 fl b g w w2 _ _ _ _ _ _ _ _ _ _ _ _ _ _ _ _ _ _ _ _ _ _ _ _ _ _ _ _ _ _ _ _ _ _ _ _ _ _ _ _ _ _ _ _ _ _ _ _ _ _ _ _ _ _ _ _ _ _ _ _ _ _ _ _ _ _ _ _ _ _ _ _ _ _ _ _ _ _ _ _ _ _ _ _ _ _ _ _ _ _ _ _ _ _ _ _ _ _ _ _ _ _ _ _ _ _ _ _ _ _ _ _ _ _ _ _ _ _ _ _ _ _ _ _ _ _ _ _ _ _ _ _ _ _ hl hn hM hg hgb (by omega) (by omega) (by omega)
      · have e2 : HI = hi0 := by omega
        rw [e2]
        exact now22_100 rate A cap ts h lo0 hi0 fl b g w w2 _ _ _ _ _ _ _ _ _ _ _ _ _ _ _ _ _ _ _ _ _ _ _ _ _ _ _ _ _ _ _ _ _ _ _ _ _ _ _ _ _ _ _ _ _ _ _ _ _ _ _ _ _ _ _ _ _ _ _ _ _ _ _ _ _ _ _ _ _ _ _ _ _ _ _ _ _ _ _ _ _ _ _ _ _ _ _ _ _ _ _ _ _ _ _ _ _ _ _ _ _ _ _ _ _ _ _ _ _ _ _ _ _ _ _ _ _ _ _ _ _ _ _ _ _ _ _ _ _ _ _ _ _ _ hl hn hM hg hgb (by omega) (by omega) (by omega)
  · have e1 : LO = lo0 := by omega
    rw [e1] at hHI ⊢
    by_cases h2 : 1125899906842624 < hi0
    · by_cases h3 : 1125899906842624 < lo0
      · have e2 : HI = lo0 := by omega
        rw [e2]
        exact now22_011 rate A cap ts h lo0 hi0 fl b g w w2 _ _ _ _ _ _ _ _ _ _ _ _ _ _ _ _ _ _ _ _ _ _ _ _ _ _ _ _ _ _ _ _ _ _ _ _ _ _ _ _ _ _ _ _ _ _ _ _ _ _ _ _ _ _ _ _ _ _ _ _ _ _ _ _ _ _ _ _ _ _ _ _ _ _ _ _ _ _ _ _ _ _ _ _ _ _ _ _ _ _ _ _ _ _ _ _ _ _ _ _ _ _ _ _ _ _ _ _ _ _ _ _ _ _ _ _ _ _ _ _ _ _ _ _ _ _ _ _ _ _ _ _ _ _ hl hn hM hg hgb (by omega) (by omega) (by omega)
      · have e2 : HI = 1125899906842624 := by omega
        rw [e2]
        exact now22_010 rate A cap ts h lo0 hi0 fl b g w w2 _ _ _ _ _ _ _ _ _ _ _ _ _ _ _ _ _ _ _ _ _ _ _ _ _ _ _ _ _ _ _ _ _ _ _ _ _ _ _ _ _ _ _ _ _ _ _ _ _ _ _ _ _ _ _ _ _ _ _ _ _ _ _ _ _ _ _ _ _ _ _ _ _ _ _ _ _ _ _ _ _ _ _ _ _ _ _ _ _ _ _ _ _ _ _ _ _ _ _ _ _ _ _ _ _ _ _ _ _ _ _ _ _ _ _ _ _ _ _ _ _ _ _ _ _ _ _ _ _ _ _ _ _ _ hl hn hM hg hgb (by omega) (by omega) (by omega)
    · by_cases h3 : hi0 < lo0
      · have e2 : HI = lo0 := by omega
        rw [e2]
        exact now22_001 rate A cap ts h lo0 hi0 fl b g w w2 _ _ _ _ _ _ _ _ _ _ _ _ _ _ _ _ _ _ _ _ _ _ _ _ _ _ _ _ _ _ _ _ _ _ _ _ _ _ _ _ _ _ _ _ _ _ _ _ _ _ _ _ _ _ _ _ _ _ _ _ _ _ _ _ _ _ _ _ _ _ _ _ _ _ _ _ _ _ _ _ _ _ _ _ _ _ _ _ _ _ _ _ _ _ _ _ _ _ _ _ _ _ _ _ _ _ _ _ _ _ _ _ _ _ _ _ _ _ _ _ _ _ _ _ _ _ _ _ _ _ _ _ _ _ hl hn hM hg hgb (by omega) (by omega) (by omega)
      · have e2 : HI = hi0 := by omega
        rw [e2]
        exact now22_000 rate A cap ts h lo0 hi0 fl b g w w2 _ _ _ _ _ _ _ _ _ _ _ _ _ _ _ _ _ _ _ _ _ _ _ _ _ _ _ _ _ _ _ _ _ _ _ _ _ _ _ _ _ _ _ _ _ _ _ _ _ _ _ _ _ _ _ _ _ _ _ _ _ _ _ _ _ _ _ _ _ _ _ _ _ _ _ _ _ _ _ _ _ _ _ _ _ _ _ _ _ _ _ _ _ _ _ _ _ _ _ _ _ _ _ _ _ _ _ _ _ _ _ _ _ _ _ _ _ _ _ _ _ _ _ _ _ _ _ _ _ _ _ _ _ _ hl hn hM hg hgb (by omega) (by omega) (by omega)
set_option maxRecDepth 100000 in
set_option maxHeartbeats 2000000 in
theorem now20_wp (rate : Nat) (A : Option Addr) (cap : Nat) (ts : List TakD) (h fl LO HI : Int) (x : TakD) (D : Nat) (b g1 : Nat) (w w2 : World) (x0 x3 x6 x7 x8 x10 x13 x14 x15 x16 x17 x18 x19 x20 x21 x22 x23 x24 x25 x26 x27 x28 x29 x30 x31 x32 x33 x34 x35 x36 x37 x38 x39 x40 x41 x42 x43 x44 x45 x46 x47 x48 x49 x50 x51 x52 x53 x54 x55 x56 x57 x58 x59 x60 x61 x62 x63 x64 x65 x66 x67 x68 x69 x70 x71 x72 x73 x74 x75 x76 x77 x78 x79 x80 x81 x82 x83 x84 x85 x86 x87 x88 x89 x90 x91 x92 x93 x94 x95 x96 x97 x98 x99 x100 x101 x102 x103 x104 x105 x106 x107 x108 x109 x110 x111 x112 x113 x114 x115 x116 x117 x118 x119 x120 x121 x122 x123 x124 x125 x126 x127 x128 x129 x130 x131 x132 x133 x134 x135 x136 x137 x138 x139 : Value) (hl : Tl (fun _ => True) w (.slice A ts.length cap) ts) (hn : ts.length ≤ 1000) (hM : NowM w b rate (.slice A ts.length cap) w2)
    (hg : Blk w2 g1 114 x.cells.toArray) (hrate : isRateC rate) (hD : D ≤ 1125899906842624) (ht : isTime x.t = true) (he : isTime x.e = true) (hm0 : 0 ≤ grow D rate) (hm1 : grow D rate ≤ D) (hLO : LO = max (x.t + D - x.e - grow D rate) fl) (hHI : HI = max (min (x.t + D + x.e + grow D rate) 1125899906842624) LO) :
    Code.wp Try.prog now20 (bodyPost Try.prog Try.f23 (refNowOut rate 0 LO HI (ts ++ [⟨h, false, 0, 0, LO⟩]) w)) ⟨#[x0, .int .i64 h, .pointer (some ⟨b, 0, none⟩), x3, .pointer (some ⟨b + 1, 0, none⟩), .pointer (some ⟨b + 2, 0, none⟩), x6, x7, x8, .int .i64 fl, x10, .pointer (some ⟨g1, 0, none⟩), .int .i64 (D : Int), x13, x14, x15, x16, x17, x18, x19, x20, x21, x22, x23, x24, x25, x26, x27, x28, x29, x30, x31, x32, x33, x34, x35, x36, x37, x38, x39, x40, x41, x42, x43, x44, x45, x46, x47, x48, x49, x50, x51, x52, x53, x54, x55, x56, x57, x58, x59, x60, x61, x62, x63, x64, x65, x66, x67, x68, x69, x70, x71, x72, x73, x74, x75, x76, x77, x78, x79, x80, x81, x82, x83, x84, x85, x86, x87, x88, x89, x90, x91, x92, x93, x94, x95, x96, x97, x98, x99, x100, x101, x102, x103, x104, x105, x106, x107, x108, x109, x110, x111, x112, x113, x114, x115, x116, x117, x118, x119, x120, x121, x122, x123, x124, x125, x126, x127, x128, x129, x130, x131, x132, x133, x134, x135, x136, x137, x138, x139], []⟩ w2 := by
  conv => arg 2; whnf
  change Code.wp Try.prog (Code.seq _ (Code.seq _ now22)) _ _ _
  have a0 := hM.recv.cell 0
  have c2 := hg.cell 2
  have c3 := hg.cell 3
  simp [TakD.cells] at a0 c2 c3
  obtain ⟨t0, t1⟩ := isTime_iff.1 ht
  obtain ⟨e0, e1⟩ := isTime_iff.1 he
  have hpr := fun w => ref_Product D rate hD hrate w
  have HLO := Lib.hid hLO
  have HHI := Lib.hid hHI
  clear hLO hHI ht he
  generalize grow D rate = m at *
  go_wp2_with fail
  refine (hpr _).mono ?_; rintro e' w3 ⟨rfl, hk3⟩
  clear hpr
  have hM3 := hM.keep hk3
  have hg3 := hg.kp hk3 (fun h => h)
  clear a0 c2 c3
  have c2 := hg3.cell 2
  have c3 := hg3.cell 3
  simp [TakD.cells] at c2 c3
  have z1 := hg3.lt
  have z2 := hM3.none.lt
  have hd0 : (0 : Int) ≤ (D : Int) := by omega
  have hd1 : (D : Int) ≤ 1125899906842624 := by omega
  go_wp2_with fail
  exact now22_wp rate A cap ts h _ _ fl LO HI b w3.heap.size w _ _ _ _ _ _ _ _ _ _ _ _ _ _ _ _ _ _ _ _ _ _ _ _ _ _ _ _ _ _ _ _ _ _ _ _ _ _ _ _ _ _ _ _ _ _ _ _ _ _ _ _ _ _ _ _ _ _ _ _ _ _ _ _ _ _ _ _ _ _ _ _ _ _ _ _ _ _ _ _ _ _ _ _ _ _ _ _ _ _ _ _ _ _ _ _ _ _ _ _ _ _ _ _ _ _ _ _ _ _ _ _ _ _ _ _ _ _ _ _ _ _ _ _ _ _ _ _ _ _ _ _ _ _ _ hl hn (hM3.keep ((Kp.refl none_ _).alloc _)) (Blk.new _ _ _) (by omega) HLO.out HHI.out
set_option maxRecDepth 100000 in
set_option maxHeartbeats 4000000 in
theorem now14_wp (rate : Nat) (bb off cap : Nat) (ts : List TakD) (c : ClkD) (h : Int) (x : TakD) (ka b : Nat) (TS : List TakD) (w w2 : World) (x0 x3 x6 x10 x11 x12 x13 x14 x15 x16 x17 x18 x19 x20 x21 x22 x23 x24 x25 x26 x27 x28 x29 x30 x31 x32 x33 x34 x35 x36 x37 x38 x39 x40 x41 x42 x43 x44 x45 x46 x47 x48 x49 x50 x51 x52 x53 x54 x55 x56 x57 x58 x59 x60 x61 x62 x63 x64 x65 x66 x67 x68 x69 x70 x71 x72 x73 x74 x75 x76 x77 x78 x79 x80 x81 x82 x83 x84 x85 x86 x87 x88 x89 x90 x91 x92 x93 x94 x95 x96 x97 x98 x99 x100 x101 x102 x103 x104 x105 x106 x107 x108 x109 x110 x111 x112 x113 x114 x115 x116 x117 x118 x119 x120 x121 x122 x123 x124 x125 x126 x127 x128 x129 x130 x131 x132 x133 x134 x135 x136 x137 x138 x139 : Value) (hl : Tl (fun _ => True) w (.slice (some ⟨bb, off, none⟩) ts.length cap) ts) (hn : ts.length ≤ 1000) (hM : NowM w b rate (.slice (some ⟨bb, off, none⟩) ts.length cap) w2)
    (hr : TRel ts c) (hrate : isRateC rate) (hcr : c.rate = rate) (h1 : isTime h = true) (h2 : c.set = true) (hka : ka < ts.length) (hx : ts[ka]? = some x) (hxh : x.h = c.at_) (hxt : x.t = c.time) (hxe : x.e = c.width) (hTS : TS = if nowErr c h = 0 then ts ++ [⟨h, false, 0, 0, nowLo c h⟩] else ts)
    (hcl : ∀ (k j : Nat) (y : TakD) (u : Value), ts[k]? = some y → j < 5 → y.cells[j]? = some u → w2.cell? ⟨bb, off + k * 5 + j, none⟩ = some u) :
    Code.wp Try.prog now14 (bodyPost Try.prog Try.f23 (refNowOut rate (nowErr c h) (nowLoE c h) (nowHiE c h) TS w)) ⟨#[x0, .int .i64 h, .pointer (some ⟨b, 0, none⟩), x3, .pointer (some ⟨b + 1, 0, none⟩), .pointer (some ⟨b + 2, 0, none⟩), x6, .pointer (some ⟨b + 3, 0, none⟩), .int .i64 (ka : Int), .int .i64 c.floor, x10, x11, x12, x13, x14, x15, x16, x17, x18, x19, x20, x21, x22, x23, x24, x25, x26, x27, x28, x29, x30, x31, x32, x33, x34, x35, x36, x37, x38, x39, x40, x41, x42, x43, x44, x45, x46, x47, x48, x49, x50, x51, x52, x53, x54, x55, x56, x57, x58, x59, x60, x61, x62, x63, x64, x65, x66, x67, x68, x69, x70, x71, x72, x73, x74, x75, x76, x77, x78, x79, x80, x81, x82, x83, x84, x85, x86, x87, x88, x89, x90, x91, x92, x93, x94, x95, x96, x97, x98, x99, x100, x101, x102, x103, x104, x105, x106, x107, x108, x109, x110, x111, x112, x113, x114, x115, x116, x117, x118, x119, x120, x121, x122, x123, x124, x125, x126, x127, x128, x129, x130, x131, x132, x133, x134, x135, x136, x137, x138, x139], []⟩ w2 := by
  conv => arg 2; whnf
  change Code.wp Try.prog (Code.seq _ (Code.seq _ (Code.seq _ (Code.seq _ now20)))) _ _ _
  obtain ⟨y, hy⟩ : ∃ y, ts[ts.length - 1]? = some y := ⟨ts[ts.length - 1], List.getElem?_eq_getElem (by omega)⟩
  have hyh : y.h = c.last := by
    have hll := hr.last
    unfold lastH at hll
    rw [hy] at hll
    exact hll
  have cl := hcl (ts.length - 1) 0 y _ hy (by omega) rfl
  rw [Nat.add_zero, hyh] at cl
  have x0 := hcl ka 0 x _ hx (by omega) rfl
  rw [Nat.add_zero] at x0
  have x1 := hcl ka 1 x _ hx (by omega) rfl
  have x2 := hcl ka 2 x _ hx (by omega) rfl
  have x3 := hcl ka 3 x _ hx (by omega) rfl
  have x4 := hcl ka 4 x _ hx (by omega) rfl
  have a1 := hM.recv.cell 1
  simp at a1
  obtain ⟨b1, b2⟩ := isTime_iff.1 h1
  obtain ⟨k0, k1, k2, k3, k4, k5, k6⟩ := hr.ok
  obtain ⟨k7, k8⟩ := isTime_iff.1 k3
  have HTS := Lib.hid hTS
  have HAL := Lib.hid (now_alike c h hr.ok)
  have hl0 : 0 < ts.length := by omega
  have j1 : (0 : Int) ≤ (ts.length : Int) - 1 := by omega
  have j2 : (ts.length : Int) - 1 < (ts.length : Int) := by omega
  have j3 : ((ts.length : Int) - 1).toNat = ts.length - 1 := by omega
  have ka1 : (0 : Int) ≤ (ka : Int) := by omega
  have ka2 : (ka : Int) < (ts.length : Int) := by omega
  clear hcl hTS hy hyh hx
  by_cases hlt : h < c.last
  · have he : nowErr c h = 62 := by unfold nowErr; rw [if_pos h1, if_pos h2, if_pos hlt]
    have hlo : nowLoE c h = 0 := by unfold nowLoE; rw [he]; rfl
    have hhi : nowHiE c h = 0 := by unfold nowHiE; rw [he]; rfl
    have hts := HTS.out
    rw [he, if_neg (by decide)] at hts
    rw [hlo, hhi, he, hts]
    clear he hlo hhi hts HAL x0 x1 x2 x3 x4
    go_upto_region 15 with fail
    clear a1
    have hfin := Lib.hid (now_fin hM hl 62)
    have a0 := hM.recv.cell 0
    have a1 := hM.recv.cell 1
    have n0 := hM.none.cell 0
    have n1 := hM.none.cell 1
    have p0 := hM.r0.cell 0
    have p1 := hM.r0.cell 1
    have p2 := hM.r1.cell 0
    have p3 := hM.r1.cell 1
    have q0 := hM.r0.frozen 0
    have q1 := hM.r0.frozen 1
    have q2 := hM.r1.frozen 0
    have q3 := hM.r1.frozen 1
    simp at a0 a1 n0 n1 p0 p1 p2 p3
    refine wp_region_D [] (fun w' => w'.cell? ⟨b, 0, none⟩ = some (.float .f64 rate) ∧ w'.cell? ⟨b, 1, none⟩ = some (.slice (some ⟨bb, off, none⟩) ts.length cap) ∧ w'.cell? ⟨b + 3, 0, none⟩ = some (.int .i64 0) ∧ w'.cell? ⟨b + 3, 1, none⟩ = some (.int .i64 0)) (by kernel_rfl) ?_ (fun hHeld => ?_)
    · try dsimp only
      first | exact ⟨a0, a1, n0, n1⟩ | go_keep | simp [go_sem, a0, a1, n0, n1]
    refine wpD_take 0 (v := ?_) rfl (by kernel_rfl) (by kernel_rfl) (by kernel_rfl) (by kernel_rfl) (by kernel_rfl) (fun _ _ _ h => h) hHeld (yields_if (by rfl) ?_) ?_; rotate_left; (· intro wS hS; (try dsimp only at hS); (try go_simp); try with_reducible rfl)
    try simp only [Act.put, List.setIfInBounds_toArray, List.set_cons_zero, List.set_cons_succ]
    refine wpD_take 1 (v := ?_) rfl (by kernel_rfl) (by kernel_rfl) (by kernel_rfl) (by kernel_rfl) (by kernel_rfl) (fun _ _ _ h => h) hHeld (yields_if (by rfl) ?_) ?_; rotate_left; (· intro wS hS; (try dsimp only at hS); (try go_simp); try with_reducible rfl)
    try simp only [Act.put, List.setIfInBounds_toArray, List.set_cons_zero, List.set_cons_succ]
    refine wpD_ready [2] (by kernel_rfl) (by simp) ?_
    refine AllD.cons 2 rfl (fun K' hK => ?_) AllD.nil
    go_simp
    (try go_wp2_with fail)
    refine hold_step hK ?_ (fun hHeld => ?_)
    · try dsimp only
      first | exact ⟨a0, a1, n0, n1⟩ | go_keep | simp [go_sem, a0, a1, n0, n1]
    clear hK K'
    try simp only [Act.put, List.setIfInBounds_toArray, List.set_cons_zero, List.set_cons_succ]
    refine wpD_ready [3] (by kernel_rfl) (by simp) ?_
    refine AllD.cons 3 rfl (fun K' hK => ?_) AllD.nil
    go_simp
    (try go_wp2_with fail)
    refine hold_step hK ?_ (fun hHeld => ?_)
    · try dsimp only
      first | exact ⟨a0, a1, n0, n1⟩ | go_keep | simp [go_sem, a0, a1, n0, n1]
    clear hK K'
    try simp only [Act.put, List.setIfInBounds_toArray, List.set_cons_zero, List.set_cons_succ]
    refine wpD_takeP 4 (v := ?_) rfl (by kernel_rfl) (by kernel_rfl) (by kernel_rfl) (by kernel_rfl) (fun _ _ _ h => h) (fun _ => hHeld) (yields_any (by rfl) ?_) ?_; rotate_left; (· intro wS; (try go_simp); try with_reducible rfl)
    try simp only [Act.put, List.setIfInBounds_toArray, List.set_cons_zero, List.set_cons_succ]
    refine wpD_done (by kernel_rfl) ?_ _
    refine np_intro ?_
    go_wp2_with fail
    have z1 := (((hM.r0.set 0 (.float .f64 rate)).set 1 (.slice (some ⟨bb, off, none⟩) ts.length cap)).far (p := ⟨b + 2, 0, none⟩) (by simp) (.int .i64 0)).far (p := ⟨b + 2, 1, none⟩) (by simp) (.int .i64 0)
    have z2 := (((hM.r1.far (p := ⟨b + 1, 0, none⟩) (by simp) (.float .f64 rate)).far (p := ⟨b + 1, 1, none⟩) (by simp) (.slice (some ⟨bb, off, none⟩) ts.length cap)).set 0 (.int .i64 0)).set 1 (.int .i64 0)
    have e0 := z1.cell 0
    have e1 := z1.cell 1
    have e2 := z2.cell 0
    have e3 := z2.cell 1
    simp at e0 e1 e2 e3
    refine bodyPost_ret (v := .tuple #[.agg #[.float .f64 rate, .slice (some ⟨bb, off, none⟩) ts.length cap], .agg #[.int .i64 0, .int .i64 0], .int .i64 62]) ?_ rfl ?_
    · simp [results, Try.results23, go_sem, e0, e1, e2, e3]
    · exact hfin.out
  · have hlt' : c.last ≤ h := by omega
    by_cases hful : 1125899906842624 < c.time + (h - c.at_)
    · have he : nowErr c h = 64 := by unfold nowErr; rw [if_pos h1, if_pos h2, if_neg hlt, if_pos hful]
      have hlo : nowLoE c h = 0 := by unfold nowLoE; rw [he]; rfl
      have hhi : nowHiE c h = 0 := by unfold nowHiE; rw [he]; rfl
      have hts := HTS.out
      rw [he, if_neg (by decide)] at hts
      rw [hlo, hhi, he, hts]
      have hM2 := hM.keep ((Kp.refl none_ w2).alloc (.cells #[.int .i64 c.at_, .bool x.set, .int .i64 c.time, .int .i64 x.e, .int .i64 x.floor] 114))
      rw [hxh] at x0
      rw [hxt] at x2
      have m1 : 1125899906842624 - c.time < h - c.at_ := by omega
      clear he hlo hhi hts HAL hlt hxh hxt hxe
      go_upto_region 19 with fail
      clear x0 x1 x2 x3 x4 a1
      have hfin := Lib.hid (now_fin hM2 hl 64)
      have a0 := hM2.recv.cell 0
      have a1 := hM2.recv.cell 1
      have n0 := hM2.none.cell 0
      have n1 := hM2.none.cell 1
      have p0 := hM2.r0.cell 0
      have p1 := hM2.r0.cell 1
      have p2 := hM2.r1.cell 0
      have p3 := hM2.r1.cell 1
      have q0 := hM2.r0.frozen 0
      have q1 := hM2.r0.frozen 1
      have q2 := hM2.r1.frozen 0
      have q3 := hM2.r1.frozen 1
      simp at a0 a1 n0 n1 p0 p1 p2 p3
      refine wp_region_D [] (fun w' => w'.cell? ⟨b, 0, none⟩ = some (.float .f64 rate) ∧ w'.cell? ⟨b, 1, none⟩ = some (.slice (some ⟨bb, off, none⟩) ts.length cap) ∧ w'.cell? ⟨b + 3, 0, none⟩ = some (.int .i64 0) ∧ w'.cell? ⟨b + 3, 1, none⟩ = some (.int .i64 0)) (by kernel_rfl) ?_ (fun hHeld => ?_)
      · try dsimp only
        first | exact ⟨a0, a1, n0, n1⟩ | go_keep | simp [go_sem, a0, a1, n0, n1]
      refine wpD_take 0 (v := ?_) rfl (by kernel_rfl) (by kernel_rfl) (by kernel_rfl) (by kernel_rfl) (by kernel_rfl) (fun _ _ _ h => h) hHeld (yields_if (by rfl) ?_) ?_; rotate_left; (· intro wS hS; (try dsimp only at hS); (try go_simp); try with_reducible rfl)
      try simp only [Act.put, List.setIfInBounds_toArray, List.set_cons_zero, List.set_cons_succ]
      refine wpD_take 1 (v := ?_) rfl (by kernel_rfl) (by kernel_rfl) (by kernel_rfl) (by kernel_rfl) (by kernel_rfl) (fun _ _ _ h => h) hHeld (yields_if (by rfl) ?_) ?_; rotate_left; (· intro wS hS; (try dsimp only at hS); (try go_simp); try with_reducible rfl)
      try simp only [Act.put, List.setIfInBounds_toArray, List.set_cons_zero, List.set_cons_succ]
      refine wpD_ready [2] (by kernel_rfl) (by simp) ?_
      refine AllD.cons 2 rfl (fun K' hK => ?_) AllD.nil
      go_simp
      (try go_wp2_with fail)
      refine hold_step hK ?_ (fun hHeld => ?_)
      · try dsimp only
        first | exact ⟨a0, a1, n0, n1⟩ | go_keep | simp [go_sem, a0, a1, n0, n1]
      clear hK K'
      try simp only [Act.put, List.setIfInBounds_toArray, List.set_cons_zero, List.set_cons_succ]
      refine wpD_ready [3] (by kernel_rfl) (by simp) ?_
      refine AllD.cons 3 rfl (fun K' hK => ?_) AllD.nil
      go_simp
      (try go_wp2_with fail)
      refine hold_step hK ?_ (fun hHeld => ?_)
      · try dsimp only
        first | exact ⟨a0, a1, n0, n1⟩ | go_keep | simp [go_sem, a0, a1, n0, n1]
      clear hK K'
      try simp only [Act.put, List.setIfInBounds_toArray, List.set_cons_zero, List.set_cons_succ]
      refine wpD_takeP 4 (v := ?_) rfl (by kernel_rfl) (by kernel_rfl) (by kernel_rfl) (by kernel_rfl) (fun _ _ _ h => h) (fun _ => hHeld) (yields_any (by rfl) ?_) ?_; rotate_left; (· intro wS; (try go_simp); try with_reducible rfl)
      try simp only [Act.put, List.setIfInBounds_toArray, List.set_cons_zero, List.set_cons_succ]
      refine wpD_done (by kernel_rfl) ?_ _
      refine np_intro ?_
      go_wp2_with fail
      have z1 := (((hM2.r0.set 0 (.float .f64 rate)).set 1 (.slice (some ⟨bb, off, none⟩) ts.length cap)).far (p := ⟨b + 2, 0, none⟩) (by simp) (.int .i64 0)).far (p := ⟨b + 2, 1, none⟩) (by simp) (.int .i64 0)
      have z2 := (((hM2.r1.far (p := ⟨b + 1, 0, none⟩) (by simp) (.float .f64 rate)).far (p := ⟨b + 1, 1, none⟩) (by simp) (.slice (some ⟨bb, off, none⟩) ts.length cap)).set 0 (.int .i64 0)).set 1 (.int .i64 0)
      have e0 := z1.cell 0
      have e1 := z1.cell 1
      have e2 := z2.cell 0
      have e3 := z2.cell 1
      simp at e0 e1 e2 e3
      refine bodyPost_ret (v := .tuple #[.agg #[.float .f64 rate, .slice (some ⟨bb, off, none⟩) ts.length cap], .agg #[.int .i64 0, .int .i64 0], .int .i64 64]) ?_ rfl ?_
      · simp [results, Try.results23, go_sem, e0, e1, e2, e3]
      · exact hfin.out
    · have he : nowErr c h = 0 := by unfold nowErr; rw [if_pos h1, if_pos h2, if_neg hlt, if_neg hful]
      obtain ⟨g1, g2, g3, g4, g5, g6, g7, g8, g9, g10, hlo, hhi⟩ := HAL.out he
      have hloE : nowLoE c h = nowLo c h := by unfold nowLoE; rw [if_pos he]
      have hhiE : nowHiE c h = nowHi c h := by unfold nowHiE; rw [if_pos he]
      have hts := HTS.out
      rw [if_pos he] at hts
      rw [hloE, hhiE, he, hts]
      obtain ⟨D, hD⟩ : ∃ D : Nat, (D : Int) = h - c.at_ := ⟨(h - c.at_).toNat, by omega⟩
      rw [← hD] at hlo hhi g1 g2
      rw [hcr] at hlo hhi g1 g2
      rw [← hxt, ← hxe] at hlo hhi
      have hM2 := hM.keep ((Kp.refl none_ w2).alloc (.cells x.cells.toArray 114))
      have HLO := Lib.hid hlo
      have HHI := Lib.hid hhi
      have hxt1 : isTime x.t = true := by rw [hxt]; exact k3
      have hxe1 : isTime x.e = true := by rw [hxe]; exact k4
      rw [hxh] at x0
      clear he hlo hhi hts HAL hlt hloE hhiE hcr
      go_wp2_with fail
      rw [← hD]
      rw [show (#[Value.int .i64 c.at_, .bool x.set, .int .i64 c.time, .int .i64 c.width, .int .i64 x.floor] : Array Value) = x.cells.toArray from by rw [← hxh, ← hxt, ← hxe]; rfl]
      exact now20_wp rate (some ⟨bb, off, none⟩) cap ts h c.floor (nowLo c h) (nowHi c h) x D b w2.heap.size w _ _ _ _ _ _ _ _ _ _ _ _ _ _ _ _ _ _ _ _ _ _ _ _ _ _ _ _ _ _ _ _ _ _ _ _ _ _ _ _ _ _ _ _ _ _ _ _ _ _ _ _ _ _ _ _ _ _ _ _ _ _ _ _ _ _ _ _ _ _ _ _ _ _ _ _ _ _ _ _ _ _ _ _ _ _ _ _ _ _ _ _ _ _ _ _ _ _ _ _ _ _ _ _ _ _ _ _ _ _ _ _ _ _ _ _ _ _ _ _ _ _ _ _ _ _ _ _ _ _ _ _ _ _ hl hn hM2 (Blk.new _ _ _) hrate (by omega) hxt1 hxe1 g1 g2 HLO.out HHI.out
end Go.Proofs.Ytjgbandmjamcaaa

/- Contracts: the document's clock is asked: the span is brought to its bounds. -/
import Derived.Test.YtjgbandmjamcaaaClkI
namespace Go.Proofs.Ytjgbandmjamcaaa
open Go.RowKit

theorem nowSpan {w w1 : World} {b rate g : Nat} {lv : Value} (h : NowM w b rate lv w1) (hg : b + 3 < g) (i : Nat) (u : Value) : NowM w b rate lv (w1.setCell ⟨g, i, none⟩ u) :=
  ⟨h.kp.setCell (p := ⟨g, i, none⟩) u (.inr (by have := h.eb; show w.heap.size ≤ g; omega)), h.eb, h.recv.far (p := ⟨g, i, none⟩) (by show b ≠ g; omega) u, h.r0.far (p := ⟨g, i, none⟩) (by show b + 1 ≠ g; omega) u, h.r1.far (p := ⟨g, i, none⟩) (by show b + 2 ≠ g; omega) u, h.none.far (p := ⟨g, i, none⟩) (by show b + 3 ≠ g; omega) u⟩
noncomputable def now22 : Code := (Try.f23.body.bind (fromC 22)).getD .skip
set_option maxRecDepth 100000 in
theorem now22_000 (rate : Nat) (A : Option Addr) (cap : Nat) (ts : List TakD) (h lo0 hi0 fl : Int) (b g : Nat) (w w2 : World) (x0 x3 x6 x7 x8 x10 x11 x12 x13 x14 x16 x17 x18 x19 x20 x21 x22 x23 x24 x25 x26 x27 x28 x29 x30 x31 x32 x33 x34 x35 x36 x37 x38 x39 x40 x41 x42 x43 x44 x45 x46 x47 x48 x49 x50 x51 x52 x53 x54 x55 x56 x57 x58 x59 x60 x61 x62 x63 x64 x65 x66 x67 x68 x69 x70 x71 x72 x73 x74 x75 x76 x77 x78 x79 x80 x81 x82 x83 x84 x85 x86 x87 x88 x89 x90 x91 x92 x93 x94 x95 x96 x97 x98 x99 x100 x101 x102 x103 x104 x105 x106 x107 x108 x109 x110 x111 x112 x113 x114 x115 x116 x117 x118 x119 x120 x121 x122 x123 x124 x125 x126 x127 x128 x129 x130 x131 x132 x133 x134 x135 x136 x137 x138 x139 : Value) (hl : Tl (fun _ => True) w (.slice A ts.length cap) ts) (hn : ts.length ≤ 1000) (hM : NowM w b rate (.slice A ts.length cap) w2)
    (hg : Blk w2 g 28 #[.int .i64 lo0, .int .i64 hi0]) (hgb : b + 3 < g) (h1 : fl ≤ lo0) (h2 : hi0 ≤ 1125899906842624) (h3 : lo0 ≤ hi0) :
    Code.wp Try.prog now22 (bodyPost Try.prog Try.f23 (refNowOut rate 0 (lo0) (hi0) (ts ++ [⟨h, false, 0, 0, lo0⟩]) w)) ⟨#[x0, .int .i64 h, .pointer (some ⟨b, 0, none⟩), x3, .pointer (some ⟨b + 1, 0, none⟩), .pointer (some ⟨b + 2, 0, none⟩), x6, x7, x8, .int .i64 fl, x10, x11, x12, x13, x14, .pointer (some ⟨g, 0, none⟩), x16, x17, x18, x19, x20, x21, x22, x23, x24, x25, x26, x27, x28, x29, x30, x31, x32, x33, x34, x35, x36, x37, x38, x39, x40, x41, x42, x43, x44, x45, x46, x47, x48, x49, x50, x51, x52, x53, x54, x55, x56, x57, x58, x59, x60, x61, x62, x63, x64, x65, x66, x67, x68, x69, x70, x71, x72, x73, x74, x75, x76, x77, x78, x79, x80, x81, x82, x83, x84, x85, x86, x87, x88, x89, x90, x91, x92, x93, x94, x95, x96, x97, x98, x99, x100, x101, x102, x103, x104, x105, x106, x107, x108, x109, x110, x111, x112, x113, x114, x115, x116, x117, x118, x119, x120, x121, x122, x123, x124, x125, x126, x127, x128, x129, x130, x131, x132, x133, x134, x135, x136, x137, x138, x139], []⟩ w2 := by
  conv => arg 2; whnf
  change Code.wp Try.prog (Code.seq _ (Code.seq _ (Code.seq _ now28))) _ _ _
  have g0 := hg.cell 0
  have g1 := hg.cell 1
  have f0 := hg.frozen 0
  have f1 := hg.frozen 1
  simp at g0 g1
  have HG : Hid (Blk _ g 28 #[.int .i64 (lo0), .int .i64 (hi0)]) := Lib.hid (hg)
  have HM := Lib.hid (hM)
  clear hg
  go_wp2_with fail
  exact now28_wp rate A cap ts h (lo0) (hi0) b g w _ _ _ _ _ _ _ _ _ _ _ _ _ _ _ _ _ _ _ _ _ _ _ _ _ _ _ _ _ _ _ _ _ _ _ _ _ _ _ _ _ _ _ _ _ _ _ _ _ _ _ _ _ _ _ _ _ _ _ _ _ _ _ _ _ _ _ _ _ _ _ _ _ _ _ _ _ _ _ _ _ _ _ _ _ _ _ _ _ _ _ _ _ _ _ _ _ _ _ _ _ _ _ _ _ _ _ _ _ _ _ _ _ _ _ _ _ _ _ _ _ _ _ _ _ _ _ _ _ _ _ _ _ _ _ _ hl hn HM.out HG.out hgb
set_option maxRecDepth 100000 in
theorem now22_001 (rate : Nat) (A : Option Addr) (cap : Nat) (ts : List TakD) (h lo0 hi0 fl : Int) (b g : Nat) (w w2 : World) (x0 x3 x6 x7 x8 x10 x11 x12 x13 x14 x16 x17 x18 x19 x20 x21 x22 x23 x24 x25 x26 x27 x28 x29 x30 x31 x32 x33 x34 x35 x36 x37 x38 x39 x40 x41 x42 x43 x44 x45 x46 x47 x48 x49 x50 x51 x52 x53 x54 x55 x56 x57 x58 x59 x60 x61 x62 x63 x64 x65 x66 x67 x68 x69 x70 x71 x72 x73 x74 x75 x76 x77 x78 x79 x80 x81 x82 x83 x84 x85 x86 x87 x88 x89 x90 x91 x92 x93 x94 x95 x96 x97 x98 x99 x100 x101 x102 x103 x104 x105 x106 x107 x108 x109 x110 x111 x112 x113 x114 x115 x116 x117 x118 x119 x120 x121 x122 x123 x124 x125 x126 x127 x128 x129 x130 x131 x132 x133 x134 x135 x136 x137 x138 x139 : Value) (hl : Tl (fun _ => True) w (.slice A ts.length cap) ts) (hn : ts.length ≤ 1000) (hM : NowM w b rate (.slice A ts.length cap) w2)
    (hg : Blk w2 g 28 #[.int .i64 lo0, .int .i64 hi0]) (hgb : b + 3 < g) (h1 : fl ≤ lo0) (h2 : hi0 ≤ 1125899906842624) (h3 : hi0 < lo0) :
    Code.wp Try.prog now22 (bodyPost Try.prog Try.f23 (refNowOut rate 0 (lo0) (lo0) (ts ++ [⟨h, false, 0, 0, lo0⟩]) w)) ⟨#[x0, .int .i64 h, .pointer (some ⟨b, 0, none⟩), x3, .pointer (some ⟨b + 1, 0, none⟩), .pointer (some ⟨b + 2, 0, none⟩), x6, x7, x8, .int .i64 fl, x10, x11, x12, x13, x14, .pointer (some ⟨g, 0, none⟩), x16, x17, x18, x19, x20, x21, x22, x23, x24, x25, x26, x27, x28, x29, x30, x31, x32, x33, x34, x35, x36, x37, x38, x39, x40, x41, x42, x43, x44, x45, x46, x47, x48, x49, x50, x51, x52, x53, x54, x55, x56, x57, x58, x59, x60, x61, x62, x63, x64, x65, x66, x67, x68, x69, x70, x71, x72, x73, x74, x75, x76, x77, x78, x79, x80, x81, x82, x83, x84, x85, x86, x87, x88, x89, x90, x91, x92, x93, x94, x95, x96, x97, x98, x99, x100, x101, x102, x103, x104, x105, x106, x107, x108, x109, x110, x111, x112, x113, x114, x115, x116, x117, x118, x119, x120, x121, x122, x123, x124, x125, x126, x127, x128, x129, x130, x131, x132, x133, x134, x135, x136, x137, x138, x139], []⟩ w2 := by
  conv => arg 2; whnf
  change Code.wp Try.prog (Code.seq _ (Code.seq _ (Code.seq _ now28))) _ _ _
  have g0 := hg.cell 0
  have g1 := hg.cell 1
  have f0 := hg.frozen 0
  have f1 := hg.frozen 1
  simp at g0 g1
  have HG : Hid (Blk _ g 28 #[.int .i64 (lo0), .int .i64 (lo0)]) := Lib.hid (hg.set 1 (.int .i64 lo0))
  have HM := Lib.hid (nowSpan hM hgb 1 (.int .i64 lo0))
  clear hg
  go_wp2_with fail
  exact now28_wp rate A cap ts h (lo0) (lo0) b g w _ _ _ _ _ _ _ _ _ _ _ _ _ _ _ _ _ _ _ _ _ _ _ _ _ _ _ _ _ _ _ _ _ _ _ _ _ _ _ _ _ _ _ _ _ _ _ _ _ _ _ _ _ _ _ _ _ _ _ _ _ _ _ _ _ _ _ _ _ _ _ _ _ _ _ _ _ _ _ _ _ _ _ _ _ _ _ _ _ _ _ _ _ _ _ _ _ _ _ _ _ _ _ _ _ _ _ _ _ _ _ _ _ _ _ _ _ _ _ _ _ _ _ _ _ _ _ _ _ _ _ _ _ _ _ _ hl hn HM.out HG.out hgb
set_option maxRecDepth 100000 in
theorem now22_010 (rate : Nat) (A : Option Addr) (cap : Nat) (ts : List TakD) (h lo0 hi0 fl : Int) (b g : Nat) (w w2 : World) (x0 x3 x6 x7 x8 x10 x11 x12 x13 x14 x16 x17 x18 x19 x20 x21 x22 x23 x24 x25 x26 x27 x28 x29 x30 x31 x32 x33 x34 x35 x36 x37 x38 x39 x40 x41 x42 x43 x44 x45 x46 x47 x48 x49 x50 x51 x52 x53 x54 x55 x56 x57 x58 x59 x60 x61 x62 x63 x64 x65 x66 x67 x68 x69 x70 x71 x72 x73 x74 x75 x76 x77 x78 x79 x80 x81 x82 x83 x84 x85 x86 x87 x88 x89 x90 x91 x92 x93 x94 x95 x96 x97 x98 x99 x100 x101 x102 x103 x104 x105 x106 x107 x108 x109 x110 x111 x112 x113 x114 x115 x116 x117 x118 x119 x120 x121 x122 x123 x124 x125 x126 x127 x128 x129 x130 x131 x132 x133 x134 x135 x136 x137 x138 x139 : Value) (hl : Tl (fun _ => True) w (.slice A ts.length cap) ts) (hn : ts.length ≤ 1000) (hM : NowM w b rate (.slice A ts.length cap) w2)
    (hg : Blk w2 g 28 #[.int .i64 lo0, .int .i64 hi0]) (hgb : b + 3 < g) (h1 : fl ≤ lo0) (h2 : 1125899906842624 < hi0) (h3 : lo0 ≤ 1125899906842624) :
    Code.wp Try.prog now22 (bodyPost Try.prog Try.f23 (refNowOut rate 0 (lo0) (1125899906842624) (ts ++ [⟨h, false, 0, 0, lo0⟩]) w)) ⟨#[x0, .int .i64 h, .pointer (some ⟨b, 0, none⟩), x3, .pointer (some ⟨b + 1, 0, none⟩), .pointer (some ⟨b + 2, 0, none⟩), x6, x7, x8, .int .i64 fl, x10, x11, x12, x13, x14, .pointer (some ⟨g, 0, none⟩), x16, x17, x18, x19, x20, x21, x22, x23, x24, x25, x26, x27, x28, x29, x30, x31, x32, x33, x34, x35, x36, x37, x38, x39, x40, x41, x42, x43, x44, x45, x46, x47, x48, x49, x50, x51, x52, x53, x54, x55, x56, x57, x58, x59, x60, x61, x62, x63, x64, x65, x66, x67, x68, x69, x70, x71, x72, x73, x74, x75, x76, x77, x78, x79, x80, x81, x82, x83, x84, x85, x86, x87, x88, x89, x90, x91, x92, x93, x94, x95, x96, x97, x98, x99, x100, x101, x102, x103, x104, x105, x106, x107, x108, x109, x110, x111, x112, x113, x114, x115, x116, x117, x118, x119, x120, x121, x122, x123, x124, x125, x126, x127, x128, x129, x130, x131, x132, x133, x134, x135, x136, x137, x138, x139], []⟩ w2 := by
  conv => arg 2; whnf
  change Code.wp Try.prog (Code.seq _ (Code.seq _ (Code.seq _ now28))) _ _ _
  have g0 := hg.cell 0
  have g1 := hg.cell 1
  have f0 := hg.frozen 0
  have f1 := hg.frozen 1
  simp at g0 g1
  have HG : Hid (Blk _ g 28 #[.int .i64 (lo0), .int .i64 (1125899906842624)]) := Lib.hid (hg.set 1 (.int .i64 1125899906842624))
  have HM := Lib.hid (nowSpan hM hgb 1 (.int .i64 1125899906842624))
  clear hg
  go_wp2_with fail
  exact now28_wp rate A cap ts h (lo0) (1125899906842624) b g w _ _ _ _ _ _ _ _ _ _ _ _ _ _ _ _ _ _ _ _ _ _ _ _ _ _ _ _ _ _ _ _ _ _ _ _ _ _ _ _ _ _ _ _ _ _ _ _ _ _ _ _ _ _ _ _ _ _ _ _ _ _ _ _ _ _ _ _ _ _ _ _ _ _ _ _ _ _ _ _ _ _ _ _ _ _ _ _ _ _ _ _ _ _ _ _ _ _ _ _ _ _ _ _ _ _ _ _ _ _ _ _ _ _ _ _ _ _ _ _ _ _ _ _ _ _ _ _ _ _ _ _ _ _ _ _ hl hn HM.out HG.out hgb
set_option maxRecDepth 100000 in
theorem now22_011 (rate : Nat) (A : Option Addr) (cap : Nat) (ts : List TakD) (h lo0 hi0 fl : Int) (b g : Nat) (w w2 : World) (x0 x3 x6 x7 x8 x10 x11 x12 x13 x14 x16 x17 x18 x19 x20 x21 x22 x23 x24 x25 x26 x27 x28 x29 x30 x31 x32 x33 x34 x35 x36 x37 x38 x39 x40 x41 x42 x43 x44 x45 x46 x47 x48 x49 x50 x51 x52 x53 x54 x55 x56 x57 x58 x59 x60 x61 x62 x63 x64 x65 x66 x67 x68 x69 x70 x71 x72 x73 x74 x75 x76 x77 x78 x79 x80 x81 x82 x83 x84 x85 x86 x87 x88 x89 x90 x91 x92 x93 x94 x95 x96 x97 x98 x99 x100 x101 x102 x103 x104 x105 x106 x107 x108 x109 x110 x111 x112 x113 x114 x115 x116 x117 x118 x119 x120 x121 x122 x123 x124 x125 x126 x127 x128 x129 x130 x131 x132 x133 x134 x135 x136 x137 x138 x139 : Value) (hl : Tl (fun _ => True) w (.slice A ts.length cap) ts) (hn : ts.length ≤ 1000) (hM : NowM w b rate (.slice A ts.length cap) w2)
    (hg : Blk w2 g 28 #[.int .i64 lo0, .int .i64 hi0]) (hgb : b + 3 < g) (h1 : fl ≤ lo0) (h2 : 1125899906842624 < hi0) (h3 : 1125899906842624 < lo0) :
    Code.wp Try.prog now22 (bodyPost Try.prog Try.f23 (refNowOut rate 0 (lo0) (lo0) (ts ++ [⟨h, false, 0, 0, lo0⟩]) w)) ⟨#[x0, .int .i64 h, .pointer (some ⟨b, 0, none⟩), x3, .pointer (some ⟨b + 1, 0, none⟩), .pointer (some ⟨b + 2, 0, none⟩), x6, x7, x8, .int .i64 fl, x10, x11, x12, x13, x14, .pointer (some ⟨g, 0, none⟩), x16, x17, x18, x19, x20, x21, x22, x23, x24, x25, x26, x27, x28, x29, x30, x31, x32, x33, x34, x35, x36, x37, x38, x39, x40, x41, x42, x43, x44, x45, x46, x47, x48, x49, x50, x51, x52, x53, x54, x55, x56, x57, x58, x59, x60, x61, x62, x63, x64, x65, x66, x67, x68, x69, x70, x71, x72, x73, x74, x75, x76, x77, x78, x79, x80, x81, x82, x83, x84, x85, x86, x87, x88, x89, x90, x91, x92, x93, x94, x95, x96, x97, x98, x99, x100, x101, x102, x103, x104, x105, x106, x107, x108, x109, x110, x111, x112, x113, x114, x115, x116, x117, x118, x119, x120, x121, x122, x123, x124, x125, x126, x127, x128, x129, x130, x131, x132, x133, x134, x135, x136, x137, x138, x139], []⟩ w2 := by
  conv => arg 2; whnf
  change Code.wp Try.prog (Code.seq _ (Code.seq _ (Code.seq _ now28))) _ _ _
  have g0 := hg.cell 0
  have g1 := hg.cell 1
  have f0 := hg.frozen 0
  have f1 := hg.frozen 1
  simp at g0 g1
  have HG : Hid (Blk _ g 28 #[.int .i64 (lo0), .int .i64 (lo0)]) := Lib.hid ((hg.set 1 (.int .i64 1125899906842624)).set 1 (.int .i64 lo0))
  have HM := Lib.hid (nowSpan (nowSpan hM hgb 1 (.int .i64 1125899906842624)) hgb 1 (.int .i64 lo0))
  clear hg
  go_wp2_with fail
  exact now28_wp rate A cap ts h (lo0) (lo0) b g w _ _ _ _ _ _ _ _ _ _ _ _ _ _ _ _ _ _ _ _ _ _ _ _ _ _ _ _ _ _ _ _ _ _ _ _ _ _ _ _ _ _ _ _ _ _ _ _ _ _ _ _ _ _ _ _ _ _ _ _ _ _ _ _ _ _ _ _ _ _ _ _ _ _ _ _ _ _ _ _ _ _ _ _ _ _ _ _ _ _ _ _ _ _ _ _ _ _ _ _ _ _ _ _ _ _ _ _ _ _ _ _ _ _ _ _ _ _ _ _ _ _ _ _ _ _ _ _ _ _ _ _ _ _ _ _ hl hn HM.out HG.out hgb
set_option maxRecDepth 100000 in
theorem now22_100 (rate : Nat) (A : Option Addr) (cap : Nat) (ts : List TakD) (h lo0 hi0 fl : Int) (b g : Nat) (w w2 : World) (x0 x3 x6 x7 x8 x10 x11 x12 x13 x14 x16 x17 x18 x19 x20 x21 x22 x23 x24 x25 x26 x27 x28 x29 x30 x31 x32 x33 x34 x35 x36 x37 x38 x39 x40 x41 x42 x43 x44 x45 x46 x47 x48 x49 x50 x51 x52 x53 x54 x55 x56 x57 x58 x59 x60 x61 x62 x63 x64 x65 x66 x67 x68 x69 x70 x71 x72 x73 x74 x75 x76 x77 x78 x79 x80 x81 x82 x83 x84 x85 x86 x87 x88 x89 x90 x91 x92 x93 x94 x95 x96 x97 x98 x99 x100 x101 x102 x103 x104 x105 x106 x107 x108 x109 x110 x111 x112 x113 x114 x115 x116 x117 x118 x119 x120 x121 x122 x123 x124 x125 x126 x127 x128 x129 x130 x131 x132 x133 x134 x135 x136 x137 x138 x139 : Value) (hl : Tl (fun _ => True) w (.slice A ts.length cap) ts) (hn : ts.length ≤ 1000) (hM : NowM w b rate (.slice A ts.length cap) w2)
    (hg : Blk w2 g 28 #[.int .i64 lo0, .int .i64 hi0]) (hgb : b + 3 < g) (h1 : lo0 < fl) (h2 : hi0 ≤ 1125899906842624) (h3 : fl ≤ hi0) :
    Code.wp Try.prog now22 (bodyPost Try.prog Try.f23 (refNowOut rate 0 (fl) (hi0) (ts ++ [⟨h, false, 0, 0, fl⟩]) w)) ⟨#[x0, .int .i64 h, .pointer (some ⟨b, 0, none⟩), x3, .pointer (some ⟨b + 1, 0, none⟩), .pointer (some ⟨b + 2, 0, none⟩), x6, x7, x8, .int .i64 fl, x10, x11, x12, x13, x14, .pointer (some ⟨g, 0, none⟩), x16, x17, x18, x19, x20, x21, x22, x23, x24, x25, x26, x27, x28, x29, x30, x31, x32, x33, x34, x35, x36, x37, x38, x39, x40, x41, x42, x43, x44, x45, x46, x47, x48, x49, x50, x51, x52, x53, x54, x55, x56, x57, x58, x59, x60, x61, x62, x63, x64, x65, x66, x67, x68, x69, x70, x71, x72, x73, x74, x75, x76, x77, x78, x79, x80, x81, x82, x83, x84, x85, x86, x87, x88, x89, x90, x91, x92, x93, x94, x95, x96, x97, x98, x99, x100, x101, x102, x103, x104, x105, x106, x107, x108, x109, x110, x111, x112, x113, x114, x115, x116, x117, x118, x119, x120, x121, x122, x123, x124, x125, x126, x127, x128, x129, x130, x131, x132, x133, x134, x135, x136, x137, x138, x139], []⟩ w2 := by
  conv => arg 2; whnf
  change Code.wp Try.prog (Code.seq _ (Code.seq _ (Code.seq _ now28))) _ _ _
  have g0 := hg.cell 0
  have g1 := hg.cell 1
  have f0 := hg.frozen 0
  have f1 := hg.frozen 1
  simp at g0 g1
  have HG : Hid (Blk _ g 28 #[.int .i64 (fl), .int .i64 (hi0)]) := Lib.hid (hg.set 0 (.int .i64 fl))
  have HM := Lib.hid (nowSpan hM hgb 0 (.int .i64 fl))
  clear hg
  go_wp2_with fail
  exact now28_wp rate A cap ts h (fl) (hi0) b g w _ _ _ _ _ _ _ _ _ _ _ _ _ _ _ _ _ _ _ _ _ _ _ _ _ _ _ _ _ _ _ _ _ _ _ _ _ _ _ _ _ _ _ _ _ _ _ _ _ _ _ _ _ _ _ _ _ _ _ _ _ _ _ _ _ _ _ _ _ _ _ _ _ _ _ _ _ _ _ _ _ _ _ _ _ _ _ _ _ _ _ _ _ _ _ _ _ _ _ _ _ _ _ _ _ _ _ _ _ _ _ _ _ _ _ _ _ _ _ _ _ _ _ _ _ _ _ _ _ _ _ _ _ _ _ _ hl hn HM.out HG.out hgb
set_option maxRecDepth 100000 in
theorem now22_101 (rate : Nat) (A : Option Addr) (cap : Nat) (ts : List TakD) (h lo0 hi0 fl : Int) (b g : Nat) (w w2 : World) (x0 x3 x6 x7 x8 x10 x11 x12 x13 x14 x16 x17 x18 x19 x20 x21 x22 x23 x24 x25 x26 x27 x28 x29 x30 x31 x32 x33 x34 x35 x36 x37 x38 x39 x40 x41 x42 x43 x44 x45 x46 x47 x48 x49 x50 x51 x52 x53 x54 x55 x56 x57 x58 x59 x60 x61 x62 x63 x64 x65 x66 x67 x68 x69 x70 x71 x72 x73 x74 x75 x76 x77 x78 x79 x80 x81 x82 x83 x84 x85 x86 x87 x88 x89 x90 x91 x92 x93 x94 x95 x96 x97 x98 x99 x100 x101 x102 x103 x104 x105 x106 x107 x108 x109 x110 x111 x112 x113 x114 x115 x116 x117 x118 x119 x120 x121 x122 x123 x124 x125 x126 x127 x128 x129 x130 x131 x132 x133 x134 x135 x136 x137 x138 x139 : Value) (hl : Tl (fun _ => True) w (.slice A ts.length cap) ts) (hn : ts.length ≤ 1000) (hM : NowM w b rate (.slice A ts.length cap) w2)
    (hg : Blk w2 g 28 #[.int .i64 lo0, .int .i64 hi0]) (hgb : b + 3 < g) (h1 : lo0 < fl) (h2 : hi0 ≤ 1125899906842624) (h3 : hi0 < fl) :
    Code.wp Try.prog now22 (bodyPost Try.prog Try.f23 (refNowOut rate 0 (fl) (fl) (ts ++ [⟨h, false, 0, 0, fl⟩]) w)) ⟨#[x0, .int .i64 h, .pointer (some ⟨b, 0, none⟩), x3, .pointer (some ⟨b + 1, 0, none⟩), .pointer (some ⟨b + 2, 0, none⟩), x6, x7, x8, .int .i64 fl, x10, x11, x12, x13, x14, .pointer (some ⟨g, 0, none⟩), x16, x17, x18, x19, x20, x21, x22, x23, x24, x25, x26, x27, x28, x29, x30, x31, x32, x33, x34, x35, x36, x37, x38, x39, x40, x41, x42, x43, x44, x45, x46, x47, x48, x49, x50, x51, x52, x53, x54, x55, x56, x57, x58, x59, x60, x61, x62, x63, x64, x65, x66, x67, x68, x69, x70, x71, x72, x73, x74, x75, x76, x77, x78, x79, x80, x81, x82, x83, x84, x85, x86, x87, x88, x89, x90, x91, x92, x93, x94, x95, x96, x97, x98, x99, x100, x101, x102, x103, x104, x105, x106, x107, x108, x109, x110, x111, x112, x113, x114, x115, x116, x117, x118, x119, x120, x121, x122, x123, x124, x125, x126, x127, x128, x129, x130, x131, x132, x133, x134, x135, x136, x137, x138, x139], []⟩ w2 := by
  conv => arg 2; whnf
  change Code.wp Try.prog (Code.seq _ (Code.seq _ (Code.seq _ now28))) _ _ _
  have g0 := hg.cell 0
  have g1 := hg.cell 1
  have f0 := hg.frozen 0
  have f1 := hg.frozen 1
  simp at g0 g1
  have HG : Hid (Blk _ g 28 #[.int .i64 (fl), .int .i64 (fl)]) := Lib.hid ((hg.set 0 (.int .i64 fl)).set 1 (.int .i64 fl))
  have HM := Lib.hid (nowSpan (nowSpan hM hgb 0 (.int .i64 fl)) hgb 1 (.int .i64 fl))
  clear hg
  go_wp2_with fail
  exact now28_wp rate A cap ts h (fl) (fl) b g w _ _ _ _ _ _ _ _ _ _ _ _ _ _ _ _ _ _ _ _ _ _ _ _ _ _ _ _ _ _ _ _ _ _ _ _ _ _ _ _ _ _ _ _ _ _ _ _ _ _ _ _ _ _ _ _ _ _ _ _ _ _ _ _ _ _ _ _ _ _ _ _ _ _ _ _ _ _ _ _ _ _ _ _ _ _ _ _ _ _ _ _ _ _ _ _ _ _ _ _ _ _ _ _ _ _ _ _ _ _ _ _ _ _ _ _ _ _ _ _ _ _ _ _ _ _ _ _ _ _ _ _ _ _ _ _ hl hn HM.out HG.out hgb
set_option maxRecDepth 100000 in
theorem now22_110 (rate : Nat) (A : Option Addr) (cap : Nat) (ts : List TakD) (h lo0 hi0 fl : Int) (b g : Nat) (w w2 : World) (x0 x3 x6 x7 x8 x10 x11 x12 x13 x14 x16 x17 x18 x19 x20 x21 x22 x23 x24 x25 x26 x27 x28 x29 x30 x31 x32 x33 x34 x35 x36 x37 x38 x39 x40 x41 x42 x43 x44 x45 x46 x47 x48 x49 x50 x51 x52 x53 x54 x55 x56 x57 x58 x59 x60 x61 x62 x63 x64 x65 x66 x67 x68 x69 x70 x71 x72 x73 x74 x75 x76 x77 x78 x79 x80 x81 x82 x83 x84 x85 x86 x87 x88 x89 x90 x91 x92 x93 x94 x95 x96 x97 x98 x99 x100 x101 x102 x103 x104 x105 x106 x107 x108 x109 x110 x111 x112 x113 x114 x115 x116 x117 x118 x119 x120 x121 x122 x123 x124 x125 x126 x127 x128 x129 x130 x131 x132 x133 x134 x135 x136 x137 x138 x139 : Value) (hl : Tl (fun _ => True) w (.slice A ts.length cap) ts) (hn : ts.length ≤ 1000) (hM : NowM w b rate (.slice A ts.length cap) w2)
    (hg : Blk w2 g 28 #[.int .i64 lo0, .int .i64 hi0]) (hgb : b + 3 < g) (h1 : lo0 < fl) (h2 : 1125899906842624 < hi0) (h3 : fl ≤ 1125899906842624) :
    Code.wp Try.prog now22 (bodyPost Try.prog Try.f23 (refNowOut rate 0 (fl) (1125899906842624) (ts ++ [⟨h, false, 0, 0, fl⟩]) w)) ⟨#[x0, .int .i64 h, .pointer (some ⟨b, 0, none⟩), x3, .pointer (some ⟨b + 1, 0, none⟩), .pointer (some ⟨b + 2, 0, none⟩), x6, x7, x8, .int .i64 fl, x10, x11, x12, x13, x14, .pointer (some ⟨g, 0, none⟩), x16, x17, x18, x19, x20, x21, x22, x23, x24, x25, x26, x27, x28, x29, x30, x31, x32, x33, x34, x35, x36, x37, x38, x39, x40, x41, x42, x43, x44, x45, x46, x47, x48, x49, x50, x51, x52, x53, x54, x55, x56, x57, x58, x59, x60, x61, x62, x63, x64, x65, x66, x67, x68, x69, x70, x71, x72, x73, x74, x75, x76, x77, x78, x79, x80, x81, x82, x83, x84, x85, x86, x87, x88, x89, x90, x91, x92, x93, x94, x95, x96, x97, x98, x99, x100, x101, x102, x103, x104, x105, x106, x107, x108, x109, x110, x111, x112, x113, x114, x115, x116, x117, x118, x119, x120, x121, x122, x123, x124, x125, x126, x127, x128, x129, x130, x131, x132, x133, x134, x135, x136, x137, x138, x139], []⟩ w2 := by
  conv => arg 2; whnf
  change Code.wp Try.prog (Code.seq _ (Code.seq _ (Code.seq _ now28))) _ _ _
  have g0 := hg.cell 0
  have g1 := hg.cell 1
  have f0 := hg.frozen 0
  have f1 := hg.frozen 1
  simp at g0 g1
  have HG : Hid (Blk _ g 28 #[.int .i64 (fl), .int .i64 (1125899906842624)]) := Lib.hid ((hg.set 0 (.int .i64 fl)).set 1 (.int .i64 1125899906842624))
  have HM := Lib.hid (nowSpan (nowSpan hM hgb 0 (.int .i64 fl)) hgb 1 (.int .i64 1125899906842624))
  clear hg
  go_wp2_with fail
  exact now28_wp rate A cap ts h (fl) (1125899906842624) b g w _ _ _ _ _ _ _ _ _ _ _ _ _ _ _ _ _ _ _ _ _ _ _ _ _ _ _ _ _ _ _ _ _ _ _ _ _ _ _ _ _ _ _ _ _ _ _ _ _ _ _ _ _ _ _ _ _ _ _ _ _ _ _ _ _ _ _ _ _ _ _ _ _ _ _ _ _ _ _ _ _ _ _ _ _ _ _ _ _ _ _ _ _ _ _ _ _ _ _ _ _ _ _ _ _ _ _ _ _ _ _ _ _ _ _ _ _ _ _ _ _ _ _ _ _ _ _ _ _ _ _ _ _ _ _ _ hl hn HM.out HG.out hgb
set_option maxRecDepth 100000 in
theorem now22_111 (rate : Nat) (A : Option Addr) (cap : Nat) (ts : List TakD) (h lo0 hi0 fl : Int) (b g : Nat) (w w2 : World) (x0 x3 x6 x7 x8 x10 x11 x12 x13 x14 x16 x17 x18 x19 x20 x21 x22 x23 x24 x25 x26 x27 x28 x29 x30 x31 x32 x33 x34 x35 x36 x37 x38 x39 x40 x41 x42 x43 x44 x45 x46 x47 x48 x49 x50 x51 x52 x53 x54 x55 x56 x57 x58 x59 x60 x61 x62 x63 x64 x65 x66 x67 x68 x69 x70 x71 x72 x73 x74 x75 x76 x77 x78 x79 x80 x81 x82 x83 x84 x85 x86 x87 x88 x89 x90 x91 x92 x93 x94 x95 x96 x97 x98 x99 x100 x101 x102 x103 x104 x105 x106 x107 x108 x109 x110 x111 x112 x113 x114 x115 x116 x117 x118 x119 x120 x121 x122 x123 x124 x125 x126 x127 x128 x129 x130 x131 x132 x133 x134 x135 x136 x137 x138 x139 : Value) (hl : Tl (fun _ => True) w (.slice A ts.length cap) ts) (hn : ts.length ≤ 1000) (hM : NowM w b rate (.slice A ts.length cap) w2)
    (hg : Blk w2 g 28 #[.int .i64 lo0, .int .i64 hi0]) (hgb : b + 3 < g) (h1 : lo0 < fl) (h2 : 1125899906842624 < hi0) (h3 : 1125899906842624 < fl) :
    Code.wp Try.prog now22 (bodyPost Try.prog Try.f23 (refNowOut rate 0 (fl) (fl) (ts ++ [⟨h, false, 0, 0, fl⟩]) w)) ⟨#[x0, .int .i64 h, .pointer (some ⟨b, 0, none⟩), x3, .pointer (some ⟨b + 1, 0, none⟩), .pointer (some ⟨b + 2, 0, none⟩), x6, x7, x8, .int .i64 fl, x10, x11, x12, x13, x14, .pointer (some ⟨g, 0, none⟩), x16, x17, x18, x19, x20, x21, x22, x23, x24, x25, x26, x27, x28, x29, x30, x31, x32, x33, x34, x35, x36, x37, x38, x39, x40, x41, x42, x43, x44, x45, x46, x47, x48, x49, x50, x51, x52, x53, x54, x55, x56, x57, x58, x59, x60, x61, x62, x63, x64, x65, x66, x67, x68, x69, x70, x71, x72, x73, x74, x75, x76, x77, x78, x79, x80, x81, x82, x83, x84, x85, x86, x87, x88, x89, x90, x91, x92, x93, x94, x95, x96, x97, x98, x99, x100, x101, x102, x103, x104, x105, x106, x107, x108, x109, x110, x111, x112, x113, x114, x115, x116, x117, x118, x119, x120, x121, x122, x123, x124, x125, x126, x127, x128, x129, x130, x131, x132, x133, x134, x135, x136, x137, x138, x139], []⟩ w2 := by
  conv => arg 2; whnf
  change Code.wp Try.prog (Code.seq _ (Code.seq _ (Code.seq _ now28))) _ _ _
  have g0 := hg.cell 0
  have g1 := hg.cell 1
  have f0 := hg.frozen 0
  have f1 := hg.frozen 1
  simp at g0 g1
  have HG : Hid (Blk _ g 28 #[.int .i64 (fl), .int .i64 (fl)]) := Lib.hid (((hg.set 0 (.int .i64 fl)).set 1 (.int .i64 1125899906842624)).set 1 (.int .i64 fl))
  have HM := Lib.hid (nowSpan (nowSpan (nowSpan hM hgb 0 (.int .i64 fl)) hgb 1 (.int .i64 1125899906842624)) hgb 1 (.int .i64 fl))
  clear hg
  go_wp2_with fail
  exact now28_wp rate A cap ts h (fl) (fl) b g w _ _ _ _ _ _ _ _ _ _ _ _ _ _ _ _ _ _ _ _ _ _ _ _ _ _ _ _ _ _ _ _ _ _ _ _ _ _ _ _ _ _ _ _ _ _ _ _ _ _ _ _ _ _ _ _ _ _ _ _ _ _ _ _ _ _ _ _ _ _ _ _ _ _ _ _ _ _ _ _ _ _ _ _ _ _ _ _ _ _ _ _ _ _ _ _ _ _ _ _ _ _ _ _ _ _ _ _ _ _ _ _ _ _ _ _ _ _ _ _ _ _ _ _ _ _ _ _ _ _ _ _ _ _ _ _ hl hn HM.out HG.out hgb
end Go.Proofs.Ytjgbandmjamcaaa

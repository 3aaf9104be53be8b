/- Parts of this proof, one behind the other: RefHS, RefHF. -/
import Derived.Test.YtgihhkfppnhdpaaSp16
import Derived.Deep.DeepCutAuto
import Derived.Deep.QuietTactic
import Derived.Deep.RegionHeld3
import Derived.BigQuiet
import Derived.Outline
namespace Go.Proofs.Ytgihhkfppnhdpaa
open Go.RowKit Go.Afx

theorem stBox' {w : World} {g : Nat} {T : TypeId} {v0 v1 v2 v3 v4 v5 v6 v7 : Value} (h : IsBlk w g T #[v0, v1, v2, v3, v4, v5, v6, v7]) :
    w.cell? ⟨g, 0, none⟩ = some v0 ∧ w.cell? ⟨g, 1, none⟩ = some v1 ∧ w.cell? ⟨g, 2, none⟩ = some v2 ∧ w.cell? ⟨g, 3, none⟩ = some v3 ∧ w.cell? ⟨g, 4, none⟩ = some v4 ∧ w.cell? ⟨g, 5, none⟩ = some v5 ∧ w.cell? ⟨g, 6, none⟩ = some v6 ∧ w.cell? ⟨g, 7, none⟩ = some v7 ∧ g < w.heap.size := by
  have h0 := h.cell 0; have h1 := h.cell 1; have h2 := h.cell 2; have h3 := h.cell 3; have h4 := h.cell 4; have h5 := h.cell 5; have h6 := h.cell 6; have h7 := h.cell 7
  simp at h0 h1 h2 h3 h4 h5 h6 h7
  exact ⟨h0, h1, h2, h3, h4, h5, h6, h7, h.lt⟩
theorem tA_of {op : Int} {name src : ByteArray} {bn bs en es fn fs : Bool} (h1 : hN op = bn) (h2 : hS op = bs) (h3 : noS name = en) (h4 : noS src = es) (h5 : freeB name = fn) (h6 : freeB src = fs) : tA op name src = ((bn != !en) || (bs != !es) || (bn && !fn) || (bs && !fs)) := by
  unfold tA; rw [h1, h2, h3, h4, h5, h6]
theorem str_no {s : ByteArray} (h : noS s = false) : (s.toList == []) = false ∧ (s.toList != []) = true := by
  have := str_some h
  cases hq : s.toList with
  | nil => rw [hq] at this; cases this
  | cons a r => exact ⟨rfl, rfl⟩
theorem str_yes {s : ByteArray} (h : noS s = true) : (s.toList == []) = true ∧ (s.toList != []) = false := by
  have := str_empty h
  rw [this]; exact ⟨rfl, rfl⟩
def WordsA (w2 : World) (b : Bool) (u : Value) (W : World) : Prop := u = .bool b ∧ Below w2.heap.size w2 W

noncomputable def builtRegion (n : Nat) : Code := ((Try.f44.body.bind (findRegion n)).getD .skip)
def SigA (op : Int) (name src f : ByteArray) (w w2 : World) : Prop := ∀ {x0 x2 x3 x5 x6 x7 x8 x9 x10 x11 x12 x13 x14 x15 x16 x17 x18 x19 x20 x21 x22 x23 x24 x25 x26 x27 x28 x29 x30 x31 x32 x33 x34 x35 x36 x37 x38 x39 x40 x41 x42 x43 x44 x45 x46 x47 x48 x49 x50 x51 x52 x53 x54 x55 x56 x57 x58 x59 x60 x61 x62 x63 x64 x65 x66 x67 x68 x69 x70 x71 x72 x73 x74 x75 x76 x77 x78 x79 x80 x81 x82 x83 x84 x85 x86 x87 x88 x89 x90 x91 x92 x93 x94 x95 x96 x97 x98 x99 x100 x101 x102 x103 x104 x105 x106 x107 x108 x109 x110 x111 x112 x113 x114 x115 x116 x117 x118 x119 x120 x121 x122 x123 x124 x125 x126 x127 x128 x129 x130 x131 x132 x133 x134 x135 x136 x137 x138 x139 x140 x141 x142 x143 x144 x145 x146 x147 x148 x149 x150 x151 x152 x153 x154 x155 x156 x157 x158 x159 x160 x161 x162 x163 x164 x165 x166 x167 x168 x169 x170 x171 x172 x173 x174 x175 x176 x177 x178 x179 x180 x181 x182 x183 x184 x185 x186 x187 x188 x189 x190 x191 x192 x193 x194 x195 x196 x197 x198 x199 : Value} {I : Act → World → Prop} {Q0 : Exit → Act → World → Prop},
  (∀ (y24 y25 y26 y27 y28 y29 y30 y31 y32 y33 y34 y35 y36 y37 y38 y39 y40 y41 y42 y43 y44 y45 y46 y47 y48 y49 y50 y51 y52 y53 y54 y55 y56 y57 : Value) (W : World), WordsA w2 (tA op name src) y57 W → I ⟨#[x0, .pointer (some ⟨w.heap.size, 0, none⟩), x2, x3, .string f, x5, x6, x7, x8, x9, x10, x11, x12, x13, x14, x15, x16, x17, x18, x19, x20, x21, x22, x23, y24, y25, y26, y27, y28, y29, y30, y31, y32, y33, y34, y35, y36, y37, y38, y39, y40, y41, y42, y43, y44, y45, y46, y47, y48, y49, y50, y51, y52, y53, y54, y55, y56, y57, x58, x59, x60, x61, x62, x63, x64, x65, x66, x67, x68, x69, x70, x71, x72, x73, x74, x75, x76, x77, x78, x79, x80, x81, x82, x83, x84, x85, x86, x87, x88, x89, x90, x91, x92, x93, x94, x95, x96, x97, x98, x99, x100, x101, x102, x103, x104, x105, x106, x107, x108, x109, x110, x111, x112, x113, x114, x115, x116, x117, x118, x119, x120, x121, x122, x123, x124, x125, x126, x127, x128, x129, x130, x131, x132, x133, x134, x135, x136, x137, x138, x139, x140, x141, x142, x143, x144, x145, x146, x147, x148, x149, x150, x151, x152, x153, x154, x155, x156, x157, x158, x159, x160, x161, x162, x163, x164, x165, x166, x167, x168, x169, x170, x171, x172, x173, x174, x175, x176, x177, x178, x179, x180, x181, x182, x183, x184, x185, x186, x187, x188, x189, x190, x191, x192, x193, x194, x195, x196, x197, x198, x199], []⟩ W) → Code.wp Try.prog (builtRegion 5) (Exit.then I (noPanic Q0)) ⟨#[x0, .pointer (some ⟨w.heap.size, 0, none⟩), x2, x3, .string f, x5, x6, x7, x8, x9, x10, x11, x12, x13, x14, x15, x16, x17, x18, x19, x20, x21, x22, x23, x24, x25, x26, x27, x28, x29, x30, x31, x32, x33, x34, x35, x36, x37, x38, x39, x40, x41, x42, x43, x44, x45, x46, x47, x48, x49, x50, x51, x52, x53, x54, x55, x56, x57, x58, x59, x60, x61, x62, x63, x64, x65, x66, x67, x68, x69, x70, x71, x72, x73, x74, x75, x76, x77, x78, x79, x80, x81, x82, x83, x84, x85, x86, x87, x88, x89, x90, x91, x92, x93, x94, x95, x96, x97, x98, x99, x100, x101, x102, x103, x104, x105, x106, x107, x108, x109, x110, x111, x112, x113, x114, x115, x116, x117, x118, x119, x120, x121, x122, x123, x124, x125, x126, x127, x128, x129, x130, x131, x132, x133, x134, x135, x136, x137, x138, x139, x140, x141, x142, x143, x144, x145, x146, x147, x148, x149, x150, x151, x152, x153, x154, x155, x156, x157, x158, x159, x160, x161, x162, x163, x164, x165, x166, x167, x168, x169, x170, x171, x172, x173, x174, x175, x176, x177, x178, x179, x180, x181, x182, x183, x184, x185, x186, x187, x188, x189, x190, x191, x192, x193, x194, x195, x196, x197, x198, x199], []⟩ w2
def SigB (op n : Int) (f : ByteArray) (nc nb nl : Nat) (w w5 : World) : Prop := ∀ {x0 x2 x3 x5 x6 x7 x8 x9 x10 x11 x12 x13 x14 x15 x16 x17 x18 x19 x20 x21 x22 x23 x24 x25 x26 x27 x28 x29 x30 x31 x32 x33 x34 x35 x36 x37 x38 x39 x40 x41 x42 x43 x44 x45 x46 x47 x48 x49 x50 x51 x52 x53 x54 x55 x56 x57 x58 x59 x60 x61 x62 x63 x64 x65 x66 x67 x68 x69 x70 x71 x72 x73 x74 x75 x76 x77 x78 x79 x80 x81 x82 x83 x84 x85 x86 x87 x88 x89 x90 x91 x92 x93 x94 x95 x96 x97 x98 x99 x100 x101 x102 x103 x104 x105 x106 x107 x108 x109 x110 x111 x112 x113 x114 x115 x116 x117 x118 x119 x120 x121 x122 x123 x124 x125 x126 x127 x128 x129 x130 x131 x132 x133 x134 x135 x136 x137 x138 x139 x140 x141 x142 x143 x144 x145 x146 x147 x148 x149 x150 x151 x152 x153 x154 x155 x156 x157 x158 x159 x160 x161 x162 x163 x164 x165 x166 x167 x168 x169 x170 x171 x172 x173 x174 x175 x176 x177 x178 x179 x180 x181 x182 x183 x184 x185 x186 x187 x188 x189 x190 x191 x192 x193 x194 x195 x196 x197 x198 x199 : Value} {I : Act → World → Prop} {Q0 : Exit → Act → World → Prop},
  (∀ (y58 y59 y60 y61 y62 y63 y64 y65 y66 y67 y68 y69 y70 y71 y72 y73 y74 y75 y76 y77 y78 y79 y80 y81 y82 y83 y84 y85 y86 y87 y88 y89 y90 y91 y92 y93 y94 y95 y96 y97 y98 y99 y100 y101 y102 y103 y104 y105 y106 y107 y108 y109 y110 y111 y112 : Value) (W : World), WordsA w5 (tB op n nc nb nl) y112 W → I ⟨#[x0, .pointer (some ⟨w.heap.size, 0, none⟩), x2, x3, .string f, x5, x6, x7, x8, x9, x10, x11, x12, x13, x14, x15, x16, x17, x18, x19, x20, x21, x22, x23, x24, x25, x26, x27, x28, x29, x30, x31, x32, x33, x34, x35, x36, x37, x38, x39, x40, x41, x42, x43, x44, x45, x46, x47, x48, x49, x50, x51, x52, x53, x54, x55, x56, x57, y58, y59, y60, y61, y62, y63, y64, y65, y66, y67, y68, y69, y70, y71, y72, y73, y74, y75, y76, y77, y78, y79, y80, y81, y82, y83, y84, y85, y86, y87, y88, y89, y90, y91, y92, y93, y94, y95, y96, y97, y98, y99, y100, y101, y102, y103, y104, y105, y106, y107, y108, y109, y110, y111, y112, x113, x114, x115, x116, x117, x118, x119, x120, x121, x122, x123, x124, x125, x126, x127, x128, x129, x130, x131, x132, x133, x134, x135, x136, x137, x138, x139, x140, x141, x142, x143, x144, x145, x146, x147, x148, x149, x150, x151, x152, x153, x154, x155, x156, x157, x158, x159, x160, x161, x162, x163, x164, x165, x166, x167, x168, x169, x170, x171, x172, x173, x174, x175, x176, x177, x178, x179, x180, x181, x182, x183, x184, x185, x186, x187, x188, x189, x190, x191, x192, x193, x194, x195, x196, x197, x198, x199], []⟩ W) → Code.wp Try.prog (builtRegion 7) (Exit.then I (noPanic Q0)) ⟨#[x0, .pointer (some ⟨w.heap.size, 0, none⟩), x2, x3, .string f, x5, x6, x7, x8, x9, x10, x11, x12, x13, x14, x15, x16, x17, x18, x19, x20, x21, x22, x23, x24, x25, x26, x27, x28, x29, x30, x31, x32, x33, x34, x35, x36, x37, x38, x39, x40, x41, x42, x43, x44, x45, x46, x47, x48, x49, x50, x51, x52, x53, x54, x55, x56, x57, x58, x59, x60, x61, x62, x63, x64, x65, x66, x67, x68, x69, x70, x71, x72, x73, x74, x75, x76, x77, x78, x79, x80, x81, x82, x83, x84, x85, x86, x87, x88, x89, x90, x91, x92, x93, x94, x95, x96, x97, x98, x99, x100, x101, x102, x103, x104, x105, x106, x107, x108, x109, x110, x111, x112, x113, x114, x115, x116, x117, x118, x119, x120, x121, x122, x123, x124, x125, x126, x127, x128, x129, x130, x131, x132, x133, x134, x135, x136, x137, x138, x139, x140, x141, x142, x143, x144, x145, x146, x147, x148, x149, x150, x151, x152, x153, x154, x155, x156, x157, x158, x159, x160, x161, x162, x163, x164, x165, x166, x167, x168, x169, x170, x171, x172, x173, x174, x175, x176, x177, x178, x179, x180, x181, x182, x183, x184, x185, x186, x187, x188, x189, x190, x191, x192, x193, x194, x195, x196, x197, x198, x199], []⟩ w5
end Go.Proofs.Ytgihhkfppnhdpaa

namespace Go.Proofs.Ytgihhkfppnhdpaa
open Go.RowKit Go.Afx

set_option maxRecDepth 1000000 in
set_option maxHeartbeats 8000000 in
theorem leafA0 (op n : Int) (name src f : ByteArray) (Ac Ae Ab Al : Option Addr) (nc cc ne ce nb cb nl cl : Nat) (w w2 : World)
    (oknm : okS name) (oksr : okS src) (oknf : okS f) (hx2 : IsBlk w2 w.heap.size 52 #[.int .i64 op, .string name, .string src, .int .i64 n, .slice Ac nc cc, .slice Ae ne ce, .slice Ab nb cb, .slice Al nl cl]) (j1 : inB f 110 = hN op) (j2 : inB f 115 = hS op) (hbn : hN op = false) (hen : noS name = false) :
    SigA op name src f w w2 := by
  unfold SigA
  intros
  rename_i hI
  conv => arg 2; whnf
  obtain ⟨bs, hbs⟩ : ∃ b, hS op = b := ⟨_, rfl⟩
  obtain ⟨es, hes⟩ : ∃ b, noS src = b := ⟨_, rfl⟩
  obtain ⟨fn, hfn⟩ : ∃ b, freeB name = b := ⟨_, rfl⟩
  obtain ⟨fs, hfs⟩ : ∃ b, freeB src = b := ⟨_, rfl⟩
  have HI := Lib.hid hI
  clear hI
  rw [hbn] at j1
  rw [hbs] at j2
  have HN := Lib.hid (fun W => in_at f 110 110 _ oknf rfl j1 W)
  have HS := Lib.hid (fun W => in_at f 115 115 _ oknf rfl j2 W)
  have hF1 := fun W => freeRef_any name W oknm
  have hF2 := fun W => freeRef_any src W oksr
  rw [hfn] at hF1
  rw [hfs] at hF2
  have HFn := Lib.hid hF1
  have HFs := Lib.hid hF2
  have HX := Lib.hid (fun W (hW : Below w2.heap.size w2 W) => hx2.as_was (hW.block _ hx2.lt))
  have HS2 := Lib.hid (fun W (hW : Below w2.heap.size w2 W) => And.intro (stBox' (HX.out W hW)).2.1 (stBox' (HX.out W hW)).2.2.1)
  clear j1 j2 oknf hF1 hF2 hx2
  have fname := str_some hen
  obtain ⟨gname, kname⟩ := str_no hen
  have HR := Lib.hid (tA_of (name := name) (src := src) (op := op) hbn hbs hen hes hfn hfs)
  clear hbn hbs hen hes hfn hfs
  refine wp_region_held (S := fun W => W.cell? ⟨w.heap.size, 1, none⟩ = some (.string name) ∧ W.cell? ⟨w.heap.size, 2, none⟩ = some (.string src)) (by kernel_rfl) ?_
  change wpAnyH _ _ _ _ _ _ _ _ (World.drew _)
  have HSS := HS2.out _ (Below.refl w2.heap.size w2).drew
  refine tk 0 (.string f) rfl HSS ?_
  go_simp
  refine tk 2 (.pointer (some ⟨w.heap.size, 1, none⟩)) rfl HSS ?_
  go_simp
  refine tk 3 (.string name) rfl HSS ?_
  go_simp
  refine tk 4 (.bool true) rfl HSS ?_
  go_simp
  refine wpAnyH_ready (rs := [1]) (by kernel_rfl) (by simp) ?_
  refine AllReadyH.cons rfl (fun K hK => ?_) AllReadyH.nil
  go_simp
  refine (HN.out _).mono ?_
  rintro e w' ⟨rfl, rfl⟩
  go_simp
  refine hK.out _ _ HSS (fun _ => ?_); clear hK K
  refine tk 5 (.bool true) rfl HSS ?_
  go_simp
  refine tk 6 (.bool true) rfl HSS ?_
  go_simp
  refine tu 7 rfl HSS ?_
  go_simp
  refine tu 8 rfl HSS ?_
  go_simp
  refine tu 9 rfl HSS ?_
  go_simp
  refine tu 10 rfl HSS ?_
  go_simp
  refine tu 11 rfl HSS ?_
  go_simp
  refine tu 12 rfl HSS ?_
  go_simp
  refine tk 13 (.bool true) rfl HSS ?_
  go_simp
  refine tk 14 (.bool true) rfl HSS ?_
  go_simp
  refine tu 15 rfl HSS ?_
  go_simp
  refine tu 16 rfl HSS ?_
  go_simp
  refine tu 17 rfl HSS ?_
  go_simp
  refine tu 18 rfl HSS ?_
  go_simp
  refine tu 19 rfl HSS ?_
  go_simp
  refine tu 20 rfl HSS ?_
  go_simp
  refine tu 21 rfl HSS ?_
  go_simp
  refine tu 22 rfl HSS ?_
  go_simp
  refine tk 23 (.bool true) rfl HSS ?_
  go_simp
  refine tk 24 (.bool true) rfl HSS ?_
  go_simp
  refine tu 25 rfl HSS ?_
  go_simp
  refine tu 26 rfl HSS ?_
  go_simp
  refine tu 27 rfl HSS ?_
  go_simp
  refine tu 28 rfl HSS ?_
  go_simp
  refine tu 29 rfl HSS ?_
  go_simp
  refine tu 30 rfl HSS ?_
  go_simp
  refine tu 31 rfl HSS ?_
  go_simp
  refine tu 32 rfl HSS ?_
  go_simp
  refine tk 33 (.bool true) rfl HSS ?_
  go_simp
  refine wpAnyH_done (by kernel_rfl) ?_ _
  exact HI.out _ _ _ _ _ _ _ _ _ _ _ _ _ _ _ _ _ _ _ _ _ _ _ _ _ _ _ _ _ _ _ _ _ _ _ ⟨by rw [HR.out]; rfl, (Below.refl w2.heap.size w2).drew⟩

set_option maxRecDepth 1000000 in
set_option maxHeartbeats 8000000 in
theorem leafA1 (op n : Int) (name src f : ByteArray) (Ac Ae Ab Al : Option Addr) (nc cc ne ce nb cb nl cl : Nat) (w w2 : World)
    (oknm : okS name) (oksr : okS src) (oknf : okS f) (hx2 : IsBlk w2 w.heap.size 52 #[.int .i64 op, .string name, .string src, .int .i64 n, .slice Ac nc cc, .slice Ae ne ce, .slice Ab nb cb, .slice Al nl cl]) (j1 : inB f 110 = hN op) (j2 : inB f 115 = hS op) (hbn : hN op = false) (hbs : hS op = false) (hen : noS name = true) (hes : noS src = false) :
    SigA op name src f w w2 := by
  unfold SigA
  intros
  rename_i hI
  conv => arg 2; whnf
  obtain ⟨fn, hfn⟩ : ∃ b, freeB name = b := ⟨_, rfl⟩
  obtain ⟨fs, hfs⟩ : ∃ b, freeB src = b := ⟨_, rfl⟩
  have HI := Lib.hid hI
  clear hI
  rw [hbn] at j1
  rw [hbs] at j2
  have HN := Lib.hid (fun W => in_at f 110 110 _ oknf rfl j1 W)
  have HS := Lib.hid (fun W => in_at f 115 115 _ oknf rfl j2 W)
  have hF1 := fun W => freeRef_any name W oknm
  have hF2 := fun W => freeRef_any src W oksr
  rw [hfn] at hF1
  rw [hfs] at hF2
  have HFn := Lib.hid hF1
  have HFs := Lib.hid hF2
  have HX := Lib.hid (fun W (hW : Below w2.heap.size w2 W) => hx2.as_was (hW.block _ hx2.lt))
  have HS2 := Lib.hid (fun W (hW : Below w2.heap.size w2 W) => And.intro (stBox' (HX.out W hW)).2.1 (stBox' (HX.out W hW)).2.2.1)
  clear j1 j2 oknf hF1 hF2 hx2
  have fname := str_empty hen
  obtain ⟨gname, kname⟩ := str_yes hen
  have fsrc := str_some hes
  obtain ⟨gsrc, ksrc⟩ := str_no hes
  have HR := Lib.hid (tA_of (name := name) (src := src) (op := op) hbn hbs hen hes hfn hfs)
  clear hbn hbs hen hes hfn hfs
  refine wp_region_held (S := fun W => W.cell? ⟨w.heap.size, 1, none⟩ = some (.string name) ∧ W.cell? ⟨w.heap.size, 2, none⟩ = some (.string src)) (by kernel_rfl) ?_
  change wpAnyH _ _ _ _ _ _ _ _ (World.drew _)
  have HSS := HS2.out _ (Below.refl w2.heap.size w2).drew
  refine tk 0 (.string f) rfl HSS ?_
  go_simp
  refine tk 2 (.pointer (some ⟨w.heap.size, 1, none⟩)) rfl HSS ?_
  go_simp
  refine tk 3 (.string name) rfl HSS ?_
  go_simp
  refine tk 4 (.bool false) rfl HSS ?_
  go_simp
  refine wpAnyH_ready (rs := [1]) (by kernel_rfl) (by simp) ?_
  refine AllReadyH.cons rfl (fun K hK => ?_) AllReadyH.nil
  go_simp
  refine (HN.out _).mono ?_
  rintro e w' ⟨rfl, rfl⟩
  go_simp
  refine hK.out _ _ HSS (fun _ => ?_); clear hK K
  refine tk 5 (.bool false) rfl HSS ?_
  go_simp
  refine tk 6 (.bool false) rfl HSS ?_
  go_simp
  refine tk 7 (.string f) rfl HSS ?_
  go_simp
  refine tk 9 (.pointer (some ⟨w.heap.size, 2, none⟩)) rfl HSS ?_
  go_simp
  refine tk 10 (.string src) rfl HSS ?_
  go_simp
  refine tk 11 (.bool true) rfl HSS ?_
  go_simp
  refine wpAnyH_ready (rs := [8]) (by kernel_rfl) (by simp) ?_
  refine AllReadyH.cons rfl (fun K hK => ?_) AllReadyH.nil
  go_simp
  refine (HS.out _).mono ?_
  rintro e w' ⟨rfl, rfl⟩
  go_simp
  refine hK.out _ _ HSS (fun _ => ?_); clear hK K
  refine tk 12 (.bool true) rfl HSS ?_
  go_simp
  refine tk 13 (.bool true) rfl HSS ?_
  go_simp
  refine tk 14 (.bool true) rfl HSS ?_
  go_simp
  refine tu 15 rfl HSS ?_
  go_simp
  refine tu 16 rfl HSS ?_
  go_simp
  refine tu 17 rfl HSS ?_
  go_simp
  refine tu 18 rfl HSS ?_
  go_simp
  refine tu 19 rfl HSS ?_
  go_simp
  refine tu 20 rfl HSS ?_
  go_simp
  refine tu 21 rfl HSS ?_
  go_simp
  refine tu 22 rfl HSS ?_
  go_simp
  refine tk 23 (.bool true) rfl HSS ?_
  go_simp
  refine tk 24 (.bool true) rfl HSS ?_
  go_simp
  refine tu 25 rfl HSS ?_
  go_simp
  refine tu 26 rfl HSS ?_
  go_simp
  refine tu 27 rfl HSS ?_
  go_simp
  refine tu 28 rfl HSS ?_
  go_simp
  refine tu 29 rfl HSS ?_
  go_simp
  refine tu 30 rfl HSS ?_
  go_simp
  refine tu 31 rfl HSS ?_
  go_simp
  refine tu 32 rfl HSS ?_
  go_simp
  refine tk 33 (.bool true) rfl HSS ?_
  go_simp
  refine wpAnyH_done (by kernel_rfl) ?_ _
  exact HI.out _ _ _ _ _ _ _ _ _ _ _ _ _ _ _ _ _ _ _ _ _ _ _ _ _ _ _ _ _ _ _ _ _ _ _ ⟨by rw [HR.out]; rfl, (Below.refl w2.heap.size w2).drew⟩

set_option maxRecDepth 1000000 in
set_option maxHeartbeats 8000000 in
theorem leafA2 (op n : Int) (name src f : ByteArray) (Ac Ae Ab Al : Option Addr) (nc cc ne ce nb cb nl cl : Nat) (w w2 : World)
    (oknm : okS name) (oksr : okS src) (oknf : okS f) (hx2 : IsBlk w2 w.heap.size 52 #[.int .i64 op, .string name, .string src, .int .i64 n, .slice Ac nc cc, .slice Ae ne ce, .slice Ab nb cb, .slice Al nl cl]) (j1 : inB f 110 = hN op) (j2 : inB f 115 = hS op) (hbn : hN op = false) (hbs : hS op = false) (hen : noS name = true) (hes : noS src = true) :
    SigA op name src f w w2 := by
  unfold SigA
  intros
  rename_i hI
  conv => arg 2; whnf
  obtain ⟨fn, hfn⟩ : ∃ b, freeB name = b := ⟨_, rfl⟩
  obtain ⟨fs, hfs⟩ : ∃ b, freeB src = b := ⟨_, rfl⟩
  have HI := Lib.hid hI
  clear hI
  rw [hbn] at j1
  rw [hbs] at j2
  have HN := Lib.hid (fun W => in_at f 110 110 _ oknf rfl j1 W)
  have HS := Lib.hid (fun W => in_at f 115 115 _ oknf rfl j2 W)
  have hF1 := fun W => freeRef_any name W oknm
  have hF2 := fun W => freeRef_any src W oksr
  rw [hfn] at hF1
  rw [hfs] at hF2
  have HFn := Lib.hid hF1
  have HFs := Lib.hid hF2
  have HX := Lib.hid (fun W (hW : Below w2.heap.size w2 W) => hx2.as_was (hW.block _ hx2.lt))
  have HS2 := Lib.hid (fun W (hW : Below w2.heap.size w2 W) => And.intro (stBox' (HX.out W hW)).2.1 (stBox' (HX.out W hW)).2.2.1)
  clear j1 j2 oknf hF1 hF2 hx2
  have fname := str_empty hen
  obtain ⟨gname, kname⟩ := str_yes hen
  have fsrc := str_empty hes
  obtain ⟨gsrc, ksrc⟩ := str_yes hes
  have HR := Lib.hid (tA_of (name := name) (src := src) (op := op) hbn hbs hen hes hfn hfs)
  clear hbn hbs hen hes hfn hfs
  refine wp_region_held (S := fun W => W.cell? ⟨w.heap.size, 1, none⟩ = some (.string name) ∧ W.cell? ⟨w.heap.size, 2, none⟩ = some (.string src)) (by kernel_rfl) ?_
  change wpAnyH _ _ _ _ _ _ _ _ (World.drew _)
  have HSS := HS2.out _ (Below.refl w2.heap.size w2).drew
  refine tk 0 (.string f) rfl HSS ?_
  go_simp
  refine tk 2 (.pointer (some ⟨w.heap.size, 1, none⟩)) rfl HSS ?_
  go_simp
  refine tk 3 (.string name) rfl HSS ?_
  go_simp
  refine tk 4 (.bool false) rfl HSS ?_
  go_simp
  refine wpAnyH_ready (rs := [1]) (by kernel_rfl) (by simp) ?_
  refine AllReadyH.cons rfl (fun K hK => ?_) AllReadyH.nil
  go_simp
  refine (HN.out _).mono ?_
  rintro e w' ⟨rfl, rfl⟩
  go_simp
  refine hK.out _ _ HSS (fun _ => ?_); clear hK K
  refine tk 5 (.bool false) rfl HSS ?_
  go_simp
  refine tk 6 (.bool false) rfl HSS ?_
  go_simp
  refine tk 7 (.string f) rfl HSS ?_
  go_simp
  refine tk 9 (.pointer (some ⟨w.heap.size, 2, none⟩)) rfl HSS ?_
  go_simp
  refine tk 10 (.string src) rfl HSS ?_
  go_simp
  refine tk 11 (.bool false) rfl HSS ?_
  go_simp
  refine wpAnyH_ready (rs := [8]) (by kernel_rfl) (by simp) ?_
  refine AllReadyH.cons rfl (fun K hK => ?_) AllReadyH.nil
  go_simp
  refine (HS.out _).mono ?_
  rintro e w' ⟨rfl, rfl⟩
  go_simp
  refine hK.out _ _ HSS (fun _ => ?_); clear hK K
  refine tk 12 (.bool false) rfl HSS ?_
  go_simp
  refine tk 13 (.bool false) rfl HSS ?_
  go_simp
  refine tk 14 (.bool false) rfl HSS ?_
  go_simp
  refine tk 15 (.string f) rfl HSS ?_
  go_simp
  refine wpAnyH_ready (rs := [16]) (by kernel_rfl) (by simp) ?_
  refine AllReadyH.cons rfl (fun K hK => ?_) AllReadyH.nil
  go_simp
  refine (HN.out _).mono ?_
  rintro e w' ⟨rfl, rfl⟩
  go_simp
  refine hK.out _ _ HSS (fun _ => ?_); clear hK K
  refine tk 17 (.bool false) rfl HSS ?_
  go_simp
  refine tu 18 rfl HSS ?_
  go_simp
  refine tu 19 rfl HSS ?_
  go_simp
  refine tu 20 rfl HSS ?_
  go_simp
  refine tu 21 rfl HSS ?_
  go_simp
  refine tk 22 (.bool false) rfl HSS ?_
  go_simp
  refine tk 23 (.bool false) rfl HSS ?_
  go_simp
  refine tk 24 (.bool false) rfl HSS ?_
  go_simp
  refine tk 25 (.string f) rfl HSS ?_
  go_simp
  refine wpAnyH_ready (rs := [26]) (by kernel_rfl) (by simp) ?_
  refine AllReadyH.cons rfl (fun K hK => ?_) AllReadyH.nil
  go_simp
  refine (HS.out _).mono ?_
  rintro e w' ⟨rfl, rfl⟩
  go_simp
  refine hK.out _ _ HSS (fun _ => ?_); clear hK K
  refine tk 27 (.bool false) rfl HSS ?_
  go_simp
  refine tu 28 rfl HSS ?_
  go_simp
  refine tu 29 rfl HSS ?_
  go_simp
  refine tu 30 rfl HSS ?_
  go_simp
  refine tu 31 rfl HSS ?_
  go_simp
  refine tk 32 (.bool false) rfl HSS ?_
  go_simp
  refine tk 33 (.bool false) rfl HSS ?_
  go_simp
  refine wpAnyH_done (by kernel_rfl) ?_ _
  exact HI.out _ _ _ _ _ _ _ _ _ _ _ _ _ _ _ _ _ _ _ _ _ _ _ _ _ _ _ _ _ _ _ _ _ _ _ ⟨by rw [HR.out]; rfl, (Below.refl w2.heap.size w2).drew⟩

set_option maxRecDepth 1000000 in
set_option maxHeartbeats 8000000 in
theorem leafA3 (op n : Int) (name src f : ByteArray) (Ac Ae Ab Al : Option Addr) (nc cc ne ce nb cb nl cl : Nat) (w w2 : World)
    (oknm : okS name) (oksr : okS src) (oknf : okS f) (hx2 : IsBlk w2 w.heap.size 52 #[.int .i64 op, .string name, .string src, .int .i64 n, .slice Ac nc cc, .slice Ae ne ce, .slice Ab nb cb, .slice Al nl cl]) (j1 : inB f 110 = hN op) (j2 : inB f 115 = hS op) (hbn : hN op = false) (hbs : hS op = true) (hen : noS name = true) (hes : noS src = false) (hfs : freeB src = false) :
    SigA op name src f w w2 := by
  unfold SigA
  intros
  rename_i hI
  conv => arg 2; whnf
  obtain ⟨fn, hfn⟩ : ∃ b, freeB name = b := ⟨_, rfl⟩
  have HI := Lib.hid hI
  clear hI
  rw [hbn] at j1
  rw [hbs] at j2
  have HN := Lib.hid (fun W => in_at f 110 110 _ oknf rfl j1 W)
  have HS := Lib.hid (fun W => in_at f 115 115 _ oknf rfl j2 W)
  have hF1 := fun W => freeRef_any name W oknm
  have hF2 := fun W => freeRef_any src W oksr
  rw [hfn] at hF1
  rw [hfs] at hF2
  have HFn := Lib.hid hF1
  have HFs := Lib.hid hF2
  have HX := Lib.hid (fun W (hW : Below w2.heap.size w2 W) => hx2.as_was (hW.block _ hx2.lt))
  have HS2 := Lib.hid (fun W (hW : Below w2.heap.size w2 W) => And.intro (stBox' (HX.out W hW)).2.1 (stBox' (HX.out W hW)).2.2.1)
  clear j1 j2 oknf hF1 hF2 hx2
  have fname := str_empty hen
  obtain ⟨gname, kname⟩ := str_yes hen
  have fsrc := str_some hes
  obtain ⟨gsrc, ksrc⟩ := str_no hes
  have HR := Lib.hid (tA_of (name := name) (src := src) (op := op) hbn hbs hen hes hfn hfs)
  clear hbn hbs hen hes hfn hfs
  refine wp_region_held (S := fun W => W.cell? ⟨w.heap.size, 1, none⟩ = some (.string name) ∧ W.cell? ⟨w.heap.size, 2, none⟩ = some (.string src)) (by kernel_rfl) ?_
  change wpAnyH _ _ _ _ _ _ _ _ (World.drew _)
  have HSS := HS2.out _ (Below.refl w2.heap.size w2).drew
  refine tk 0 (.string f) rfl HSS ?_
  go_simp
  refine tk 2 (.pointer (some ⟨w.heap.size, 1, none⟩)) rfl HSS ?_
  go_simp
  refine tk 3 (.string name) rfl HSS ?_
  go_simp
  refine tk 4 (.bool false) rfl HSS ?_
  go_simp
  refine wpAnyH_ready (rs := [1]) (by kernel_rfl) (by simp) ?_
  refine AllReadyH.cons rfl (fun K hK => ?_) AllReadyH.nil
  go_simp
  refine (HN.out _).mono ?_
  rintro e w' ⟨rfl, rfl⟩
  go_simp
  refine hK.out _ _ HSS (fun _ => ?_); clear hK K
  refine tk 5 (.bool false) rfl HSS ?_
  go_simp
  refine tk 6 (.bool false) rfl HSS ?_
  go_simp
  refine tk 7 (.string f) rfl HSS ?_
  go_simp
  refine tk 9 (.pointer (some ⟨w.heap.size, 2, none⟩)) rfl HSS ?_
  go_simp
  refine tk 10 (.string src) rfl HSS ?_
  go_simp
  refine tk 11 (.bool true) rfl HSS ?_
  go_simp
  refine wpAnyH_ready (rs := [8]) (by kernel_rfl) (by simp) ?_
  refine AllReadyH.cons rfl (fun K hK => ?_) AllReadyH.nil
  go_simp
  refine (HS.out _).mono ?_
  rintro e w' ⟨rfl, rfl⟩
  go_simp
  refine hK.out _ _ HSS (fun _ => ?_); clear hK K
  refine tk 12 (.bool false) rfl HSS ?_
  go_simp
  refine tk 13 (.bool false) rfl HSS ?_
  go_simp
  refine tk 14 (.bool false) rfl HSS ?_
  go_simp
  refine tk 15 (.string f) rfl HSS ?_
  go_simp
  refine wpAnyH_ready (rs := [16]) (by kernel_rfl) (by simp) ?_
  refine AllReadyH.cons rfl (fun K hK => ?_) AllReadyH.nil
  go_simp
  refine (HN.out _).mono ?_
  rintro e w' ⟨rfl, rfl⟩
  go_simp
  refine hK.out _ _ HSS (fun _ => ?_); clear hK K
  refine tk 17 (.bool false) rfl HSS ?_
  go_simp
  refine tu 18 rfl HSS ?_
  go_simp
  refine tu 19 rfl HSS ?_
  go_simp
  refine tu 20 rfl HSS ?_
  go_simp
  refine tu 21 rfl HSS ?_
  go_simp
  refine tk 22 (.bool false) rfl HSS ?_
  go_simp
  refine tk 23 (.bool false) rfl HSS ?_
  go_simp
  refine tk 24 (.bool false) rfl HSS ?_
  go_simp
  refine tk 25 (.string f) rfl HSS ?_
  go_simp
  refine wpAnyH_ready (rs := [26]) (by kernel_rfl) (by simp) ?_
  refine AllReadyH.cons rfl (fun K hK => ?_) AllReadyH.nil
  go_simp
  refine (HS.out _).mono ?_
  rintro e w' ⟨rfl, rfl⟩
  go_simp
  refine hK.out _ _ HSS (fun _ => ?_); clear hK K
  refine tk 27 (.bool true) rfl HSS ?_
  go_simp
  refine tk 28 (.pointer (some ⟨w.heap.size, 2, none⟩)) rfl HSS ?_
  go_simp
  refine tk 29 (.string src) rfl HSS ?_
  go_simp
  refine wpAnyH_ready (rs := [30]) (by kernel_rfl) (by simp) ?_
  refine AllReadyH.cons rfl (fun K hK => ?_) AllReadyH.nil
  go_simp
  refine (HFs.out _).mono ?_
  rintro e v1 ⟨rfl, hb1⟩
  have hB1 : Below w2.heap.size w2 v1 := ((Below.refl w2.heap.size w2).drew).trans (hb1.mono ((Below.refl w2.heap.size w2).drew).size)
  have HSS := HS2.out v1 hB1
  go_simp
  refine hK.out _ _ HSS (fun _ => ?_); clear hK K
  refine tk 31 (.bool true) rfl HSS ?_
  go_simp
  refine tk 32 (.bool true) rfl HSS ?_
  go_simp
  refine tk 33 (.bool true) rfl HSS ?_
  go_simp
  refine wpAnyH_done (by kernel_rfl) ?_ _
  exact HI.out _ _ _ _ _ _ _ _ _ _ _ _ _ _ _ _ _ _ _ _ _ _ _ _ _ _ _ _ _ _ _ _ _ _ _ ⟨by rw [HR.out]; rfl, hB1⟩

set_option maxRecDepth 1000000 in
set_option maxHeartbeats 8000000 in
theorem leafA4 (op n : Int) (name src f : ByteArray) (Ac Ae Ab Al : Option Addr) (nc cc ne ce nb cb nl cl : Nat) (w w2 : World)
    (oknm : okS name) (oksr : okS src) (oknf : okS f) (hx2 : IsBlk w2 w.heap.size 52 #[.int .i64 op, .string name, .string src, .int .i64 n, .slice Ac nc cc, .slice Ae ne ce, .slice Ab nb cb, .slice Al nl cl]) (j1 : inB f 110 = hN op) (j2 : inB f 115 = hS op) (hbn : hN op = false) (hbs : hS op = true) (hen : noS name = true) (hes : noS src = false) (hfs : freeB src = true) :
    SigA op name src f w w2 := by
  unfold SigA
  intros
  rename_i hI
  conv => arg 2; whnf
  obtain ⟨fn, hfn⟩ : ∃ b, freeB name = b := ⟨_, rfl⟩
  have HI := Lib.hid hI
  clear hI
  rw [hbn] at j1
  rw [hbs] at j2
  have HN := Lib.hid (fun W => in_at f 110 110 _ oknf rfl j1 W)
  have HS := Lib.hid (fun W => in_at f 115 115 _ oknf rfl j2 W)
  have hF1 := fun W => freeRef_any name W oknm
  have hF2 := fun W => freeRef_any src W oksr
  rw [hfn] at hF1
  rw [hfs] at hF2
  have HFn := Lib.hid hF1
  have HFs := Lib.hid hF2
  have HX := Lib.hid (fun W (hW : Below w2.heap.size w2 W) => hx2.as_was (hW.block _ hx2.lt))
  have HS2 := Lib.hid (fun W (hW : Below w2.heap.size w2 W) => And.intro (stBox' (HX.out W hW)).2.1 (stBox' (HX.out W hW)).2.2.1)
  clear j1 j2 oknf hF1 hF2 hx2
  have fname := str_empty hen
  obtain ⟨gname, kname⟩ := str_yes hen
  have fsrc := str_some hes
  obtain ⟨gsrc, ksrc⟩ := str_no hes
  have HR := Lib.hid (tA_of (name := name) (src := src) (op := op) hbn hbs hen hes hfn hfs)
  clear hbn hbs hen hes hfn hfs
  refine wp_region_held (S := fun W => W.cell? ⟨w.heap.size, 1, none⟩ = some (.string name) ∧ W.cell? ⟨w.heap.size, 2, none⟩ = some (.string src)) (by kernel_rfl) ?_
  change wpAnyH _ _ _ _ _ _ _ _ (World.drew _)
  have HSS := HS2.out _ (Below.refl w2.heap.size w2).drew
  refine tk 0 (.string f) rfl HSS ?_
  go_simp
  refine tk 2 (.pointer (some ⟨w.heap.size, 1, none⟩)) rfl HSS ?_
  go_simp
  refine tk 3 (.string name) rfl HSS ?_
  go_simp
  refine tk 4 (.bool false) rfl HSS ?_
  go_simp
  refine wpAnyH_ready (rs := [1]) (by kernel_rfl) (by simp) ?_
  refine AllReadyH.cons rfl (fun K hK => ?_) AllReadyH.nil
  go_simp
  refine (HN.out _).mono ?_
  rintro e w' ⟨rfl, rfl⟩
  go_simp
  refine hK.out _ _ HSS (fun _ => ?_); clear hK K
  refine tk 5 (.bool false) rfl HSS ?_
  go_simp
  refine tk 6 (.bool false) rfl HSS ?_
  go_simp
  refine tk 7 (.string f) rfl HSS ?_
  go_simp
  refine tk 9 (.pointer (some ⟨w.heap.size, 2, none⟩)) rfl HSS ?_
  go_simp
  refine tk 10 (.string src) rfl HSS ?_
  go_simp
  refine tk 11 (.bool true) rfl HSS ?_
  go_simp
  refine wpAnyH_ready (rs := [8]) (by kernel_rfl) (by simp) ?_
  refine AllReadyH.cons rfl (fun K hK => ?_) AllReadyH.nil
  go_simp
  refine (HS.out _).mono ?_
  rintro e w' ⟨rfl, rfl⟩
  go_simp
  refine hK.out _ _ HSS (fun _ => ?_); clear hK K
  refine tk 12 (.bool false) rfl HSS ?_
  go_simp
  refine tk 13 (.bool false) rfl HSS ?_
  go_simp
  refine tk 14 (.bool false) rfl HSS ?_
  go_simp
  refine tk 15 (.string f) rfl HSS ?_
  go_simp
  refine wpAnyH_ready (rs := [16]) (by kernel_rfl) (by simp) ?_
  refine AllReadyH.cons rfl (fun K hK => ?_) AllReadyH.nil
  go_simp
  refine (HN.out _).mono ?_
  rintro e w' ⟨rfl, rfl⟩
  go_simp
  refine hK.out _ _ HSS (fun _ => ?_); clear hK K
  refine tk 17 (.bool false) rfl HSS ?_
  go_simp
  refine tu 18 rfl HSS ?_
  go_simp
  refine tu 19 rfl HSS ?_
  go_simp
  refine tu 20 rfl HSS ?_
  go_simp
  refine tu 21 rfl HSS ?_
  go_simp
  refine tk 22 (.bool false) rfl HSS ?_
  go_simp
  refine tk 23 (.bool false) rfl HSS ?_
  go_simp
  refine tk 24 (.bool false) rfl HSS ?_
  go_simp
  refine tk 25 (.string f) rfl HSS ?_
  go_simp
  refine wpAnyH_ready (rs := [26]) (by kernel_rfl) (by simp) ?_
  refine AllReadyH.cons rfl (fun K hK => ?_) AllReadyH.nil
  go_simp
  refine (HS.out _).mono ?_
  rintro e w' ⟨rfl, rfl⟩
  go_simp
  refine hK.out _ _ HSS (fun _ => ?_); clear hK K
  refine tk 27 (.bool true) rfl HSS ?_
  go_simp
  refine tk 28 (.pointer (some ⟨w.heap.size, 2, none⟩)) rfl HSS ?_
  go_simp
  refine tk 29 (.string src) rfl HSS ?_
  go_simp
  refine wpAnyH_ready (rs := [30]) (by kernel_rfl) (by simp) ?_
  refine AllReadyH.cons rfl (fun K hK => ?_) AllReadyH.nil
  go_simp
  refine (HFs.out _).mono ?_
  rintro e v1 ⟨rfl, hb1⟩
  have hB1 : Below w2.heap.size w2 v1 := ((Below.refl w2.heap.size w2).drew).trans (hb1.mono ((Below.refl w2.heap.size w2).drew).size)
  have HSS := HS2.out v1 hB1
  go_simp
  refine hK.out _ _ HSS (fun _ => ?_); clear hK K
  refine tk 31 (.bool false) rfl HSS ?_
  go_simp
  refine tk 32 (.bool false) rfl HSS ?_
  go_simp
  refine tk 33 (.bool false) rfl HSS ?_
  go_simp
  refine wpAnyH_done (by kernel_rfl) ?_ _
  exact HI.out _ _ _ _ _ _ _ _ _ _ _ _ _ _ _ _ _ _ _ _ _ _ _ _ _ _ _ _ _ _ _ _ _ _ _ ⟨by rw [HR.out]; rfl, hB1⟩

set_option maxRecDepth 1000000 in
set_option maxHeartbeats 8000000 in
theorem leafA5 (op n : Int) (name src f : ByteArray) (Ac Ae Ab Al : Option Addr) (nc cc ne ce nb cb nl cl : Nat) (w w2 : World)
    (oknm : okS name) (oksr : okS src) (oknf : okS f) (hx2 : IsBlk w2 w.heap.size 52 #[.int .i64 op, .string name, .string src, .int .i64 n, .slice Ac nc cc, .slice Ae ne ce, .slice Ab nb cb, .slice Al nl cl]) (j1 : inB f 110 = hN op) (j2 : inB f 115 = hS op) (hbn : hN op = false) (hbs : hS op = true) (hen : noS name = true) (hes : noS src = true) :
    SigA op name src f w w2 := by
  unfold SigA
  intros
  rename_i hI
  conv => arg 2; whnf
  obtain ⟨fn, hfn⟩ : ∃ b, freeB name = b := ⟨_, rfl⟩
  obtain ⟨fs, hfs⟩ : ∃ b, freeB src = b := ⟨_, rfl⟩
  have HI := Lib.hid hI
  clear hI
  rw [hbn] at j1
  rw [hbs] at j2
  have HN := Lib.hid (fun W => in_at f 110 110 _ oknf rfl j1 W)
  have HS := Lib.hid (fun W => in_at f 115 115 _ oknf rfl j2 W)
  have hF1 := fun W => freeRef_any name W oknm
  have hF2 := fun W => freeRef_any src W oksr
  rw [hfn] at hF1
  rw [hfs] at hF2
  have HFn := Lib.hid hF1
  have HFs := Lib.hid hF2
  have HX := Lib.hid (fun W (hW : Below w2.heap.size w2 W) => hx2.as_was (hW.block _ hx2.lt))
  have HS2 := Lib.hid (fun W (hW : Below w2.heap.size w2 W) => And.intro (stBox' (HX.out W hW)).2.1 (stBox' (HX.out W hW)).2.2.1)
  clear j1 j2 oknf hF1 hF2 hx2
  have fname := str_empty hen
  obtain ⟨gname, kname⟩ := str_yes hen
  have fsrc := str_empty hes
  obtain ⟨gsrc, ksrc⟩ := str_yes hes
  have HR := Lib.hid (tA_of (name := name) (src := src) (op := op) hbn hbs hen hes hfn hfs)
  clear hbn hbs hen hes hfn hfs
  refine wp_region_held (S := fun W => W.cell? ⟨w.heap.size, 1, none⟩ = some (.string name) ∧ W.cell? ⟨w.heap.size, 2, none⟩ = some (.string src)) (by kernel_rfl) ?_
  change wpAnyH _ _ _ _ _ _ _ _ (World.drew _)
  have HSS := HS2.out _ (Below.refl w2.heap.size w2).drew
  refine tk 0 (.string f) rfl HSS ?_
  go_simp
  refine tk 2 (.pointer (some ⟨w.heap.size, 1, none⟩)) rfl HSS ?_
  go_simp
  refine tk 3 (.string name) rfl HSS ?_
  go_simp
  refine tk 4 (.bool false) rfl HSS ?_
  go_simp
  refine wpAnyH_ready (rs := [1]) (by kernel_rfl) (by simp) ?_
  refine AllReadyH.cons rfl (fun K hK => ?_) AllReadyH.nil
  go_simp
  refine (HN.out _).mono ?_
  rintro e w' ⟨rfl, rfl⟩
  go_simp
  refine hK.out _ _ HSS (fun _ => ?_); clear hK K
  refine tk 5 (.bool false) rfl HSS ?_
  go_simp
  refine tk 6 (.bool false) rfl HSS ?_
  go_simp
  refine tk 7 (.string f) rfl HSS ?_
  go_simp
  refine tk 9 (.pointer (some ⟨w.heap.size, 2, none⟩)) rfl HSS ?_
  go_simp
  refine tk 10 (.string src) rfl HSS ?_
  go_simp
  refine tk 11 (.bool false) rfl HSS ?_
  go_simp
  refine wpAnyH_ready (rs := [8]) (by kernel_rfl) (by simp) ?_
  refine AllReadyH.cons rfl (fun K hK => ?_) AllReadyH.nil
  go_simp
  refine (HS.out _).mono ?_
  rintro e w' ⟨rfl, rfl⟩
  go_simp
  refine hK.out _ _ HSS (fun _ => ?_); clear hK K
  refine tk 12 (.bool true) rfl HSS ?_
  go_simp
  refine tk 13 (.bool true) rfl HSS ?_
  go_simp
  refine tk 14 (.bool true) rfl HSS ?_
  go_simp
  refine tu 15 rfl HSS ?_
  go_simp
  refine tu 16 rfl HSS ?_
  go_simp
  refine tu 17 rfl HSS ?_
  go_simp
  refine tu 18 rfl HSS ?_
  go_simp
  refine tu 19 rfl HSS ?_
  go_simp
  refine tu 20 rfl HSS ?_
  go_simp
  refine tu 21 rfl HSS ?_
  go_simp
  refine tu 22 rfl HSS ?_
  go_simp
  refine tk 23 (.bool true) rfl HSS ?_
  go_simp
  refine tk 24 (.bool true) rfl HSS ?_
  go_simp
  refine tu 25 rfl HSS ?_
  go_simp
  refine tu 26 rfl HSS ?_
  go_simp
  refine tu 27 rfl HSS ?_
  go_simp
  refine tu 28 rfl HSS ?_
  go_simp
  refine tu 29 rfl HSS ?_
  go_simp
  refine tu 30 rfl HSS ?_
  go_simp
  refine tu 31 rfl HSS ?_
  go_simp
  refine tu 32 rfl HSS ?_
  go_simp
  refine tk 33 (.bool true) rfl HSS ?_
  go_simp
  refine wpAnyH_done (by kernel_rfl) ?_ _
  exact HI.out _ _ _ _ _ _ _ _ _ _ _ _ _ _ _ _ _ _ _ _ _ _ _ _ _ _ _ _ _ _ _ _ _ _ _ ⟨by rw [HR.out]; rfl, (Below.refl w2.heap.size w2).drew⟩

set_option maxRecDepth 1000000 in
set_option maxHeartbeats 8000000 in
theorem leafA6 (op n : Int) (name src f : ByteArray) (Ac Ae Ab Al : Option Addr) (nc cc ne ce nb cb nl cl : Nat) (w w2 : World)
    (oknm : okS name) (oksr : okS src) (oknf : okS f) (hx2 : IsBlk w2 w.heap.size 52 #[.int .i64 op, .string name, .string src, .int .i64 n, .slice Ac nc cc, .slice Ae ne ce, .slice Ab nb cb, .slice Al nl cl]) (j1 : inB f 110 = hN op) (j2 : inB f 115 = hS op) (hbn : hN op = true) (hbs : hS op = false) (hen : noS name = false) (hes : noS src = false) :
    SigA op name src f w w2 := by
  unfold SigA
  intros
  rename_i hI
  conv => arg 2; whnf
  obtain ⟨fn, hfn⟩ : ∃ b, freeB name = b := ⟨_, rfl⟩
  obtain ⟨fs, hfs⟩ : ∃ b, freeB src = b := ⟨_, rfl⟩
  have HI := Lib.hid hI
  clear hI
  rw [hbn] at j1
  rw [hbs] at j2
  have HN := Lib.hid (fun W => in_at f 110 110 _ oknf rfl j1 W)
  have HS := Lib.hid (fun W => in_at f 115 115 _ oknf rfl j2 W)
  have hF1 := fun W => freeRef_any name W oknm
  have hF2 := fun W => freeRef_any src W oksr
  rw [hfn] at hF1
  rw [hfs] at hF2
  have HFn := Lib.hid hF1
  have HFs := Lib.hid hF2
  have HX := Lib.hid (fun W (hW : Below w2.heap.size w2 W) => hx2.as_was (hW.block _ hx2.lt))
  have HS2 := Lib.hid (fun W (hW : Below w2.heap.size w2 W) => And.intro (stBox' (HX.out W hW)).2.1 (stBox' (HX.out W hW)).2.2.1)
  clear j1 j2 oknf hF1 hF2 hx2
  have fname := str_some hen
  obtain ⟨gname, kname⟩ := str_no hen
  have fsrc := str_some hes
  obtain ⟨gsrc, ksrc⟩ := str_no hes
  have HR := Lib.hid (tA_of (name := name) (src := src) (op := op) hbn hbs hen hes hfn hfs)
  clear hbn hbs hen hes hfn hfs
  refine wp_region_held (S := fun W => W.cell? ⟨w.heap.size, 1, none⟩ = some (.string name) ∧ W.cell? ⟨w.heap.size, 2, none⟩ = some (.string src)) (by kernel_rfl) ?_
  change wpAnyH _ _ _ _ _ _ _ _ (World.drew _)
  have HSS := HS2.out _ (Below.refl w2.heap.size w2).drew
  refine tk 0 (.string f) rfl HSS ?_
  go_simp
  refine tk 2 (.pointer (some ⟨w.heap.size, 1, none⟩)) rfl HSS ?_
  go_simp
  refine tk 3 (.string name) rfl HSS ?_
  go_simp
  refine tk 4 (.bool true) rfl HSS ?_
  go_simp
  refine wpAnyH_ready (rs := [1]) (by kernel_rfl) (by simp) ?_
  refine AllReadyH.cons rfl (fun K hK => ?_) AllReadyH.nil
  go_simp
  refine (HN.out _).mono ?_
  rintro e w' ⟨rfl, rfl⟩
  go_simp
  refine hK.out _ _ HSS (fun _ => ?_); clear hK K
  refine tk 5 (.bool false) rfl HSS ?_
  go_simp
  refine tk 6 (.bool false) rfl HSS ?_
  go_simp
  refine tk 7 (.string f) rfl HSS ?_
  go_simp
  refine tk 9 (.pointer (some ⟨w.heap.size, 2, none⟩)) rfl HSS ?_
  go_simp
  refine tk 10 (.string src) rfl HSS ?_
  go_simp
  refine tk 11 (.bool true) rfl HSS ?_
  go_simp
  refine wpAnyH_ready (rs := [8]) (by kernel_rfl) (by simp) ?_
  refine AllReadyH.cons rfl (fun K hK => ?_) AllReadyH.nil
  go_simp
  refine (HS.out _).mono ?_
  rintro e w' ⟨rfl, rfl⟩
  go_simp
  refine hK.out _ _ HSS (fun _ => ?_); clear hK K
  refine tk 12 (.bool true) rfl HSS ?_
  go_simp
  refine tk 13 (.bool true) rfl HSS ?_
  go_simp
  refine tk 14 (.bool true) rfl HSS ?_
  go_simp
  refine tu 15 rfl HSS ?_
  go_simp
  refine tu 16 rfl HSS ?_
  go_simp
  refine tu 17 rfl HSS ?_
  go_simp
  refine tu 18 rfl HSS ?_
  go_simp
  refine tu 19 rfl HSS ?_
  go_simp
  refine tu 20 rfl HSS ?_
  go_simp
  refine tu 21 rfl HSS ?_
  go_simp
  refine tu 22 rfl HSS ?_
  go_simp
  refine tk 23 (.bool true) rfl HSS ?_
  go_simp
  refine tk 24 (.bool true) rfl HSS ?_
  go_simp
  refine tu 25 rfl HSS ?_
  go_simp
  refine tu 26 rfl HSS ?_
  go_simp
  refine tu 27 rfl HSS ?_
  go_simp
  refine tu 28 rfl HSS ?_
  go_simp
  refine tu 29 rfl HSS ?_
  go_simp
  refine tu 30 rfl HSS ?_
  go_simp
  refine tu 31 rfl HSS ?_
  go_simp
  refine tu 32 rfl HSS ?_
  go_simp
  refine tk 33 (.bool true) rfl HSS ?_
  go_simp
  refine wpAnyH_done (by kernel_rfl) ?_ _
  exact HI.out _ _ _ _ _ _ _ _ _ _ _ _ _ _ _ _ _ _ _ _ _ _ _ _ _ _ _ _ _ _ _ _ _ _ _ ⟨by rw [HR.out]; rfl, (Below.refl w2.heap.size w2).drew⟩
end Go.Proofs.Ytgihhkfppnhdpaa

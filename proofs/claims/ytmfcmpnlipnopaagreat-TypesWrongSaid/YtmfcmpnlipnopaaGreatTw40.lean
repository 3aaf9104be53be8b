/- Parts of this proof, one behind the other: RefHD, RefHE. -/
import Derived.Test.YtmfcmpnlipnopaaGreatTw34
import Derived.Test.YtmfcmpnlipnopaaGreatTw39
import Derived.Deep.DeepCutAuto
import Derived.Deep.CutBlock
import Derived.Deep.QuietTactic
import Derived.BigQuiet
import Derived.Outline
set_option maxRecDepth 1000000
set_option maxHeartbeats 40000000
namespace Go.Proofs.YtmfcmpnlipnopaaGreat
open Go.RowKit Go.Afx
def findBlk (n:Nat):Code→Option Code
 | .loop c=>findBlk n c
 | .seq a b=>match findBlk n a with
  | some c=>some c
  | none=>findBlk n b
 | .block i c=>if i==n then some (.block i c) else findBlk n c
 | .scope c=>findBlk n c
 | .cond _ a b=>match findBlk n a with
  | some c=>some c
  | none=>findBlk n b
 | _=>none
noncomputable def builtBlock (n:Nat):Code:=((Tryz.f29.body.bind (findBlk n)).getD .skip)
theorem blkCols (F:Nat→Prop) (cols:List ByteArray) (op n:Int) (name src:ByteArray) (Ac Ae Ab Al:Option Addr) (nc cc ne ce nb cb nl cl:Nat) (w w2 w6:World) {x0 x2 x3 x4 x6 x7 x8 x9 x10 x11 x12 x13 x14 x15 x16 x17 x18 x19 x20 x21 x22 x23 x24 x25 x26 x27 x28 x29 x30 x31 x32 x33 x34 x35 x36 x37 x38 x39 x40 x41 x42 x43 x44 x45 x46 x47 x48 x49 x50 x51 x52 x53 x54 x55 x56 x57 x58 x59 x60 x61 x62 x63 x64 x65 x66 x67 x68 x69 x70 x71 x72 x73 x74 x75 x76 x77 x78 x79 x80 x81 x82 x83 x84 x85 x86 x87 x88 x89 x90 x91 x92 x93 x94 x95 x96 x97 x98 x99 x100 x101 x102 x103 x104 x105 x106 x107 x108 x109 x110 x111 x112 x113 x114 x115 x116 x117 x118 x119 x120 x121 x122 x123 x124 x125 x126 x127 x128 x129 x130 x131 x132 x133 x134 x135 x136 x137 x138 x139 x140 x141 x142 x143 x144 x145 x146 x147 x148 x149 x150 x151 x152 x153 x154 x155 x156 x157 x158 x159 x160 x161 x162 x163 x164 x165 x166 x167 x168 x169 x170 x171 x172 x173 x174 x175 x176 x177 x178 x179 x180 x181 x182 x183 x184 x185 x186 x187 x188 x189 x190 x191 x192 x193 x194 x195 x196 x197 x198 x199:Value} {I:Act→World→Prop} {R:Ending→World→Prop}
  (hx:IsBlk w2 w.heap.size 65 #[.int .i64 op,.string name,.string src,.int .i64 n,.slice Ac nc cc,.slice Ae ne ce,.slice Ab nb cb,.slice Al nl cl]) (hB:Below w2.heap.size w2 w6) (hcl:LsAt F w2 1 SRow Ac nc cc cols) (hnc8:nc≤8)
  (hRet:∀ W,(cols.all freeB&&decide cols.Nodup)=false→Below w2.heap.size w2 W→R (.returned (.bool false)) W)
  (hI:∀ (y2 y5 y6 y113 y114 y115 y116 y117 y118 y119 y120 y121 y122 y123 y124 y125 y126 y127 y128 y129 y130 y131 y132 y133 y134 y135 y136 y137 y138 y139 y140 y141 y142:Value) (W:World),Below w2.heap.size w2 W→cols.all freeB=true→decide cols.Nodup=true→I ⟨#[x0,.pointer (some ⟨w.heap.size,0,none⟩),y2,x3,x4,y5,y6,x7,x8,x9,x10,x11,x12,x13,x14,x15,x16,x17,x18,x19,x20,x21,x22,x23,x24,x25,x26,x27,x28,x29,x30,x31,x32,x33,x34,x35,x36,x37,x38,x39,x40,x41,x42,x43,x44,x45,x46,x47,x48,x49,x50,x51,x52,x53,x54,x55,x56,x57,x58,x59,x60,x61,x62,x63,x64,x65,x66,x67,x68,x69,x70,x71,x72,x73,x74,x75,x76,x77,x78,x79,x80,x81,x82,x83,x84,x85,x86,x87,x88,x89,x90,x91,x92,x93,x94,x95,x96,x97,x98,x99,x100,x101,x102,x103,x104,x105,x106,x107,x108,x109,x110,x111,x112,y113,y114,y115,y116,y117,y118,y119,y120,y121,y122,y123,y124,y125,y126,y127,y128,y129,y130,y131,y132,y133,y134,y135,y136,y137,y138,y139,y140,y141,y142,x143,x144,x145,x146,x147,x148,x149,x150,x151,x152,x153,x154,x155,x156,x157,x158,x159,x160,x161,x162,x163,x164,x165,x166,x167,x168,x169,x170,x171,x172,x173,x174,x175,x176,x177,x178,x179,x180,x181,x182,x183,x184,x185,x186,x187,x188,x189,x190,x191,x192,x193,x194,x195,x196,x197,x198,x199],[]⟩ W) :
  Code.wp Tryz.prog (builtBlock 0) (Exit.then I (bodyPost Tryz.prog Tryz.f29 R)) ⟨#[x0,.pointer (some ⟨w.heap.size,0,none⟩),x2,x3,x4,.int .i64 0,x6,x7,x8,x9,x10,x11,x12,x13,x14,x15,x16,x17,x18,x19,x20,x21,x22,x23,x24,x25,x26,x27,x28,x29,x30,x31,x32,x33,x34,x35,x36,x37,x38,x39,x40,x41,x42,x43,x44,x45,x46,x47,x48,x49,x50,x51,x52,x53,x54,x55,x56,x57,x58,x59,x60,x61,x62,x63,x64,x65,x66,x67,x68,x69,x70,x71,x72,x73,x74,x75,x76,x77,x78,x79,x80,x81,x82,x83,x84,x85,x86,x87,x88,x89,x90,x91,x92,x93,x94,x95,x96,x97,x98,x99,x100,x101,x102,x103,x104,x105,x106,x107,x108,x109,x110,x111,x112,x113,x114,x115,x116,x117,x118,x119,x120,x121,x122,x123,x124,x125,x126,x127,x128,x129,x130,x131,x132,x133,x134,x135,x136,x137,x138,x139,x140,x141,x142,x143,x144,x145,x146,x147,x148,x149,x150,x151,x152,x153,x154,x155,x156,x157,x158,x159,x160,x161,x162,x163,x164,x165,x166,x167,x168,x169,x170,x171,x172,x173,x174,x175,x176,x177,x178,x179,x180,x181,x182,x183,x184,x185,x186,x187,x188,x189,x190,x191,x192,x193,x194,x195,x196,x197,x198,x199],[]⟩ w6:=by
 have Hcl:=Lhd (LsAt.len hcl)
 have hnc:=LsAt.n_le hcl
 conv=>arg 2;whnf
 have HX:=Lhd (fun W (hW:Below w2.heap.size w2 W)=>hx.as_was (hW.block _ hx.lt))
 have Hcl2:=Lhd (fun W (hW:Below w2.heap.size w2 W)=>hcl.below hW)
 have H26:=Lhd hB
 have HI:=Lhd hI
 have HRt:=Lhd hRet
 obtain⟨z0,z1,z2,z3,z4,z5,z6,z7,zl⟩:=stBox' (HX.out w6 H26.out)
 clear hx hB hI hRet hcl
 go_wp2_with fail
 go_loopw [5] (fun i wr=>∃ k:Nat,k≤nc∧i=.int .i64 k∧(∀ y∈cols.take k,freeB y=true)∧(cols.take k).Nodup∧Below w2.heap.size w2 wr) (fun i _=>nc-(intOf i).toNat)
 case atStart=>exact⟨0,Nat.zero_le _,rfl,by simp,by simp,H26.out⟩
 case round =>
  clear z0 z1 z2 z3 z4 z5 z6 z7 zl
  generalize wr=w7 at *
  obtain⟨k,hk,rfl,hfr,hnd,hB7⟩:=hrel
  have Hfr:=Lhd hfr
  have Hnd:=Lhd hnd
  skip
  have H27:=Lhd hB7
  obtain⟨z0,z1,z2,z3,z4,z5,z6,z7,zl⟩:=stBox' (HX.out w7 hB7)
  clear hfr hnd hB7
  by_cases hlt:k<nc
  ·obtain⟨b,o,r,cN,rfl,hbl',_,hck,_,hp,hc⟩:=(Hcl2.out w7 H27.out).get hlt
   obtain⟨rfl,okc⟩:=hp
   have hc0:=hc 0 _ rfl
   rw[Nat.mul_one,Nat.add_zero] at hc0
   have Hck:=Lhd hck
   obtain⟨q,Hq⟩:∃ q,Hid (freeB cN=q):=⟨_,rfl⟩
   have hFc:=fun W=>freeRef_any cN W okc
   rw[Hq.out] at hFc
   have HFc:=Lhd hFc
   clear hc hck hFc
   cases q
   ·have Hf:Hid ((cols.all freeB&&decide cols.Nodup)=false):=Lhd (by
     have h1:cols.all freeB=false:=by rw[List.all_eq_false];exact⟨cN,List.mem_of_getElem? Hck.out,by rw[Hq.out];simp⟩
     rw[h1];simp)
    go_wp2_with (go_at_call 28;refine(HFc.out _).mono ?_;rintro e w8 ⟨rfl,hb8⟩)
    try go_ret
    exact HRt.out _ Hf.out (H27.out.trans (hb8.mono H27.out.size))
   ·go_wp2_with (go_at_call 28;refine(HFc.out _).mono ?_;rintro e w8 ⟨rfl,hb8⟩)
    have H28:=Lhd (H27.out.trans (hb8.mono H27.out.size))
    clear z0 z1 z2 z3 z4 z5 z6 z7 zl
    go_loopw [6] (fun i wr=>∃ j:Nat,j≤k∧i=.int .i64 j∧(∀ y∈cols.take j,(y.toList==cN.toList)=false)∧Below w2.heap.size w2 wr) (fun i _=>k-(intOf i).toNat)
    case atStart=>exact⟨0,Nat.zero_le _,rfl,by simp,H28.out⟩
    case round =>
     obtain⟨j,hj,rfl,hne',hB9⟩:=hrel
     have Hne':=Lhd hne'
     clear hne'
     obtain⟨z0,z1,z2,z3,z4,z5,z6,z7,zl⟩:=stBox' (HX.out wr hB9)
     by_cases hjk:j<k
     ·obtain⟨b',o',r',y,hA',hbl2,_,hyj,_,hp',hc'⟩:=(Hcl2.out wr hB9).get (k:=j) (by omega)
      obtain⟨b'',o'',r'',y'',hA'',hbl3,_,hyk,_,hp'',hc''⟩:=(Hcl2.out wr hB9).get hlt
      obtain⟨rfl,_⟩:=hp'
      obtain⟨rfl,_⟩:=hp''
      simp only[Option.some.injEq,Addr.mk.injEq,and_true] at hA' hA''
      obtain⟨rfl,rfl⟩:=hA'
      obtain⟨rfl,rfl⟩:=hA''
      have e2:=Hck.out.symm.trans hyk
      injection e2 with e2
      subst e2
      have hd0:=hc' 0 _ rfl
      have hd1:=hc'' 0 _ rfl
      rw[Nat.mul_one,Nat.add_zero] at hd0 hd1
      have Hyj:=Lhd hyj
      clear hc' hc'' hyj hyk
      by_cases he:(y.toList==cN.toList)=true
      ·have Hf:Hid ((cols.all freeB&&decide cols.Nodup)=false):=Lhd (by
        have h1:decide cols.Nodup=false:=by
         rw[decide_eq_false_iff_not]
         intro hn2
         have hyx:y=cN:=by simpa [bs_eq] using he
         have a1:=(List.getElem?_eq_some_iff.1 Hyj.out)
         have a2:=(List.getElem?_eq_some_iff.1 Hck.out)
         have h3:=(List.getElem_inj (xs:=cols) (i:=j) (j:=k) (h₀:=a1.1) (h₁:=a2.1) hn2).1 (by rw[a1.2,a2.2,hyx])
         omega
        rw[h1];simp)
       skip
       go_wp2
       go_quiet (fail)
       go_wp2
       try go_ret
       exact HRt.out _ Hf.out (below_drewN hB9 _)
      ·have he:(y.toList==cN.toList)=false:=by simpa using he
       have Hnx:=Lhd (mem_take_succ Hyj.out Hne'.out he)
       go_wp2
       go_quiet (fail)
       go_wp2
       go_roundw
       case rel=>exact⟨j+1,by omega,by go_num,Hnx.out,below_drewN hB9 _⟩
       case measure=>simp[intOf];omega
     ·have Hf1:=Lhd (mem_take_succ Hck.out Hfr.out Hq.out)
      have Hn1:Hid ((cols.take (k+1)).Nodup):=Lhd (by
       rw[take_succ_of' Hck.out,List.nodup_append]
       refine⟨Hnd.out,by simp,fun a ha b hb e=>?_⟩
       simp at hb
       have hjk':j=k:=by omega
       have h5:=Hne'.out a (by rw[hjk'];exact ha)
       rw[e,hb] at h5
       simp at h5)
      go_wp2
      go_roundw
      case rel=>exact⟨k+1,by omega,by go_num,Hf1.out,Hn1.out,hB9⟩
      case measure=>simp[intOf];omega
  ·have Hcols:Hid (cols.all freeB=true∧decide cols.Nodup=true):=Lhd (by
    have h1:=Hfr.out
    have h2:=Hnd.out
    rw[List.take_of_length_le (by rw[Hcl.out];omega)] at h1 h2
    exact⟨by rw[List.all_eq_true];exact h1,by simpa using h2⟩)
   go_wp2_with fail
   exact HI.out _ _ _ _ _ _ _ _ _ _ _ _ _ _ _ _ _ _ _ _ _ _ _ _ _ _ _ _ _ _ _ _ _ _ H27.out Hcols.out.1 Hcols.out.2
theorem blkExprs (F:Nat→Prop) (d:Nat) (exprs:List Ex) (op n:Int) (name src:ByteArray) (Ac Ae Ab Al:Option Addr) (nc cc ne ce nb cb nl cl:Nat) (w w2 w6:World) {x0 x2 x3 x4 x5 x6 x8 x10 x11 x12 x13 x14 x15 x16 x17 x18 x19 x20 x21 x22 x23 x24 x25 x26 x27 x28 x29 x30 x31 x32 x33 x34 x35 x36 x37 x38 x39 x40 x41 x42 x43 x44 x45 x46 x47 x48 x49 x50 x51 x52 x53 x54 x55 x56 x57 x58 x59 x60 x61 x62 x63 x64 x65 x66 x67 x68 x69 x70 x71 x72 x73 x74 x75 x76 x77 x78 x79 x80 x81 x82 x83 x84 x85 x86 x87 x88 x89 x90 x91 x92 x93 x94 x95 x96 x97 x98 x99 x100 x101 x102 x103 x104 x105 x106 x107 x108 x109 x110 x111 x112 x113 x114 x115 x116 x117 x118 x119 x120 x121 x122 x123 x124 x125 x126 x127 x128 x129 x130 x131 x132 x133 x134 x135 x136 x137 x138 x139 x140 x141 x142 x143 x144 x145 x146 x147 x148 x149 x150 x151 x152 x153 x154 x155 x156 x157 x158 x159 x160 x161 x162 x163 x164 x165 x166 x167 x168 x169 x170 x171 x172 x173 x174 x175 x176 x177 x178 x179 x180 x181 x182 x183 x184 x185 x186 x187 x188 x189 x190 x191 x192 x193 x194 x195 x196 x197 x198 x199:Value} {I:Act→World→Prop} {R:Ending→World→Prop}
  (hx:IsBlk w2 w.heap.size 65 #[.int .i64 op,.string name,.string src,.int .i64 n,.slice Ac nc cc,.slice Ae ne ce,.slice Ab nb cb,.slice Al nl cl]) (hB:Below w2.heap.size w2 w6) (hel:ExsAt F d w2 Ae ne ce exprs)
  (hRet:∀ W,exprs.all (builtE d)=false→Below w2.heap.size w2 W→R (.returned (.bool false)) W)
  (hI:∀ (y2 y9 y180 y181 y182 y183 y184 y185 y186 y187 y188 y189 y190 y191:Value) (W:World),Below w2.heap.size w2 W→exprs.all (builtE d)=true→I ⟨#[x0,.pointer (some ⟨w.heap.size,0,none⟩),y2,x3,x4,x5,x6,.int .i64 ne,x8,y9,x10,x11,x12,x13,x14,x15,x16,x17,x18,x19,x20,x21,x22,x23,x24,x25,x26,x27,x28,x29,x30,x31,x32,x33,x34,x35,x36,x37,x38,x39,x40,x41,x42,x43,x44,x45,x46,x47,x48,x49,x50,x51,x52,x53,x54,x55,x56,x57,x58,x59,x60,x61,x62,x63,x64,x65,x66,x67,x68,x69,x70,x71,x72,x73,x74,x75,x76,x77,x78,x79,x80,x81,x82,x83,x84,x85,x86,x87,x88,x89,x90,x91,x92,x93,x94,x95,x96,x97,x98,x99,x100,x101,x102,x103,x104,x105,x106,x107,x108,x109,x110,x111,x112,x113,x114,x115,x116,x117,x118,x119,x120,x121,x122,x123,x124,x125,x126,x127,x128,x129,x130,x131,x132,x133,x134,x135,x136,x137,x138,x139,x140,x141,x142,x143,x144,x145,x146,x147,x148,x149,x150,x151,x152,x153,x154,x155,x156,x157,x158,x159,x160,x161,x162,x163,x164,x165,x166,x167,x168,x169,x170,x171,x172,x173,x174,x175,x176,x177,x178,x179,y180,y181,y182,y183,y184,y185,y186,y187,y188,y189,y190,y191,x192,x193,x194,x195,x196,x197,x198,x199],[]⟩ W) :
  Code.wp Tryz.prog (builtBlock 4) (Exit.then I (bodyPost Tryz.prog Tryz.f29 R)) ⟨#[x0,.pointer (some ⟨w.heap.size,0,none⟩),x2,x3,x4,x5,x6,.int .i64 ne,x8,.int .i64 0,x10,x11,x12,x13,x14,x15,x16,x17,x18,x19,x20,x21,x22,x23,x24,x25,x26,x27,x28,x29,x30,x31,x32,x33,x34,x35,x36,x37,x38,x39,x40,x41,x42,x43,x44,x45,x46,x47,x48,x49,x50,x51,x52,x53,x54,x55,x56,x57,x58,x59,x60,x61,x62,x63,x64,x65,x66,x67,x68,x69,x70,x71,x72,x73,x74,x75,x76,x77,x78,x79,x80,x81,x82,x83,x84,x85,x86,x87,x88,x89,x90,x91,x92,x93,x94,x95,x96,x97,x98,x99,x100,x101,x102,x103,x104,x105,x106,x107,x108,x109,x110,x111,x112,x113,x114,x115,x116,x117,x118,x119,x120,x121,x122,x123,x124,x125,x126,x127,x128,x129,x130,x131,x132,x133,x134,x135,x136,x137,x138,x139,x140,x141,x142,x143,x144,x145,x146,x147,x148,x149,x150,x151,x152,x153,x154,x155,x156,x157,x158,x159,x160,x161,x162,x163,x164,x165,x166,x167,x168,x169,x170,x171,x172,x173,x174,x175,x176,x177,x178,x179,x180,x181,x182,x183,x184,x185,x186,x187,x188,x189,x190,x191,x192,x193,x194,x195,x196,x197,x198,x199],[]⟩ w6:=by
 have Hel:=Lhd (LsAt.len hel)
 have hne:=LsAt.n_le hel
 conv=>arg 2;whnf
 have HX:=Lhd (fun W (hW:Below w2.heap.size w2 W)=>hx.as_was (hW.block _ hx.lt))
 have Hel2:=Lhd (fun W (hW:Below w2.heap.size w2 W)=>ExsAt.below hel hW)
 have H27:=Lhd hB
 have HI:=Lhd hI
 have HRt:=Lhd hRet
 clear hx hB hI hRet hel
 go_wp2_with fail
 go_loopw [9] (fun i wr=>∃ k:Nat,k≤ne∧i=.int .i64 k∧(∀ y∈exprs.take k,builtE d y=true)∧Below w2.heap.size w2 wr) (fun i _=>ne-(intOf i).toNat)
 case atStart=>exact⟨0,Nat.zero_le _,rfl,by simp,H27.out⟩
 case round =>
  obtain⟨k2,hk2,rfl,hall,hB⟩:=hrel
  have Hall:=Lhd hall
  clear hall
  skip
  obtain⟨z0,z1,z2,z3,z4,z5,z6,z7,zl⟩:=stBox' (HX.out wr hB)
  by_cases hlt2:k2<ne
  ·cases d with
   | zero =>
    obtain⟨b3,o3,r3,e3,hA3,hbl3,_,he3,hl3,hp3,hc3⟩:=LsAt.get (Hel2.out wr hB) hlt2
    exact hp3.elim
   | succ d =>
    obtain⟨b3,o3,x,A3,m3,c3,rfl,hbl3,hx,hd0,hd1,hd2,hd3,hd4,hd5,hpx,_⟩:=ExsAt.get (Hel2.out wr hB) hlt2
    have Hx:=Lhd hx
    clear hx
    obtain⟨q,Hq⟩:∃ q,Hid (builtE (d+1) x=q):=⟨_,rfl⟩
    have hcall:=rbuilt_any F (d+1) x _ wr hpx
    rw[Hq.out] at hcall
    have Hc:=Lhd hcall
    clear hcall
    cases q
    ·go_wp2_with (go_at_call 52;refine Hc.out.mono ?_;rintro y w9 ⟨rfl,hb9⟩)
     try go_ret
     have hno:exprs.all (builtE (d+1))=false:=by rw[List.all_eq_false];exact⟨x,List.mem_of_getElem? Hx.out,by rw[Hq.out];simp⟩
     exact HRt.out _ hno (hB.trans (hb9.mono hB.size))
    ·have Hnx:=Lhd (mem_take_succ Hx.out Hall.out Hq.out)
     go_wp2_with (go_at_call 52;refine Hc.out.mono ?_;rintro y w9 ⟨rfl,hb9⟩)
     go_roundw
     case rel=>exact⟨k2+1,by omega,by go_num,Hnx.out,hB.trans (hb9.mono hB.size)⟩
     case measure=>simp[intOf];omega
  ·have Hex:Hid (exprs.all (builtE d)=true):=Lhd (by
    have h1:=Hall.out
    rw[List.take_of_length_le (by rw[Hel.out];omega)] at h1
    rw[List.all_eq_true];exact h1)
   go_wp2_with fail
   exact HI.out _ _ _ _ _ _ _ _ _ _ _ _ _ _ _ hB Hex.out
def findFrom (n:Nat):Code→Option Code
 | .seq a b=>if startsAt n a then some (.seq a b) else match findFrom n a with
  | some c=>some c
  | none=>findFrom n b
 | .loop c=>findFrom n c
 | .block _ c=>findFrom n c
 | .scope c=>findFrom n c
 | .cond _ a b=>match findFrom n a with
  | some c=>some c
  | none=>findFrom n b
 | _=>none
noncomputable def builtFrom (n:Nat):Code:=((Tryz.f29.body.bind (findFrom n)).getD .skip)
theorem built_rest (F:Nat→Prop) (d:Nat) (ih:RBuiltS F d) (op n:Int) (name src:ByteArray) (cols:List ByteArray) (exprs:List Ex) (body els:List St) (Ac Ae Ab Al:Option Addr) (nc cc ne ce nb cb nl cl:Nat) (w w2 w6:World) {x0 x2 x3 x4 x5 x6 x7 x8 x9 x10 x11 x12 x13 x14 x15 x16 x17 x18 x19 x20 x21 x22 x23 x24 x25 x26 x27 x28 x29 x30 x31 x32 x33 x34 x35 x36 x37 x38 x39 x40 x41 x42 x43 x44 x45 x46 x47 x48 x49 x50 x51 x52 x53 x54 x55 x56 x57 x58 x59 x60 x61 x62 x63 x64 x65 x66 x67 x68 x69 x70 x71 x72 x73 x74 x75 x76 x77 x78 x79 x80 x81 x82 x83 x84 x85 x86 x87 x88 x89 x90 x91 x92 x93 x94 x95 x96 x97 x98 x99 x100 x101 x102 x103 x104 x105 x106 x107 x108 x109 x110 x111 x112 x113 x114 x115 x116 x117 x118 x119 x120 x121 x122 x123 x124 x125 x126 x127 x128 x129 x130 x131 x132 x133 x134 x135 x136 x137 x138 x139 x140 x141 x142 x143 x144 x145 x146 x147 x148 x149 x150 x151 x152 x153 x154 x155 x156 x157 x158 x159 x160 x161 x162 x163 x164 x165 x166 x167 x168 x169 x170 x171 x172 x173 x174 x175 x176 x177 x178 x179 x180 x181 x182 x183 x184 x185 x186 x187 x188 x189 x190 x191 x192 x193 x194 x195 x196 x197 x198 x199:Value}
  (hb2:Below w.heap.size w w2) (hx:IsBlk w2 w.heap.size 65 #[.int .i64 op,.string name,.string src,.int .i64 n,.slice Ac nc cc,.slice Ae ne ce,.slice Ab nb cb,.slice Al nl cl]) (hB:Below w2.heap.size w2 w6) (hcl:LsAt F w2 1 SRow Ac nc cc cols) (hel:ExsAt F d w2 Ae ne ce exprs) (hbl:StsAt F d w2 Ab nb cb body) (hll:StsAt F d w2 Al nl cl els)
  (hta:tA op name src=false) (htb:tB op n nc nb nl=false) (hlo:1≤op) (hhi:op≤10) :
  Code.wp Tryz.prog (builtFrom 9) (bodyPost Tryz.prog Tryz.f29 fun e w'=>e=.returned (.bool (refS op name src n cols exprs.length body.length els.length&&exprs.all (builtE d)&&body.all (builtS d)&&els.all (builtS d)))∧Below w.heap.size w w') ⟨#[x0,.pointer (some ⟨w.heap.size,0,none⟩),x2,x3,x4,x5,x6,x7,x8,x9,x10,x11,x12,x13,x14,x15,x16,x17,x18,x19,x20,x21,x22,x23,x24,x25,x26,x27,x28,x29,x30,x31,x32,x33,x34,x35,x36,x37,x38,x39,x40,x41,x42,x43,x44,x45,x46,x47,x48,x49,x50,x51,x52,x53,x54,x55,x56,x57,x58,x59,x60,x61,x62,x63,x64,x65,x66,x67,x68,x69,x70,x71,x72,x73,x74,x75,x76,x77,x78,x79,x80,x81,x82,x83,x84,x85,x86,x87,x88,x89,x90,x91,x92,x93,x94,x95,x96,x97,x98,x99,x100,x101,x102,x103,x104,x105,x106,x107,x108,x109,x110,x111,x112,x113,x114,x115,x116,x117,x118,x119,x120,x121,x122,x123,x124,x125,x126,x127,x128,x129,x130,x131,x132,x133,x134,x135,x136,x137,x138,x139,x140,x141,x142,x143,x144,x145,x146,x147,x148,x149,x150,x151,x152,x153,x154,x155,x156,x157,x158,x159,x160,x161,x162,x163,x164,x165,x166,x167,x168,x169,x170,x171,x172,x173,x174,x175,x176,x177,x178,x179,x180,x181,x182,x183,x184,x185,x186,x187,x188,x189,x190,x191,x192,x193,x194,x195,x196,x197,x198,x199],[]⟩ w6:=by
 have hnc:=LsAt.n_le hcl
 have hne:=LsAt.n_le hel
 have hnb:=LsAt.n_le hbl
 have hnl:=LsAt.n_le hll
 have Hcl:=Lhd (LsAt.len hcl)
 have Hel:=Lhd (LsAt.len hel)
 have Hbl:=Lhd (LsAt.len hbl)
 have Hll:=Lhd (LsAt.len hll)
 have HX:=Lhd (fun W (hW:Below w2.heap.size w2 W)=>hx.as_was (hW.block _ hx.lt))
 have Hcl2:=Lhd (fun W (hW:Below w2.heap.size w2 W)=>hcl.below hW)
 have Hel2:=Lhd (fun W (hW:Below w2.heap.size w2 W)=>ExsAt.below hel hW)
 have Hbl2:=Lhd (fun W (hW:Below w2.heap.size w2 W)=>StsAt.below hbl hW)
 have Hll2:=Lhd (fun W (hW:Below w2.heap.size w2 W)=>StsAt.below hll hW)
 have Hb2:=Lhd hb2
 have H26:=Lhd hB
 have Hta:=Lhd hta
 have Htb:=Lhd htb
 have Hop:=Lhd (And.intro hlo hhi)
 clear hcl hel hbl hll hx hb2 hB hta htb hlo hhi
 conv=>arg 2;whnf
 have hnc8:nc≤8:=by
  have h:=Htb.out
  unfold tB at h
  simp at h
  omega
 obtain⟨z0,z1,z2,z3,z4,z5,z6,z7,zl⟩:=stBox' (HX.out w6 H26.out)
 go_upto_block 0 with (fail)
 refine Code.wp_mono (fun _ _ _ h=>h) (blkCols F cols op n name src Ac Ae Ab Al nc cc ne ce nb cb nl cl w w2 w6 (HX.out _ (Below.refl _ _)) H26.out (Hcl2.out _ (Below.refl _ _)) hnc8 ?_ ?_)
 ·intro W hno hbW
  exact⟨ret_bool (by unfold refS;cases h1:cols.all freeB<;>cases h2:decide cols.Nodup<;>simp_all),Hb2.out.trans (hbW.mono Hb2.out.size)⟩
 ·intro y2 y5 y6 y113 y114 y115 y116 y117 y118 y119 y120 y121 y122 y123 y124 y125 y126 y127 y128 y129 y130 y131 y132 y133 y134 y135 y136 y137 y138 y139 y140 y141 y142 w7 hbW hc1 hc2
  have H27:=Lhd hbW
  have Hcols:=Lhd (And.intro hc1 hc2)
  have H07:=Lhd (Hb2.out.trans (hbW.mono Hb2.out.size))
  obtain⟨z0,z1,z2,z3,z4,z5,z6,z7,zl⟩:=stBox' (HX.out w7 hbW)
  clear hbW hc1 hc2
  go_step
  go_upto_region 20 with (fail)
  go_cut [8] (fun u8 W=>u8=.bool (tMany op)∧w7=W)
  case first =>
   by_cases h3:op=3
   ·have e3:(op==3)=true:=by simpa using h3
    have HR:Hid (tMany op=true):=Lhd (by unfold tMany;simp[h3])
    clear h3
    go_wp2
    go_meet
    exact⟨by rw[HR.out],rfl⟩
   have e3:(op==3)=false:=by simpa using h3
   by_cases h8:op=8
   ·have e8:(op==8)=true:=by simpa using h8
    have HR:Hid (tMany op=true):=Lhd (by unfold tMany;simp[h8])
    clear h3 h8
    go_wp2
    go_meet
    exact⟨by rw[HR.out],rfl⟩
   have e8:(op==8)=false:=by simpa using h8
   by_cases h10:op=10
   ·have e10:(op==10)=true:=by simpa using h10
    have HR:Hid (tMany op=true):=Lhd (by unfold tMany;simp[h10])
    clear h3 h8 h10
    go_wp2
    go_meet
    exact⟨by rw[HR.out],rfl⟩
   have e10:(op==10)=false:=by simpa using h10
   have HR:Hid (tMany op=false):=Lhd (by unfold tMany;simp[h3,h8,h10])
   clear h3 h8 h10
   go_wp2
   go_meet
   exact⟨by rw[HR.out],rfl⟩
  case rest =>
   obtain⟨rfl,rfl⟩:=hcut
   obtain⟨mb,Hmb⟩:∃ b,Hid (tMany op=b):=⟨_,rfl⟩
   rw[Hmb.out]
   go_upto_region 21 with (fail)
   go_cut [179] (fun u179 W=>u179=.bool (tD op nc ne)∧w7=W)
   case first =>
    cases mb
    ·by_cases h1:ne=1+nc
     ·have HR:Hid (tD op nc ne=false):=Lhd (by unfold tD;rw[Hmb.out];simp[h1])
      have e1:((ne:Int) !=1+(nc:Int))=false:=by simp;omega
      clear h1
      go_wp2
      go_meet
      exact⟨by rw[HR.out],rfl⟩
     ·have HR:Hid (tD op nc ne=true):=Lhd (by unfold tD;rw[Hmb.out];simp[h1])
      have e1:((ne:Int) !=1+(nc:Int))=true:=by simp;omega
      clear h1
      go_wp2
      go_meet
      exact⟨by rw[HR.out],rfl⟩
    ·by_cases h1:ne<1
     ·have HR:Hid (tD op nc ne=true):=Lhd (by unfold tD;rw[Hmb.out];simp[h1])
      have e1:decide ((ne:Int)<1)=true:=by simp;omega
      go_wp2
      go_meet
      exact⟨by rw[HR.out],rfl⟩
     ·have e1:decide ((ne:Int)<1)=false:=by simp;omega
      by_cases h8:8<ne
      ·have HR:Hid (tD op nc ne=true):=Lhd (by unfold tD;rw[Hmb.out];simp[h8])
       have e8:decide ((8:Int)<(ne:Int))=true:=by simp;omega
       go_wp2
       go_meet
       exact⟨by rw[HR.out],rfl⟩
      ·have HR:Hid (tD op nc ne=false):=Lhd (by unfold tD;rw[Hmb.out];simp;omega)
       have e8:decide ((8:Int)<(ne:Int))=false:=by simp;omega
       go_wp2
       go_meet
       exact⟨by rw[HR.out],rfl⟩
   case rest =>
    obtain⟨rfl,rfl⟩:=hcut
    obtain⟨td,Htd⟩:∃ b,Hid (tD op nc ne=b):=⟨_,rfl⟩
    rw[Htd.out]
    cases td
    rotate_left
    ·have Hf:Hid (refS op name src n cols exprs.length body.length els.length=false):=Lhd (by unfold refS;rw[Hcl.out,Hel.out,Htd.out];simp)
     go_wp2
     go_ret
     exact⟨ret_bool (by rw[Hf.out];rfl),H07.out⟩
    have Hyes:Hid (refS op name src n cols exprs.length body.length els.length=true):=Lhd (by
     unfold refS
     rw[Hcols.out.1,Hcols.out.2,Hta.out,Hcl.out,Hel.out,Hbl.out,Hll.out,Htb.out,Htd.out,decide_eq_true Hop.out.1,decide_eq_true Hop.out.2]
     rfl)
    clear z0 z1 z2 z3 z4 z5 z6 z7 zl
    go_upto_block 4 with (fail)
    refine Code.wp_mono (fun _ _ _ h=>h) (blkExprs F d exprs op n name src Ac Ae Ab Al nc cc ne ce nb cb nl cl w w2 w7 (HX.out _ (Below.refl _ _)) H27.out (Hel2.out _ (Below.refl _ _)) ?_ ?_)
    ·intro W hno hbW
     exact⟨ret_bool (by rw[Hyes.out,hno];rfl),Hb2.out.trans (hbW.mono Hb2.out.size)⟩
    ·intro y2 y9 y180 y181 y182 y183 y184 y185 y186 y187 y188 y189 y190 y191 wr hB hex
     have Hex:=Lhd hex
     have H0r:=Lhd (Hb2.out.trans (hB.mono Hb2.out.size))
     obtain⟨z0,z1,z2,z3,z4,z5,z6,z7,zl⟩:=stBox' (HX.out wr hB)
     clear hex
     go_step
     obtain⟨q1,Hq1⟩:∃ q,Hid (body.all (builtS d)=q):=⟨_,rfl⟩
     obtain⟨q2,Hq2⟩:∃ q,Hid (els.all (builtS d)=q):=⟨_,rfl⟩
     have hC1:=rblocks_any F d ih Ab nb cb body wr (Hbl2.out wr hB)
     rw[Hq1.out] at hC1
     have HC1:=Lhd hC1
     clear hC1
     cases q1
     ·go_wp2_with (go_at_call 16;refine HC1.out.mono ?_;rintro y w9 ⟨rfl,hb9⟩)
      go_ret
      exact⟨ret_bool (by rw[Hyes.out,Hex.out,Hq1.out];rfl),H0r.out.trans (hb9.mono H0r.out.size)⟩
     ·have HC2:=Lhd (fun (W:World) (hW:Below w2.heap.size w2 W)=>Hq2.out▸rblocks_any F d ih Al nl cl els W (Hll2.out W hW))
      go_wp2_with (first|(go_at_call 16;(with_reducible refine HC1.out.mono ?_);rintro y w9 ⟨rfl,hb9⟩;have hB9:=hB.trans (hb9.mono hB.size);obtain⟨t0,t1,t2,t3,t4,t5,t6,t7,tl⟩:=stBox' (HX.out w9 hB9))|(go_at_call 16;(with_reducible refine(HC2.out w9 hB9).mono ?_);rintro y w10 ⟨rfl,hb10⟩))
      go_ret
      exact⟨ret_bool (by rw[Hyes.out,Hex.out,Hq1.out,Hq2.out];rfl),(H0r.out.trans (hb9.mono H0r.out.size)).trans (hb10.mono (H0r.out.trans (hb9.mono H0r.out.size)).size)⟩
end Go.Proofs.YtmfcmpnlipnopaaGreat

/- Parts of this proof, one behind the other: RefT7, RefT8, RefN, PrtP. -/
import Derived.Test.YtdgapmnojmhllaaGreatDoorPf10
import Derived.Test.YtdgapmnojmhllaaGreatDoorPf12
import Derived.Deep.DeepCutAuto
import Derived.Deep.CutBlock
import Derived.Outline
import Derived.Test.YtdgapmnojmhllaaGreatDoorPf1
import Derived.Deep.RegionHeld3
import Derived.Test.YtdgapmnojmhllaaGreatDoorPf3
set_option maxRecDepth 1000000
set_option maxHeartbeats 40000000
namespace Go.Proofs.YtdgapmnojmhllaaGreatDoor
open Go.RowKit Go.Afx
def MidS (w2:World) (g:Nat) (hue:Nat→Nat) (w1:World) (k:Nat) (x:Kn) (Ac:Option Addr) (nc cc:Nat) (u16 u17:Value) (wr:World):Prop :=
 ∃ (exprs:List Ex) (Ae:Option Addr) (ce:Nat),exprs.length≤10∧u16=.int .i64 (1+sumT (exprs.map tellE))∧u17=.int .i64 (topT (exprs.map tellE))∧SKids w2 wr g hue w1 k x Ac nc cc exprs [] [] Ae ce none 0 none 0
def SDone (F:Nat→Prop) (w wr:World):Prop:=∃ hue es ss A0 c0 A1 c1 A2 c2 A3 c3 A4 c4 A5 c5,SWood F w wr hue es ss A0 c0 A1 c1 A2 c2 A3 c3 A4 c4 A5 c5
theorem phS (F:Nat→Prop) (A':Option Addr) (n' c':Nat) (ys:List Kn) (w wS:World) (hue:Nat→Nat) (es:List Ex) (A0:Option Addr) (c0:Nat) (A1:Option Addr) (c1:Nat) (A2:Option Addr) (c2:Nat) {x0 x2 x3 x4 x6 x7 x8 x9 x10 x11 x12 x14 x15 x16 x17 x18 x19 x20 x21 x22 x23 x24 x25 x26 x27 x28 x29 x30 x31 x32 x33 x34 x35 x36 x37 x38 x39 x40 x41 x42 x43 x44 x45 x46 x47 x48 x49 x50 x51 x52 x53 x54 x55 x56 x57 x58 x59 x60 x61 x62 x63 x64 x65 x66 x67 x68 x69 x70 x71 x72 x73 x74 x75 x76 x77 x78 x79 x80 x81 x82 x83 x84 x85 x86 x87 x88 x89 x90 x91 x92 x93 x94 x95 x96 x97 x98 x99 x100 x101 x102 x103 x104 x105 x106 x107 x108 x109 x110 x111 x112 x113 x114 x115 x116 x117 x118 x119 x120 x121 x122 x123 x124 x125 x126 x127 x128 x129 x130 x131 x132 x133 x134 x135 x136 x137 x138 x139 x140 x141 x142 x143 x144 x145 x146 x147 x148 x149 x150 x151 x152 x153 x154 x155 x156 x157 x158 x159 x160 x161 x162 x163 x164 x165 x166 x167 x168 x169 x170 x171 x172 x173 x174 x175 x176 x177 x178 x179 x180 x181 x182 x183 x184 x185 x186 x187 x188 x189 x190 x191 x192 x193 x194 x195 x196 x197 x198 x199 x200 x201 x202 x203 x204 x205 x206 x207 x208 x209 x210 x211 x212 x213 x214 x215 x216 x217 x218 x219 x220 x221 x222 x223 x224 x225 x226 x227 x228 x229 x230 x231 x232 x233 x234 x235 x236 x237 x238 x239 x240 x241 x242 x243 x244 x245 x246 x247 x248 x249 x250 x251 x252 x253 x254 x255 x256 x257 x258 x259 x260 x261 x262 x263 x264 x265 x266 x267 x268 x269 x270 x271 x272 x273 x274 x275 x276 x277 x278 x279 x280 x281 x282 x283 x284 x285 x286 x287 x288 x289 x290 x291:Value} {I:Act→World→Prop} {Q0:Exit→Act→World→Prop} (h2:LsAt F w 8 (KnAt F w) A' n' c' ys) (hF:∀ k,F k→k<w.heap.size)
  (hS:SWood F w wS hue es [] A0 c0 A1 c1 A2 c2 none 0 none 0 none 0) (hI:∀ (y13 y14 y15 y16 y17 y18 y19 y20 y21 y22 y118 y119 y120 y121 y122 y123 y124 y125 y126 y127 y128 y129 y130 y131 y132 y133 y134 y135 y136 y137 y138 y139 y140 y141 y142 y143 y144 y145 y146 y147 y148 y149 y150 y151 y152 y153 y154 y155 y156 y157 y158 y159 y160 y161 y162 y163 y164 y165 y166 y167 y168 y169 y170 y171 y172 y173 y174 y175 y176 y177 y178 y179 y180 y181 y182 y183 y184 y185 y186 y187 y188 y189 y190 y191 y192 y193 y194 y195 y196 y197 y198 y199 y200 y201 y202 y203 y204 y205 y206 y207 y208 y209 y210 y211 y212 y213 y214 y215 y216 y217 y218 y219 y220 y221 y222 y223 y224 y225 y226 y227 y228 y229 y230 y231 y232 y233 y234 y235 y236 y237 y238 y239 y240 y241 y242 y243 y244 y245 y246 y247 y248 y249 y250 y251 y252 y253 y254 y255 y256 y257 y258 y259 y260 y261 y262 y263 y264 y265 y266 y267 y268 y269 y270 y271 y272 y273 y274 y275 y276 y277 y278 y279 y280 y281 y282 y283 y284 y285 y286 y287 y288 y289 y290:Value) (W:World),SDone F w W→I ⟨#[x0,.slice A' n' c',x2,x3,x4,.pointer (some ⟨w.heap.size+1,0,none⟩),x6,x7,x8,x9,x10,x11,x12,y13,y14,y15,y16,y17,y18,y19,y20,y21,y22,x23,x24,x25,x26,x27,x28,x29,x30,x31,x32,x33,x34,x35,x36,x37,x38,x39,x40,x41,x42,x43,x44,x45,x46,x47,x48,x49,x50,x51,x52,x53,x54,x55,x56,x57,x58,x59,x60,x61,x62,x63,x64,x65,x66,x67,x68,x69,x70,x71,x72,x73,x74,x75,x76,x77,x78,x79,x80,x81,x82,x83,x84,x85,x86,x87,x88,x89,x90,x91,x92,x93,x94,x95,x96,x97,x98,x99,x100,x101,x102,x103,x104,x105,x106,x107,x108,x109,x110,x111,x112,x113,x114,x115,x116,x117,y118,y119,y120,y121,y122,y123,y124,y125,y126,y127,y128,y129,y130,y131,y132,y133,y134,y135,y136,y137,y138,y139,y140,y141,y142,y143,y144,y145,y146,y147,y148,y149,y150,y151,y152,y153,y154,y155,y156,y157,y158,y159,y160,y161,y162,y163,y164,y165,y166,y167,y168,y169,y170,y171,y172,y173,y174,y175,y176,y177,y178,y179,y180,y181,y182,y183,y184,y185,y186,y187,y188,y189,y190,y191,y192,y193,y194,y195,y196,y197,y198,y199,y200,y201,y202,y203,y204,y205,y206,y207,y208,y209,y210,y211,y212,y213,y214,y215,y216,y217,y218,y219,y220,y221,y222,y223,y224,y225,y226,y227,y228,y229,y230,y231,y232,y233,y234,y235,y236,y237,y238,y239,y240,y241,y242,y243,y244,y245,y246,y247,y248,y249,y250,y251,y252,y253,y254,y255,y256,y257,y258,y259,y260,y261,y262,y263,y264,y265,y266,y267,y268,y269,y270,y271,y272,y273,y274,y275,y276,y277,y278,y279,y280,y281,y282,y283,y284,y285,y286,y287,y288,y289,y290,x291],[]⟩ W) :
  Code.wp Tryz.prog (blockOf 4) (Exit.then I (noPanic Q0)) ⟨#[x0,.slice A' n' c',x2,x3,x4,.pointer (some ⟨w.heap.size+1,0,none⟩),x6,x7,x8,x9,x10,x11,x12,.int .i64 0,x14,x15,x16,x17,x18,x19,x20,x21,x22,x23,x24,x25,x26,x27,x28,x29,x30,x31,x32,x33,x34,x35,x36,x37,x38,x39,x40,x41,x42,x43,x44,x45,x46,x47,x48,x49,x50,x51,x52,x53,x54,x55,x56,x57,x58,x59,x60,x61,x62,x63,x64,x65,x66,x67,x68,x69,x70,x71,x72,x73,x74,x75,x76,x77,x78,x79,x80,x81,x82,x83,x84,x85,x86,x87,x88,x89,x90,x91,x92,x93,x94,x95,x96,x97,x98,x99,x100,x101,x102,x103,x104,x105,x106,x107,x108,x109,x110,x111,x112,x113,x114,x115,x116,x117,x118,x119,x120,x121,x122,x123,x124,x125,x126,x127,x128,x129,x130,x131,x132,x133,x134,x135,x136,x137,x138,x139,x140,x141,x142,x143,x144,x145,x146,x147,x148,x149,x150,x151,x152,x153,x154,x155,x156,x157,x158,x159,x160,x161,x162,x163,x164,x165,x166,x167,x168,x169,x170,x171,x172,x173,x174,x175,x176,x177,x178,x179,x180,x181,x182,x183,x184,x185,x186,x187,x188,x189,x190,x191,x192,x193,x194,x195,x196,x197,x198,x199,x200,x201,x202,x203,x204,x205,x206,x207,x208,x209,x210,x211,x212,x213,x214,x215,x216,x217,x218,x219,x220,x221,x222,x223,x224,x225,x226,x227,x228,x229,x230,x231,x232,x233,x234,x235,x236,x237,x238,x239,x240,x241,x242,x243,x244,x245,x246,x247,x248,x249,x250,x251,x252,x253,x254,x255,x256,x257,x258,x259,x260,x261,x262,x263,x264,x265,x266,x267,x268,x269,x270,x271,x272,x273,x274,x275,x276,x277,x278,x279,x280,x281,x282,x283,x284,x285,x286,x287,x288,x289,x290,x291],[]⟩ wS:=by
 have hn':=h2.n_le
 have HS0:=Lhd hS
 clear hS
 have HI:=Lhd hI
 clear hI
 generalize hne:es.length=ne at *
 have Hne:=Lhd hne
 clear hne
 have hne50:ne≤50:=by rw[← Hne.out];exact HS0.out.few
 conv=>arg 2;whnf
 go_wp2_with fail
 go_loopw [13] (fun i wr=>∃ (hue:Nat→Nat) (ss:List St) (A3:Option Addr) (c3:Nat) (A4:Option Addr) (c4:Nat) (A5:Option Addr) (c5:Nat),ss.length≤n'∧i=.int .i64 ss.length∧SWood F w wr hue es ss A0 c0 A1 c1 A2 c2 A3 c3 A4 c4 A5 c5) (fun i _=>n'-(intOf i).toNat)
 case atStart=>exact⟨_,[],_,_,_,_,_,_,Nat.zero_le _,rfl,HS0.out⟩
 case round =>
  clear HS0 hue
  generalize wr=w1 at *
  obtain⟨hue,ss,A3,c3,A4,c4,A5,c5,hle,rfl,hW⟩:=hrel
  have hfew:=hW.fews
  generalize hk:ss.length=k at *
  have Hk:=Lhd hk
  clear hk
  have HW:=Lhd hW
  clear hW
  by_cases hlt:k<n'∧k<50
  ·obtain⟨hlt,h50⟩:=hlt
   have hd1:decide ((k:Int)<(n':Int))=true:=by simp;omega
   have hd2:decide ((k:Int)<50)=true:=by simp;omega
   obtain⟨b,o,r,x,rfl,hbl,hFb,hx,hrl,hp,hc⟩:=(h2.below HW.out.low).get hlt
   obtain⟨o1,o2,o3,o4,Ac,nc,cc,Ax,nx,cx,Ab,nb,cb,Al,nl,cl,rfl,hcol,hkx,hkb,hkl⟩:=hp
   have hc0:=hc 0 _ rfl;have hc1:=hc 1 _ rfl;have hc2:=hc 2 _ rfl;have hc3:=hc 3 _ rfl;have hc4:=hc 4 _ rfl;have hc5:=hc 5 _ rfl;have hc6:=hc 6 _ rfl;have hc7:=hc 7 _ rfl
   rw[Nat.add_zero] at hc0
   clear hc hx
   go_upto_block 6 with (fail)
   obtain⟨w2,Hw2⟩:∃ w2,Hid (w2=(w1.alloc (.cells #[.int .i64 x.op,.string x.name,.string x.src,.int .i64 x.n,.slice Ac nc cc,.slice Ax nx cx,.slice Ab nb cb,.slice Al nl cl] 62)).alloc (.cells #[.int .i64 x.op,.string x.name,.string x.src,.int .i64 x.n,.slice Ac nc cc,.slice none 0 0,.slice none 0 0,.slice none 0 0] 67)):=⟨_,rfl⟩
   have hb2:Below w1.heap.size w1 w2:=by rw[Hw2.out];exact((Below.refl _ _).alloc (Nat.le_refl _) _).alloc (by simp) _
   have hz2:w2.heap.size=w1.heap.size+2:=by rw[Hw2.out];simp
   have hx2:IsBlk w2 w1.heap.size 62 #[.int .i64 x.op,.string x.name,.string x.src,.int .i64 x.n,.slice Ac nc cc,.slice Ax nx cx,.slice Ab nb cb,.slice Al nl cl]:=by rw[Hw2.out];exact(IsBlk.laid _ _ _).alloc _
   have he2:IsBlk w2 (w1.heap.size+1) 67 #[.int .i64 x.op,.string x.name,.string x.src,.int .i64 x.n,.slice Ac nc cc,.slice none 0 0,.slice none 0 0,.slice none 0 0]:=by rw[Hw2.out];exact laid_at (by simp) _ _
   have HE2:=Lhd (SKids.start hue w1 k x Ac nc cc he2)
   have hnx:=hkx.n_le
   have hnb:=hkb.n_le
   have hnl:=hkl.n_le
   have hbw:=HW.out.low.size
   have hbt:=HW.out.box.lt
   have Hx2:=Lhd (fun W (hW:But (fun b=>b=w1.heap.size+1) w2 W)=>hx2.as_was (hW.block _ hx2.lt (by omega)))
   have Ht2:=Lhd (fun W (hW:But (fun b=>b=w1.heap.size+1) w2 W)=>HW.out.box.as_was ((hW.block _ (Nat.lt_of_lt_of_le hbt hb2.size) (by omega)).trans (hb2.block _ hbt)))
   have Kp:=Lhd (fun W (hW:But (fun b=>b=w1.heap.size+1) w2 W)=>(Kept.of_below hb2).trans (Kept.of_but (F:=F) hW (fun b hb=>by have:=hF b hb;omega)))
   have HR2:=Lhd (fun W (hW:But (fun b=>b=w1.heap.size+1) w2 W) b (hb:b<w1.heap.size)=>(hW.block b (Nat.lt_of_lt_of_le hb hb2.size) (by omega)).trans (hb2.block b hb))
   have Hkx:=Lhd (hkx.below HW.out.low)
   have Hkb:=Lhd (hkb.below HW.out.low)
   have Hkl:=Lhd (hkl.below HW.out.low)
   have Hcol:=Lhd (hcol.below HW.out.low)
   rw[Hk.out,Hne.out] at Ht2
   rw[← Hw2.out]
   clear hx2 he2 hkx hkb hkl hcol hc0 hc1 hc2 hc3 hc4 hc5 hc6 hc7
   go_cut [16,17] from 143 to 189 (fun u16 u17 wr=>MidS w2 (w1.heap.size+1) hue w1 k x Ac nc cc u16 u17 wr)
   case first =>
    go_wp2_with fail
    go_loopw [16,17,18] (fun a9 a10 a11 wr=>KnotRel w2 (w1.heap.size+1) hue w1 k x Ac nc cc nx a9 a10 a11 wr) (fun _ _ i _=>nx-(intOf i).toNat)
    case atStart=>exact⟨0,[],_,_,Nat.zero_le _,by omega,Nat.le_refl _,rfl,rfl,rfl,HE2.out⟩
    case round =>
     obtain⟨q,args,Aa,ca,hq,hq4,hal,rfl,rfl,rfl,hE⟩:=hrel
     by_cases hlq:q<nx∧q<10
     ·obtain⟨hqn,hq4'⟩:=hlq
      refine Code.wp_mono noPanic_then (round4 F w w1 w2 wr hue es ss A0 A1 A2 A3 A4 A5 c0 c1 c2 c3 c4 c5 k ne x Ac Ax Ab Al nc cc nx cx nb cb nl cl q args Aa ca hF HW.out Hk.out Hne.out Hkx.out Hkb.out Hkl.out Hw2.out hE hqn hq4' hal ?_)
      intro y16 y17 y18 y19 y143 y144 y145 y146 y147 y148 y149 y150 y151 y152 y153 y154 y155 y156 y157 y158 y159 y160 y161 y162 y163 y164 y165 y166 y167 y168 y169 y170 y171 y172 y173 y174 y175 y176 y177 y178 y179 y180 y181 y182 y183 y184 y185 y186 y187 y188 y189 W hr1 hr2
      clear hE
      have Hr1:=Lhd hr1
      subst hr2
      clear hr1
      go_roundw
      case rel=>exact⟨_,_,_,_,_,_,_,_,_,_,_,_,_,_,_,_,_,_,_,_,_,_,_,_,_,_,_,_,_,_,_,_,_,_,_,_,_,_,_,_,_,_,_,_,_,_,_,_,_,_,_,Hr1.out,rfl⟩
      case measure=>simp[intOf];omega
     ·have HE:=Lhd hE
      obtain⟨hsum,htop,Hsum,Htop⟩:∃ hsum htop:Int,Hid (sumT (args.map tellE)=hsum)∧Hid (topT (args.map tellE)=htop):=⟨_,_,rfl,rfl⟩
      rw[Hsum.out,Htop.out]
      clear hE
      obtain⟨l0,l1,l2,l3,l4,l5,l6,l7,ll⟩:=knotBox (Hx2.out _ HE.out.but)
      go_wp2
      all_goals
       go_meet
       rw[← Hsum.out,← Htop.out]
       exact⟨args,Aa,ca,by omega,rfl,rfl,HE.out⟩
   case rest =>
    obtain⟨exprs,Ae,ce,hx10,rfl,rfl,hE⟩:=hcut
    have HE0:=Lhd hE
    clear hE HE2
    obtain⟨sE,tE,hseb,hteb,HsE,HtE⟩:∃ sE tE:Int,(0≤sE∧sE≤10000)∧(1≤tE∧tE≤1001)∧Hid (sumT (exprs.map tellE)=sE)∧Hid (topT (exprs.map tellE)=tE) :=
     ⟨_,_,sum_ten hx10,topT_bd (fun t ht=>by obtain⟨a,_,rfl⟩:=List.mem_map.1 ht;exact tellE_ok a),rfl,rfl⟩
    rw[HsE.out,HtE.out]
    go_wp2
    go_loopw [16,17,20] (fun a9 a10 a11 wr=>BodyRel w2 (w1.heap.size+1) hue w1 k x Ac nc cc exprs Ae ce sE tE a9 a10 a11 wr) (fun _ _ i _=>10-(intOf i).toNat)
    case atStart=>exact⟨0,[],[],_,_,_,_,by omega,Nat.le_refl _,congrArg (Value.int .i64) (by simp[sumT]),congrArg (Value.int .i64) (by simp[topT];omega),rfl,HE0.out⟩
    case round =>
     obtain⟨q,body,els,Bb,db,Bl,dl,hq10,hal,rfl,rfl,rfl,hE⟩:=hrel
     by_cases hlq:(q:Int)<wrap64 ((nb:Int)+(nl:Int))∧q<10
     ·obtain⟨hqN,hq10'⟩:=hlq
      by_cases hqb:q<nb
      ·refine Code.wp_mono noPanic_then (round5B F w w1 w2 wr hue es ss A0 A1 A2 A3 A4 A5 c0 c1 c2 c3 c4 c5 k ne x Ac Ax Ab Al nc cc nx cx nb cb nl cl q exprs body els Ae ce Bb db Bl dl sE tE hF HW.out Hk.out Hne.out h50 Hkx.out Hkb.out Hkl.out Hw2.out hE hq10' hqN hqb hal hseb hteb ?_)
       clear hqN hqb hE
       intro y16 y17 y20 y21 y22 y190 y191 y192 y193 y194 y195 y196 y197 y198 y199 y200 y201 y202 y203 y204 y205 y206 y207 y208 y209 y210 y211 y212 y213 y214 y215 y216 y217 y218 y219 y220 y221 y222 y223 y224 y225 y226 y227 y228 y229 y230 y231 y232 y233 y234 y235 y236 y237 y238 y239 y240 y241 y242 y243 y244 y245 y246 y247 y248 y249 y250 y251 y252 y253 y254 y255 y256 y257 y258 y259 y260 y261 y262 y263 y264 y265 y266 W hr1 hr2
       have Hr1:=Lhd hr1
       subst hr2
       clear hr1
       go_roundw
       case rel=>exact⟨_,_,_,_,_,_,_,_,_,_,_,_,_,_,_,_,_,_,_,_,_,_,_,_,_,_,_,_,_,_,_,_,_,_,_,_,_,_,_,_,_,_,_,_,_,_,_,_,_,_,_,_,_,_,_,_,_,_,_,_,_,_,_,_,_,_,_,_,_,_,_,_,_,_,_,_,_,_,_,_,_,_,Hr1.out,rfl⟩
       case measure=>simp[intOf];omega
      ·refine Code.wp_mono noPanic_then (round5L F w w1 w2 wr hue es ss A0 A1 A2 A3 A4 A5 c0 c1 c2 c3 c4 c5 k ne x Ac Ax Ab Al nc cc nx cx nb cb nl cl q exprs body els Ae ce Bb db Bl dl sE tE hF HW.out Hk.out Hne.out h50 Hkx.out Hkb.out Hkl.out Hw2.out hE hq10' hqN hqb hal hseb hteb ?_)
       clear hqN hqb hE
       intro y16 y17 y20 y21 y22 y190 y191 y192 y193 y194 y195 y196 y197 y198 y199 y200 y201 y202 y203 y204 y205 y206 y207 y208 y209 y210 y211 y212 y213 y214 y215 y216 y217 y218 y219 y220 y221 y222 y223 y224 y225 y226 y227 y228 y229 y230 y231 y232 y233 y234 y235 y236 y237 y238 y239 y240 y241 y242 y243 y244 y245 y246 y247 y248 y249 y250 y251 y252 y253 y254 y255 y256 y257 y258 y259 y260 y261 y262 y263 y264 y265 y266 W hr1 hr2
       have Hr1:=Lhd hr1
       subst hr2
       clear hr1
       go_roundw
       case rel=>exact⟨_,_,_,_,_,_,_,_,_,_,_,_,_,_,_,_,_,_,_,_,_,_,_,_,_,_,_,_,_,_,_,_,_,_,_,_,_,_,_,_,_,_,_,_,_,_,_,_,_,_,_,_,_,_,_,_,_,_,_,_,_,_,_,_,_,_,_,_,_,_,_,_,_,_,_,_,_,_,_,_,_,_,Hr1.out,rfl⟩
       case measure=>simp[intOf];omega
     ·obtain⟨N,hN⟩:∃ N:Int,wrap64 ((nb:Int)+(nl:Int))=N:=⟨_,rfl⟩
      rw[hN] at hlq
      have HE:=Lhd hE
      have hbb:=sum_tenS (args:=body) (by omega)
      have hbl':=sum_tenS (args:=els) (by omega)
      have htb:=topT_bd (l:=body.map tellS) (fun t ht=>by obtain⟨a,_,rfl⟩:=List.mem_map.1 ht;exact tellS_ok a)
      have htl':=topT_bd (l:=els.map tellS) (fun t ht=>by obtain⟨a,_,rfl⟩:=List.mem_map.1 ht;exact tellS_ok a)
      obtain⟨hsum,htop,hsb,htb',Hsum,Htop⟩:∃ hsum htop:Int,(0≤hsum∧hsum≤30000)∧(1≤htop∧htop≤1001)∧Hid (sE+sumT (body.map tellS)+sumT (els.map tellS)=hsum)∧Hid (max (max tE (topT (body.map tellS))) (topT (els.map tellS))=htop) :=
       ⟨_,_,by omega,by omega,rfl,rfl⟩
      clear hbb hbl' htb htl'
      obtain⟨hs0,hs1⟩:=hsb
      obtain⟨ht0,ht1⟩:=htb'
      rw[Hsum.out,Htop.out]
      generalize hmb:body.length=mB at *
      have Hmb:=Lhd hmb
      generalize hml:els.length=mL at *
      have Hml:=Lhd hml
      clear hmb hml hE
      obtain⟨l0,l1,l2,l3,l4,l5,l6,l7,ll⟩:=knotBox (Hx2.out _ HE.out.but)
      obtain⟨t0,t1,t2,t3,t4,t5,tl⟩:=treeBox (Ht2.out _ HE.out.but)
      have hbl:=HE.out.below hb2 (by omega)
      obtain⟨te1,te2,Hte⟩:∃ te1 te2,Hid (tellS (.mk x.op x.name x.src x.n x.cols exprs body els)=(te1,te2)):=⟨_,_,rfl⟩
      have htl:=fun W=>told2_any (1+hsum) htop W
      have hte:=HE.out.tell (by omega)
      rw[HsE.out,HtE.out,Hsum.out,Htop.out,Hte.out] at hte
      rw[hte] at htl
      have Htl:=Lhd htl
      have hok:=tellS_ok (.mk x.op x.name x.src x.n x.cols exprs body els)
      rw[Hte.out] at hok
      obtain⟨k1,k2,k3,k4⟩:=hok
      clear htl hte
      have hPS:=HE.out.done hbl (by omega) Hcol.out (fun b hb=>(HW.out.old b (hF b hb)).1 hb) o1 o2 o3 o4
      obtain⟨y0,y1,y2,y3,y4,y5,y6,y7,yl⟩:=knotBox HE.out.box
      generalize hlE:exprs.length=mE at *
      rw[Hmb.out,Hml.out] at hPS
      rw[Hmb.out] at y6
      rw[Hml.out] at y7
      have HPS:=Lhd hPS
      have HB:=Lhd hbl
      have HW':=Lhd (HW.out.later hbl)
      clear hPS hbl hlE
      obtain⟨⟨rows,hr0,hrP⟩,hr1,hr2⟩:=HW'.out.tri
      rw[Hk.out] at hr0 hr1 hr2
      have HrP:=Lhd hrP
      have Hr0:=Lhd hr0
      have Hr1:=Lhd hr1
      have Hr2:=Lhd hr2
      have hbox:=HW'.out.box
      rw[Hk.out] at hbox
      have Hbox:=Lhd hbox
      have Hhb:=Lhd HW'.out.hb
      have hm1:k+1≤maxLen:=by unfold maxLen;omega
      have hm2:(k+1)*144≤140737488355328:=by omega
      have hm2':(k+1)*8≤140737488355328:=by omega
      have hbz:=HW'.out.low.size
      clear hrP hr0 hr1 hr2 hbox
      obtain⟨h0,Hh0⟩:∃ h0,Hid (hueNew hue w1 0=h0):=⟨_,rfl⟩
      rw[Hh0.out] at Hr0 Hr1 Hr2 Hhb HPS HrP HW'
      have hown1:=Hr0.out.own.alloc (.cells #[.int .i64 x.op,.string x.name,.string x.src,.int .i64 x.n,.slice Ac nc cc,.slice Ae mE ce,.slice Bb mB db,.slice Bl mL dl] 67)
      have hnew1:=row_new (w:=wr) (T:=67) [.int .i64 x.op,.string x.name,.string x.src,.int .i64 x.n,.slice Ac nc cc,.slice Ae mE ce,.slice Bb mB db,.slice Bl mL dl] 8 rfl rfl
      have hbtl:=Hbox.out.lt
      have hne2:h0 (w.heap.size+1)≠2:=by rw[Hhb.out];omega
      have Hne2:=Lhd hne2
      clear hne2
      go_wp2_with (first
      | (go_at_call 17;refine(Htl.out _).mono ?_;rintro e w' ⟨rfl,rfl⟩)
      | (at_builtin;(refine wpList_app (s:=.tmp 274) (x:=.tmp 276) rfl rfl tyStm rfl hown1 rfl hnew1 (by simp) (by simp[Value.oneCell']) hm1 hm2 ?_ ?_;(simp;omega);intro B0 d0 W2 own2 but2 fr2);(have zz2:=but2.size;simp at zz2;have G1:=Lhd (HueRow.grow (bt:=w.heap.size+1) (j:=3) (u:=.slice B0 (k+1) d0) Hr0.out own2 rfl (by simp) but2 fr2 hbtl Hne2.out);have X1:=Lhd (box_grown (j:=3) Hbox.out Hr0.out.hue Hne2.out but2 (.slice B0 (k+1) d0));obtain⟨x10,x11,x12,x13,x14,x15,x1l⟩:=treeBox X1.out.1;have x1f:=X1.out.1.frozen;have Hq1:=Lhd (hue_kept (i:=2) Hhb.out hbtl);have HR1:=Lhd (Hr1.out.keep G1.out.2 (hue_apart Hhb.out (by omega) (by omega)) (hueNew_old (i:=2)));have hown2:=HR1.out.own.alloc (.cells #[.int .i64 te1] 3);have hnew2:=row_new (w:=W2.setCell ⟨w.heap.size+1,3,none⟩ (.slice B0 (k+1) d0)) (T:=3) (g:=W2.heap.size) [.int .i64 te1] 1 (by simp[World.setCell]) rfl))
      | (at_builtin;(refine wpList_app (s:=.tmp 280) (x:=.tmp 282) rfl rfl tyNum rfl hown2 rfl hnew2 (by simp) (by simp[Value.oneCell']) hm1 hm2' ?_ ?_;(simp[World.setCell];omega);intro B1 d1 W5 own5 but5 fr5);(have zz5:=but5.size;simp[World.setCell] at zz5;have hbtl3:w.heap.size+1<(W2.setCell ⟨w.heap.size+1,3,none⟩ (.slice B0 (k+1) d0)).heap.size:=(by simp[World.setCell];omega);have hne3:=ne_of_one Hq1.out 3 (by omega);have G2:=Lhd (HueRow.grow (bt:=w.heap.size+1) (j:=4) (u:=.slice B1 (k+1) d1) HR1.out own5 rfl (by simp) but5 fr5 hbtl3 hne3);have X2:=Lhd (box_grown (j:=4) X1.out.2 HR1.out.hue hne3 but5 (.slice B1 (k+1) d1));obtain⟨x20,x21,x22,x23,x24,x25,x2l⟩:=treeBox X2.out.1;have x2f:=X2.out.1.frozen;have Hq2:=Lhd (hue_kept (i:=3) Hq1.out hbtl3);have HR2':=Lhd ((Hr2.out.keep G1.out.2 (hue_apart Hhb.out (by omega) (by omega)) (hueNew_old (i:=2))).keep G2.out.2 (hue_apart Hq1.out (by omega) (by omega)) (hueNew_old (i:=3)));have hown3:=HR2'.out.own.alloc (.cells #[.int .i64 te2] 3);have hnew3:=row_new (w:=W5.setCell ⟨w.heap.size+1,4,none⟩ (.slice B1 (k+1) d1)) (T:=3) (g:=W5.heap.size) [.int .i64 te2] 1 (by simp[World.setCell]) rfl))
      | (at_builtin;(refine wpList_app (s:=.tmp 286) (x:=.tmp 288) rfl rfl tyNum rfl hown3 rfl hnew3 (by simp) (by simp[Value.oneCell']) hm1 hm2' ?_ ?_;(simp[World.setCell];omega);intro B2 d2 W8 own8 but8 fr8);(have hbtl6:w.heap.size+1<(W5.setCell ⟨w.heap.size+1,4,none⟩ (.slice B1 (k+1) d1)).heap.size:=(by simp[World.setCell];omega);have hne4:=ne_of_one Hq2.out 4 (by omega);have G3:=Lhd (HueRow.grow (bt:=w.heap.size+1) (j:=5) (u:=.slice B2 (k+1) d2) HR2'.out own8 rfl (by simp) but8 fr8 hbtl6 hne4);have X3:=Lhd (box_grown (j:=5) X2.out.2 HR2'.out.hue hne4 but8 (.slice B2 (k+1) d2));obtain⟨x30,x31,x32,x33,x34,x35,x3l⟩:=treeBox X3.out.1;have x3f:=X3.out.1.frozen)))
      all_goals
       have hl:(ss++[St.mk x.op x.name x.src x.n x.cols exprs body els]).length=k+1:=by rw[List.length_append,Hk.out];rfl
       exact⟨⟨_,ss++[.mk x.op x.name x.src x.n x.cols exprs body els],B0,d0,B1,d1,B2,d2,by rw[hl];omega,by rw[hl];go_num,SWood.add HW'.out Hk.out h50 Hte.out HrP.out HPS.out G1.out.2 G2.out.2 G3.out.2 G1.out.1 G2.out.1 G3.out.1 X3.out.2⟩,by simp[intOf];omega⟩
  ·go_wp2
   all_goals
    exact HI.out _ _ _ _ _ _ _ _ _ _ _ _ _ _ _ _ _ _ _ _ _ _ _ _ _ _ _ _ _ _ _ _ _ _ _ _ _ _ _ _ _ _ _ _ _ _ _ _ _ _ _ _ _ _ _ _ _ _ _ _ _ _ _ _ _ _ _ _ _ _ _ _ _ _ _ _ _ _ _ _ _ _ _ _ _ _ _ _ _ _ _ _ _ _ _ _ _ _ _ _ _ _ _ _ _ _ _ _ _ _ _ _ _ _ _ _ _ _ _ _ _ _ _ _ _ _ _ _ _ _ _ _ _ _ _ _ _ _ _ _ _ _ _ _ _ _ _ _ _ _ _ _ _ _ _ _ _ _ _ _ _ _ _ _ _ _ _ _ _ _ _ _ _ _ _ _ _ _ _ _ _ _ _ _ ⟨_,_,_,_,_,_,_,_,_,_,_,_,_,_,_,HW.out⟩
theorem build_any (F:Nat→Prop) (A A':Option Addr) (n c n' c':Nat) (xs:List Lf) (ys:List Kn) (w:World) (h1:LsAt F w 6 (LfAt F w) A n c xs) (h2:LsAt F w 8 (KnAt F w) A' n' c' ys) (hF:∀ k,F k→k<w.heap.size) :
  Calls Tryz.prog 7 #[.slice A n c,.slice A' n' c'] w (Forest F w):=by
 have H0:=Lhd (EWood.start F w)
 have H1:=Lhd h1
 have H2:=Lhd h2
 clear h1 h2
 go_enter Tryz.func7,Tryz.ntmps7
 go_upto_block 0 with (fail)
 go_cut [] (fun wr=>EDone F w wr)
 case first =>
  refine Code.wp_mono noPanic_then (phE F A n c xs w _ H1.out hF H0.out ?_)
  intro y6 y7 y8 y9 y10 y11 y12 y24 y25 y26 y27 y28 y29 y30 y31 y32 y33 y34 y35 y36 y37 y38 y39 y40 y41 y42 y43 y44 y45 y46 y47 y48 y49 y50 y51 y52 y53 y54 y55 y56 y57 y58 y59 y60 y61 y62 y63 y64 y65 y66 y67 y68 y69 y70 y71 y72 y73 y74 y75 y76 y77 y78 y79 y80 y81 y82 y83 y84 y85 y86 y87 y88 y89 y90 y91 y92 y93 y94 y95 y96 y97 y98 y99 y100 y101 y102 y103 y104 y105 y106 y107 y108 y109 y110 y111 y112 y113 y114 y115 y116 y117 W hr
  have Hr:=Lhd hr
  clear hr
  go_step
  go_meet
  exact Hr.out
 case rest =>
  obtain⟨hue,es,A0,c0,A1,c1,A2,c2,hS⟩:=hcut
  have HS:=Lhd hS
  clear hS H0 H1
  go_upto_block 4 with (fail)
  go_cut [] (fun wr=>SDone F w wr)
  case first =>
   refine Code.wp_mono noPanic_then (phS F A' n' c' ys w _ hue es A0 c0 A1 c1 A2 c2 H2.out hF HS.out ?_)
   intro y13 y14 y15 y16 y17 y18 y19 y20 y21 y22 y118 y119 y120 y121 y122 y123 y124 y125 y126 y127 y128 y129 y130 y131 y132 y133 y134 y135 y136 y137 y138 y139 y140 y141 y142 y143 y144 y145 y146 y147 y148 y149 y150 y151 y152 y153 y154 y155 y156 y157 y158 y159 y160 y161 y162 y163 y164 y165 y166 y167 y168 y169 y170 y171 y172 y173 y174 y175 y176 y177 y178 y179 y180 y181 y182 y183 y184 y185 y186 y187 y188 y189 y190 y191 y192 y193 y194 y195 y196 y197 y198 y199 y200 y201 y202 y203 y204 y205 y206 y207 y208 y209 y210 y211 y212 y213 y214 y215 y216 y217 y218 y219 y220 y221 y222 y223 y224 y225 y226 y227 y228 y229 y230 y231 y232 y233 y234 y235 y236 y237 y238 y239 y240 y241 y242 y243 y244 y245 y246 y247 y248 y249 y250 y251 y252 y253 y254 y255 y256 y257 y258 y259 y260 y261 y262 y263 y264 y265 y266 y267 y268 y269 y270 y271 y272 y273 y274 y275 y276 y277 y278 y279 y280 y281 y282 y283 y284 y285 y286 y287 y288 y289 y290 W hr
   have Hr:=Lhd hr
   clear hr
   go_step
   go_meet
   exact Hr.out
  case rest =>
   clear HS H2
   obtain⟨hue,es,ss,A0,c0,A1,c1,A2,c2,A3,c3,A4,c4,A5,c5,hW⟩:=hcut
   generalize wc=w1 at *
   have HW:=Lhd hW
   clear hW
   obtain⟨q0,q1,q2,q3,q4,q5,ql⟩:=treeBox HW.out.box
   have hend:=HW.out.end_ (but_six w1 w.heap.size (.slice A0 es.length c0) (.slice A1 es.length c1) (.slice A2 es.length c2) (.slice A3 ss.length c3) (.slice A4 ss.length c4) (.slice A5 ss.length c5))
   have Hend:=Lhd hend
   obtain⟨r0,r1,r2,r3,r4,r5,rl⟩:=treeBox HW.out.res
   have rf:=HW.out.res.frozen
   clear hend
   go_wp2
   refine bodyPost_ret (v:=.agg #[.slice A0 es.length c0,.slice A1 es.length c1,.slice A2 es.length c2,.slice A3 ss.length c3,.slice A4 ss.length c4,.slice A5 ss.length c5]) (by simp[results,Tryz.results7,go_sem,r0,r1,r2,r3,r4,r5]) rfl ⟨_,es,ss,rfl,Hend.out.1,Hend.out.2⟩
end Go.Proofs.YtdgapmnojmhllaaGreatDoor
namespace Go.Afx
open Go.RowKit
def startsAt (n:Nat):Code→Bool
 | .region i _ _=>i==n
 | .seq a _=>startsAt n a
 | .block _ c=>startsAt n c
 | .scope c=>startsAt n c
 | .loop c=>startsAt n c
 | _=>false
def findLoop (n:Nat):Code→Option Code
 | .loop c=>if startsAt n c then some c else findLoop n c
 | .seq a b=>match findLoop n a with
  | some c=>some c
  | none=>findLoop n b
 | .block _ c=>findLoop n c
 | .scope c=>findLoop n c
 | .cond _ a b=>match findLoop n a with
  | some c=>some c
  | none=>findLoop n b
 | _=>none
def findRegion (n:Nat):Code→Option Code
 | .region i ops d=>if i==n then some (.region i ops d) else none
 | .loop c=>findRegion n c
 | .seq a b=>match findRegion n a with
  | some c=>some c
  | none=>findRegion n b
 | .block _ c=>findRegion n c
 | .scope c=>findRegion n c
 | .cond _ a b=>match findRegion n a with
  | some c=>some c
  | none=>findRegion n b
 | _=>none
def noPanic (Q:Exit→Act→World→Prop):Exit→Act→World→Prop
 | .panic _,_,_=>False
 | e,a,w=>Q e a w
theorem noPanic_then {I:Act→World→Prop} {Q:Exit→Act→World→Prop} (e:Exit) (a:Act) (w:World) (h:Exit.then I (noPanic Q) e a w):Exit.then I Q e a w:=by
 cases e<;>first|exact h|exact False.elim h
section
variable {P:Program} {md:Region.Mode} {ops:Array Oper} {Q:Exit→Act→World→Prop} {S:World→Prop}
end
end Go.Afx
namespace Go.Afx
open Go.RowKit
def digs (n:Nat):List UInt8:=if _h:n=0 then [] else digs (n / 10)++[UInt8.ofNat (48+n % 10)]
termination_by n
decreasing_by omega
theorem digs_zero:digs 0=[]:=by rw[digs];rfl
theorem digs_pos {n:Nat} (h:0<n):digs n=digs (n / 10)++[UInt8.ofNat (48+n % 10)]:=by
 rw[digs,dif_neg (by omega)]
theorem digs_len (k:Nat):∀ n,n<10 ^ k→(digs n).length≤k:=by
  induction k with
  | zero => intro n h;obtain rfl:n=0:=by simpa using h
            rw[digs_zero];exact Nat.le_refl _
  | succ k ih =>
    intro n h
    rcases Nat.eq_zero_or_pos n with rfl|hp
    · rw[digs_zero];exact Nat.zero_le _
    · rw[digs_pos hp,List.length_append]
      have:=ih (n / 10) (by rw[Nat.pow_succ] at h;omega)
      simp only[List.length_cons,List.length_nil]
      omega
def decS (n:Int):List UInt8:=if n=0 then [48] else digs n.toNat
theorem decS_len {n : Int} (h:okI n):(decS n).length≤19:=by
  unfold decS okI at *
  split
  · decide
  · exact digs_len 19 _ (by have:(10:Nat) ^ 19=10000000000000000000:=by decide
                            omega)
def dbl (l:List UInt8):List UInt8:=l.flatMap fun c=>if c=39 then [39,39] else [c]
theorem dbl_len (l:List UInt8):(dbl l).length≤2*l.length:=by
 induction l with
 | nil=>decide
 | cons a r ih =>
  unfold dbl at *
  rw[List.flatMap_cons,List.length_append,List.length_cons]
  split<;>simp only[List.length_cons,List.length_nil]<;>omega
def quoteS (s:ByteArray):List UInt8:=[39]++dbl s.data.toList++[39]
def sgnT:List (List UInt8):=[[43],[45],[42],[47],[37],[61],[33,61],[60],[60,61],[62,61],[62],[97,110,100],[111,114],[110,111,116,32],[45],[99,111,117,110,116],[115,117,109],[109,105,110],[109,97,120]]
def lvlT:List Int:=[5,5,6,6,6,4,4,4,4,4,4,2,1,3,7,8,8,8,8]
def sgnL (op:Int):List UInt8:=if op<6 then [] else sgnT.getD (op-6).toNat []
def lvlZ (op:Int):Int:=if op<6 then 8 else lvlT.getD (op-6).toNat 8
theorem op_cases {op:Int} (h1:1≤op) (h2:op≤24):op=1∨op=2∨op=3∨op=4∨op=5∨op=6∨op=7∨op=8∨op=9∨op=10∨op=11∨op=12∨op=13∨op=14∨op=15∨op=16∨op=17∨op=18∨op=19∨op=20∨op=21∨op=22∨op=23∨op=24:=by omega
theorem sgnL_len {op:Int} (h1:1≤op) (h2:op≤24):(sgnL op).length≤5:=by
 rcases op_cases h1 h2 with rfl|rfl|rfl|rfl|rfl|rfl|rfl|rfl|rfl|rfl|rfl|rfl|rfl|rfl|rfl|rfl|rfl|rfl|rfl|rfl|rfl|rfl|rfl|rfl<;>decide
theorem lvlZ_bd {op:Int} (h1:1≤op) (h2:op≤24):1≤lvlZ op∧lvlZ op≤8:=by
 rcases op_cases h1 h2 with rfl|rfl|rfl|rfl|rfl|rfl|rfl|rfl|rfl|rfl|rfl|rfl|rfl|rfl|rfl|rfl|rfl|rfl|rfl|rfl|rfl|rfl|rfl|rfl<;>decide
def opnd (least op:Int) (t:List UInt8):List UInt8:=if lvlZ op<least then [40]++t++[41] else t
def whereT (op n:Int) (t:List UInt8):List UInt8:=if op=3∧n=1 then [] else [32,119,104,101,114,101,32]++t
def rowsT (name src:ByteArray) (op n:Int) (t:List UInt8):List UInt8:=name.data.toList++[32,105,110,32]++src.data.toList++whereT op n t
def trueL:List UInt8:=[116,114,117,101]
def falseL:List UInt8:=[102,97,108,115,101]
def txtE:Nat→Ex→List UInt8
 | 0,_=>[]
 | d+1,e =>
  if e.op=1 then decS e.n
  else if e.op=2 then quoteS e.s
  else if e.op=3 then (if e.n=1 then trueL else falseL)
  else if e.op=4 then e.name.data.toList
  else if e.op=5 then e.name.data.toList++[46]++e.s.data.toList
  else match e.args with
   | []=>[]
   | a::r =>
    if e.op=19∨e.op=20 then sgnL e.op++opnd (lvlZ e.op) a.op (txtE d a)
    else if 21≤e.op then sgnL e.op++[40]++rowsT e.name e.src a.op a.n (txtE d a)++(if e.op=21 then [] else [58,32]++(match r with|[]=>[]|b::_=>txtE d b))++[41]
    else opnd (lvlZ e.op+if lvlZ e.op=4 then 1 else 0) a.op (txtE d a)++([32]++sgnL e.op++[32])++(match r with|[]=>[]|b::_=>opnd (lvlZ e.op+1) b.op (txtE d b))
def nlE:Nat→Ex→Bool
 | 0,_=>false
 | d+1,e=>(decide (e.op=2)&&e.s.data.toList.any (·==10))||e.args.any (nlE d)
theorem built_parts {d:Nat} {e:Ex} (h:builtE (d+1) e=true):arityB e.op=e.args.length∧fieldsR e.op e.n e.s e.name e.src=true∧∀ x∈e.args,builtE d x=true:=by
 rw[builtE] at h
 unfold headE fieldsE at h
 simp only[Bool.and_eq_true,decide_eq_true_eq,List.all_eq_true] at h
 exact⟨h.1.1,h.1.2,h.2⟩
theorem arity_op {op:Int} {n:Nat} (h:arityB op=(n:Int)):1≤op∧op≤24:=by
 unfold arityB at h
 split at h
 ·omega
 ·split at h
  ·omega
  ·split at h
   ·omega
   ·split at h
    ·omega
    ·split at h<;>omega
theorem built_op {d:Nat} {e:Ex} (h:builtE d e=true):1≤e.op∧e.op≤24:=by
 cases d with
 | zero=>cases h
 | succ d=>exact arity_op (built_parts h).1
theorem named_len {s:ByteArray} (h:freeB s=true):s.data.toList.length≤16:=by
 unfold freeB namedB at h
 revert h
 generalize s.data.toList=l
 cases l with
 | nil=>intro _;decide
 | cons a r =>
  intro h
  simp only[Bool.and_eq_true,decide_eq_true_eq] at h
  simp only[List.length_cons]
  omega
theorem opnd_len (least op:Int) (t:List UInt8):(opnd least op t).length≤t.length+2:=by
 unfold opnd
 split
 ·simp only[List.length_append,List.length_cons,List.length_nil];omega
 ·omega
theorem whereT_len (op n:Int) (t:List UInt8):(whereT op n t).length≤t.length+7:=by
 unfold whereT
 split
 ·simp
 ·simp only[List.length_append,List.length_cons,List.length_nil];omega
end Go.Afx

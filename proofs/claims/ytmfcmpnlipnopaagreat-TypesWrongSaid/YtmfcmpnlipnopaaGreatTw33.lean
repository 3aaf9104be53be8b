/- Parts of this proof, one behind the other: RefT7, RefT8, RefM, RefN. -/
import Derived.Test.YtmfcmpnlipnopaaGreatTw30
import Derived.Test.YtmfcmpnlipnopaaGreatTw32
import Derived.Deep.DeepCutAuto
import Derived.Deep.CutBlock
import Derived.Outline
import Derived.Test.YtmfcmpnlipnopaaGreatTw24
import Derived.Test.YtmfcmpnlipnopaaGreatTw1
import Derived.Deep.RegionHeld3
set_option maxRecDepth 1000000
set_option maxHeartbeats 40000000
namespace Go.Proofs.YtmfcmpnlipnopaaGreat
open Go.RowKit Go.Afx
def MidS (w2:World) (g:Nat) (hue:Nat→Nat) (w1:World) (k:Nat) (x:Kn) (Ac:Option Addr) (nc cc:Nat) (u16 u17:Value) (wr:World):Prop :=
 ∃ (exprs:List Ex) (Ae:Option Addr) (ce:Nat),exprs.length≤10∧u16=.int .i64 (1+sumT (exprs.map tellE))∧u17=.int .i64 (topT (exprs.map tellE))∧SKids w2 wr g hue w1 k x Ac nc cc exprs [] [] Ae ce none 0 none 0
def SDone (F:Nat→Prop) (w wr:World):Prop:=∃ hue es ss A0 c0 A1 c1 A2 c2 A3 c3 A4 c4 A5 c5,SWood F w wr hue es ss A0 c0 A1 c1 A2 c2 A3 c3 A4 c4 A5 c5
theorem phS (F:Nat→Prop) (A':Option Addr) (n' c':Nat) (ys:List Kn) (w wS:World) (hue:Nat→Nat) (es:List Ex) (A0:Option Addr) (c0:Nat) (A1:Option Addr) (c1:Nat) (A2:Option Addr) (c2:Nat) {x0 x2 x3 x4 x6 x7 x8 x9 x10 x11 x12 x14 x15 x16 x17 x18 x19 x20 x21 x22 x23 x24 x25 x26 x27 x28 x29 x30 x31 x32 x33 x34 x35 x36 x37 x38 x39 x40 x41 x42 x43 x44 x45 x46 x47 x48 x49 x50 x51 x52 x53 x54 x55 x56 x57 x58 x59 x60 x61 x62 x63 x64 x65 x66 x67 x68 x69 x70 x71 x72 x73 x74 x75 x76 x77 x78 x79 x80 x81 x82 x83 x84 x85 x86 x87 x88 x89 x90 x91 x92 x93 x94 x95 x96 x97 x98 x99 x100 x101 x102 x103 x104 x105 x106 x107 x108 x109 x110 x111 x112 x113 x114 x115 x116 x117 x118 x119 x120 x121 x122 x123 x124 x125 x126 x127 x128 x129 x130 x131 x132 x133 x134 x135 x136 x137 x138 x139 x140 x141 x142 x143 x144 x145 x146 x147 x148 x149 x150 x151 x152 x153 x154 x155 x156 x157 x158 x159 x160 x161 x162 x163 x164 x165 x166 x167 x168 x169 x170 x171 x172 x173 x174 x175 x176 x177 x178 x179 x180 x181 x182 x183 x184 x185 x186 x187 x188 x189 x190 x191 x192 x193 x194 x195 x196 x197 x198 x199 x200 x201 x202 x203 x204 x205 x206 x207 x208 x209 x210 x211 x212 x213 x214 x215 x216 x217 x218 x219 x220 x221 x222 x223 x224 x225 x226 x227 x228 x229 x230 x231 x232 x233 x234 x235 x236 x237 x238 x239 x240 x241 x242 x243 x244 x245 x246 x247 x248 x249 x250 x251 x252 x253 x254 x255 x256 x257 x258 x259 x260 x261 x262 x263 x264 x265 x266 x267 x268 x269 x270 x271 x272 x273 x274 x275 x276 x277 x278 x279 x280 x281 x282 x283 x284 x285 x286 x287 x288 x289 x290 x291:Value} {I:Act→World→Prop} {Q0:Exit→Act→World→Prop} (h2:LsAt F w 8 (KnAt F w) A' n' c' ys) (hF:∀ k,F k→k<w.heap.size)
  (hS:SWood F w wS hue es [] A0 c0 A1 c1 A2 c2 none 0 none 0 none 0) (hI:∀ (y13 y14 y15 y16 y17 y18 y19 y20 y21 y22 y118 y119 y120 y121 y122 y123 y124 y125 y126 y127 y128 y129 y130 y131 y132 y133 y134 y135 y136 y137 y138 y139 y140 y141 y142 y143 y144 y145 y146 y147 y148 y149 y150 y151 y152 y153 y154 y155 y156 y157 y158 y159 y160 y161 y162 y163 y164 y165 y166 y167 y168 y169 y170 y171 y172 y173 y174 y175 y176 y177 y178 y179 y180 y181 y182 y183 y184 y185 y186 y187 y188 y189 y190 y191 y192 y193 y194 y195 y196 y197 y198 y199 y200 y201 y202 y203 y204 y205 y206 y207 y208 y209 y210 y211 y212 y213 y214 y215 y216 y217 y218 y219 y220 y221 y222 y223 y224 y225 y226 y227 y228 y229 y230 y231 y232 y233 y234 y235 y236 y237 y238 y239 y240 y241 y242 y243 y244 y245 y246 y247 y248 y249 y250 y251 y252 y253 y254 y255 y256 y257 y258 y259 y260 y261 y262 y263 y264 y265 y266 y267 y268 y269 y270 y271 y272 y273 y274 y275 y276 y277 y278 y279 y280 y281 y282 y283 y284 y285 y286 y287 y288 y289 y290:Value) (W:World),SDone F w W→I ⟨#[x0,.slice A' n' c',x2,x3,x4,.pointer (some ⟨w.heap.size+1,0,none⟩),x6,x7,x8,x9,x10,x11,x12,y13,y14,y15,y16,y17,y18,y19,y20,y21,y22,x23,x24,x25,x26,x27,x28,x29,x30,x31,x32,x33,x34,x35,x36,x37,x38,x39,x40,x41,x42,x43,x44,x45,x46,x47,x48,x49,x50,x51,x52,x53,x54,x55,x56,x57,x58,x59,x60,x61,x62,x63,x64,x65,x66,x67,x68,x69,x70,x71,x72,x73,x74,x75,x76,x77,x78,x79,x80,x81,x82,x83,x84,x85,x86,x87,x88,x89,x90,x91,x92,x93,x94,x95,x96,x97,x98,x99,x100,x101,x102,x103,x104,x105,x106,x107,x108,x109,x110,x111,x112,x113,x114,x115,x116,x117,y118,y119,y120,y121,y122,y123,y124,y125,y126,y127,y128,y129,y130,y131,y132,y133,y134,y135,y136,y137,y138,y139,y140,y141,y142,y143,y144,y145,y146,y147,y148,y149,y150,y151,y152,y153,y154,y155,y156,y157,y158,y159,y160,y161,y162,y163,y164,y165,y166,y167,y168,y169,y170,y171,y172,y173,y174,y175,y176,y177,y178,y179,y180,y181,y182,y183,y184,y185,y186,y187,y188,y189,y190,y191,y192,y193,y194,y195,y196,y197,y198,y199,y200,y201,y202,y203,y204,y205,y206,y207,y208,y209,y210,y211,y212,y213,y214,y215,y216,y217,y218,y219,y220,y221,y222,y223,y224,y225,y226,y227,y228,y229,y230,y231,y232,y233,y234,y235,y236,y237,y238,y239,y240,y241,y242,y243,y244,y245,y246,y247,y248,y249,y250,y251,y252,y253,y254,y255,y256,y257,y258,y259,y260,y261,y262,y263,y264,y265,y266,y267,y268,y269,y270,y271,y272,y273,y274,y275,y276,y277,y278,y279,y280,y281,y282,y283,y284,y285,y286,y287,y288,y289,y290,x291],[]⟩ W) :
  Code.wp Tryz.prog (blockOf 4) (Exit.then I (noPanic Q0)) ⟨#[x0,.slice A' n' c',x2,x3,x4,.pointer (some ⟨w.heap.size+1,0,none⟩),x6,x7,x8,x9,x10,x11,x12,.int .i64 0,x14,x15,x16,x17,x18,x19,x20,x21,x22,x23,x24,x25,x26,x27,x28,x29,x30,x31,x32,x33,x34,x35,x36,x37,x38,x39,x40,x41,x42,x43,x44,x45,x46,x47,x48,x49,x50,x51,x52,x53,x54,x55,x56,x57,x58,x59,x60,x61,x62,x63,x64,x65,x66,x67,x68,x69,x70,x71,x72,x73,x74,x75,x76,x77,x78,x79,x80,x81,x82,x83,x84,x85,x86,x87,x88,x89,x90,x91,x92,x93,x94,x95,x96,x97,x98,x99,x100,x101,x102,x103,x104,x105,x106,x107,x108,x109,x110,x111,x112,x113,x114,x115,x116,x117,x118,x119,x120,x121,x122,x123,x124,x125,x126,x127,x128,x129,x130,x131,x132,x133,x134,x135,x136,x137,x138,x139,x140,x141,x142,x143,x144,x145,x146,x147,x148,x149,x150,x151,x152,x153,x154,x155,x156,x157,x158,x159,x160,x161,x162,x163,x164,x165,x166,x167,x168,x169,x170,x171,x172,x173,x174,x175,x176,x177,x178,x179,x180,x181,x182,x183,x184,x185,x186,x187,x188,x189,x190,x191,x192,x193,x194,x195,x196,x197,x198,x199,x200,x201,x202,x203,x204,x205,x206,x207,x208,x209,x210,x211,x212,x213,x214,x215,x216,x217,x218,x219,x220,x221,x222,x223,x224,x225,x226,x227,x228,x229,x230,x231,x232,x233,x234,x235,x236,x237,x238,x239,x240,x241,x242,x243,x244,x245,x246,x247,x248,x249,x250,x251,x252,x253,x254,x255,x256,x257,x258,x259,x260,x261,x262,x263,x264,x265,x266,x267,x268,x269,x270,x271,x272,x273,x274,x275,x276,x277,x278,x279,x280,x281,x282,x283,x284,x285,x286,x287,x288,x289,x290,x291],[]⟩ wS:=by
 have hn':=h2.n_le
 have HS0:=Lhd hS
 clear hS
 have HI:=Lhd hI
 clear hI
 generalize hne:es.length=ne at *
 have Hne:=Lhd hne
 clear hne
 have hne50:ne≤50:=by rw[← Hne.out];exact HS0.out.few
 conv=>arg 2;whnf
 go_wp2_with fail
 go_loopw [13] (fun i wr=>∃ (hue:Nat→Nat) (ss:List St) (A3:Option Addr) (c3:Nat) (A4:Option Addr) (c4:Nat) (A5:Option Addr) (c5:Nat),ss.length≤n'∧i=.int .i64 ss.length∧SWood F w wr hue es ss A0 c0 A1 c1 A2 c2 A3 c3 A4 c4 A5 c5) (fun i _=>n'-(intOf i).toNat)
 case atStart=>exact⟨_,[],_,_,_,_,_,_,Nat.zero_le _,rfl,HS0.out⟩
 case round =>
  clear HS0 hue
  generalize wr=w1 at *
  obtain⟨hue,ss,A3,c3,A4,c4,A5,c5,hle,rfl,hW⟩:=hrel
  have hfew:=hW.fews
  generalize hk:ss.length=k at *
  have Hk:=Lhd hk
  clear hk
  have HW:=Lhd hW
  clear hW
  by_cases hlt:k<n'∧k<50
  ·obtain⟨hlt,h50⟩:=hlt
   have hd1:decide ((k:Int)<(n':Int))=true:=by simp;omega
   have hd2:decide ((k:Int)<50)=true:=by simp;omega
   obtain⟨b,o,r,x,rfl,hbl,hFb,hx,hrl,hp,hc⟩:=(h2.below HW.out.low).get hlt
   obtain⟨o1,o2,o3,o4,Ac,nc,cc,Ax,nx,cx,Ab,nb,cb,Al,nl,cl,rfl,hcol,hkx,hkb,hkl⟩:=hp
   have hc0:=hc 0 _ rfl;have hc1:=hc 1 _ rfl;have hc2:=hc 2 _ rfl;have hc3:=hc 3 _ rfl;have hc4:=hc 4 _ rfl;have hc5:=hc 5 _ rfl;have hc6:=hc 6 _ rfl;have hc7:=hc 7 _ rfl
   rw[Nat.add_zero] at hc0
   clear hc hx
   go_upto_block 6 with (fail)
   obtain⟨w2,Hw2⟩:∃ w2,Hid (w2=(w1.alloc (.cells #[.int .i64 x.op,.string x.name,.string x.src,.int .i64 x.n,.slice Ac nc cc,.slice Ax nx cx,.slice Ab nb cb,.slice Al nl cl] 93)).alloc (.cells #[.int .i64 x.op,.string x.name,.string x.src,.int .i64 x.n,.slice Ac nc cc,.slice none 0 0,.slice none 0 0,.slice none 0 0] 65)):=⟨_,rfl⟩
   have hb2:Below w1.heap.size w1 w2:=by rw[Hw2.out];exact((Below.refl _ _).alloc (Nat.le_refl _) _).alloc (by simp) _
   have hz2:w2.heap.size=w1.heap.size+2:=by rw[Hw2.out];simp
   have hx2:IsBlk w2 w1.heap.size 93 #[.int .i64 x.op,.string x.name,.string x.src,.int .i64 x.n,.slice Ac nc cc,.slice Ax nx cx,.slice Ab nb cb,.slice Al nl cl]:=by rw[Hw2.out];exact(IsBlk.laid _ _ _).alloc _
   have he2:IsBlk w2 (w1.heap.size+1) 65 #[.int .i64 x.op,.string x.name,.string x.src,.int .i64 x.n,.slice Ac nc cc,.slice none 0 0,.slice none 0 0,.slice none 0 0]:=by rw[Hw2.out];exact laid_at (by simp) _ _
   have HE2:=Lhd (SKids.start hue w1 k x Ac nc cc he2)
   have hnx:=hkx.n_le
   have hnb:=hkb.n_le
   have hnl:=hkl.n_le
   have hbw:=HW.out.low.size
   have hbt:=HW.out.box.lt
   have Hx2:=Lhd (fun W (hW:But (fun b=>b=w1.heap.size+1) w2 W)=>hx2.as_was (hW.block _ hx2.lt (by omega)))
   have Ht2:=Lhd (fun W (hW:But (fun b=>b=w1.heap.size+1) w2 W)=>HW.out.box.as_was ((hW.block _ (Nat.lt_of_lt_of_le hbt hb2.size) (by omega)).trans (hb2.block _ hbt)))
   have Kp:=Lhd (fun W (hW:But (fun b=>b=w1.heap.size+1) w2 W)=>(Kept.of_below hb2).trans (Kept.of_but (F:=F) hW (fun b hb=>by have:=hF b hb;omega)))
   have HR2:=Lhd (fun W (hW:But (fun b=>b=w1.heap.size+1) w2 W) b (hb:b<w1.heap.size)=>(hW.block b (Nat.lt_of_lt_of_le hb hb2.size) (by omega)).trans (hb2.block b hb))
   have Hkx:=Lhd (hkx.below HW.out.low)
   have Hkb:=Lhd (hkb.below HW.out.low)
   have Hkl:=Lhd (hkl.below HW.out.low)
   have Hcol:=Lhd (hcol.below HW.out.low)
   rw[Hk.out,Hne.out] at Ht2
   rw[← Hw2.out]
   clear hx2 he2 hkx hkb hkl hcol hc0 hc1 hc2 hc3 hc4 hc5 hc6 hc7
   go_cut [16,17] from 143 to 189 (fun u16 u17 wr=>MidS w2 (w1.heap.size+1) hue w1 k x Ac nc cc u16 u17 wr)
   case first =>
    go_wp2_with fail
    go_loopw [16,17,18] (fun a9 a10 a11 wr=>KnotRel w2 (w1.heap.size+1) hue w1 k x Ac nc cc nx a9 a10 a11 wr) (fun _ _ i _=>nx-(intOf i).toNat)
    case atStart=>exact⟨0,[],_,_,Nat.zero_le _,by omega,Nat.le_refl _,rfl,rfl,rfl,HE2.out⟩
    case round =>
     obtain⟨q,args,Aa,ca,hq,hq4,hal,rfl,rfl,rfl,hE⟩:=hrel
     by_cases hlq:q<nx∧q<10
     ·obtain⟨hqn,hq4'⟩:=hlq
      refine Code.wp_mono noPanic_then (round4 F w w1 w2 wr hue es ss A0 A1 A2 A3 A4 A5 c0 c1 c2 c3 c4 c5 k ne x Ac Ax Ab Al nc cc nx cx nb cb nl cl q args Aa ca hF HW.out Hk.out Hne.out Hkx.out Hkb.out Hkl.out Hw2.out hE hqn hq4' hal ?_)
      intro y16 y17 y18 y19 y143 y144 y145 y146 y147 y148 y149 y150 y151 y152 y153 y154 y155 y156 y157 y158 y159 y160 y161 y162 y163 y164 y165 y166 y167 y168 y169 y170 y171 y172 y173 y174 y175 y176 y177 y178 y179 y180 y181 y182 y183 y184 y185 y186 y187 y188 y189 W hr1 hr2
      clear hE
      have Hr1:=Lhd hr1
      subst hr2
      clear hr1
      go_roundw
      case rel=>exact⟨_,_,_,_,_,_,_,_,_,_,_,_,_,_,_,_,_,_,_,_,_,_,_,_,_,_,_,_,_,_,_,_,_,_,_,_,_,_,_,_,_,_,_,_,_,_,_,_,_,_,_,Hr1.out,rfl⟩
      case measure=>simp[intOf];omega
     ·have HE:=Lhd hE
      obtain⟨hsum,htop,Hsum,Htop⟩:∃ hsum htop:Int,Hid (sumT (args.map tellE)=hsum)∧Hid (topT (args.map tellE)=htop):=⟨_,_,rfl,rfl⟩
      rw[Hsum.out,Htop.out]
      clear hE
      obtain⟨l0,l1,l2,l3,l4,l5,l6,l7,ll⟩:=knotBox (Hx2.out _ HE.out.but)
      go_wp2
      all_goals
       go_meet
       rw[← Hsum.out,← Htop.out]
       exact⟨args,Aa,ca,by omega,rfl,rfl,HE.out⟩
   case rest =>
    obtain⟨exprs,Ae,ce,hx10,rfl,rfl,hE⟩:=hcut
    have HE0:=Lhd hE
    clear hE HE2
    obtain⟨sE,tE,hseb,hteb,HsE,HtE⟩:∃ sE tE:Int,(0≤sE∧sE≤10000)∧(1≤tE∧tE≤1001)∧Hid (sumT (exprs.map tellE)=sE)∧Hid (topT (exprs.map tellE)=tE) :=
     ⟨_,_,sum_ten hx10,topT_bd (fun t ht=>by obtain⟨a,_,rfl⟩:=List.mem_map.1 ht;exact tellE_ok a),rfl,rfl⟩
    rw[HsE.out,HtE.out]
    go_wp2
    go_loopw [16,17,20] (fun a9 a10 a11 wr=>BodyRel w2 (w1.heap.size+1) hue w1 k x Ac nc cc exprs Ae ce sE tE a9 a10 a11 wr) (fun _ _ i _=>10-(intOf i).toNat)
    case atStart=>exact⟨0,[],[],_,_,_,_,by omega,Nat.le_refl _,congrArg (Value.int .i64) (by simp[sumT]),congrArg (Value.int .i64) (by simp[topT];omega),rfl,HE0.out⟩
    case round =>
     obtain⟨q,body,els,Bb,db,Bl,dl,hq10,hal,rfl,rfl,rfl,hE⟩:=hrel
     by_cases hlq:(q:Int)<wrap64 ((nb:Int)+(nl:Int))∧q<10
     ·obtain⟨hqN,hq10'⟩:=hlq
      by_cases hqb:q<nb
      ·refine Code.wp_mono noPanic_then (round5B F w w1 w2 wr hue es ss A0 A1 A2 A3 A4 A5 c0 c1 c2 c3 c4 c5 k ne x Ac Ax Ab Al nc cc nx cx nb cb nl cl q exprs body els Ae ce Bb db Bl dl sE tE hF HW.out Hk.out Hne.out h50 Hkx.out Hkb.out Hkl.out Hw2.out hE hq10' hqN hqb hal hseb hteb ?_)
       clear hqN hqb hE
       intro y16 y17 y20 y21 y22 y190 y191 y192 y193 y194 y195 y196 y197 y198 y199 y200 y201 y202 y203 y204 y205 y206 y207 y208 y209 y210 y211 y212 y213 y214 y215 y216 y217 y218 y219 y220 y221 y222 y223 y224 y225 y226 y227 y228 y229 y230 y231 y232 y233 y234 y235 y236 y237 y238 y239 y240 y241 y242 y243 y244 y245 y246 y247 y248 y249 y250 y251 y252 y253 y254 y255 y256 y257 y258 y259 y260 y261 y262 y263 y264 y265 y266 W hr1 hr2
       have Hr1:=Lhd hr1
       subst hr2
       clear hr1
       go_roundw
       case rel=>exact⟨_,_,_,_,_,_,_,_,_,_,_,_,_,_,_,_,_,_,_,_,_,_,_,_,_,_,_,_,_,_,_,_,_,_,_,_,_,_,_,_,_,_,_,_,_,_,_,_,_,_,_,_,_,_,_,_,_,_,_,_,_,_,_,_,_,_,_,_,_,_,_,_,_,_,_,_,_,_,_,_,_,_,Hr1.out,rfl⟩
       case measure=>simp[intOf];omega
      ·refine Code.wp_mono noPanic_then (round5L F w w1 w2 wr hue es ss A0 A1 A2 A3 A4 A5 c0 c1 c2 c3 c4 c5 k ne x Ac Ax Ab Al nc cc nx cx nb cb nl cl q exprs body els Ae ce Bb db Bl dl sE tE hF HW.out Hk.out Hne.out h50 Hkx.out Hkb.out Hkl.out Hw2.out hE hq10' hqN hqb hal hseb hteb ?_)
       clear hqN hqb hE
       intro y16 y17 y20 y21 y22 y190 y191 y192 y193 y194 y195 y196 y197 y198 y199 y200 y201 y202 y203 y204 y205 y206 y207 y208 y209 y210 y211 y212 y213 y214 y215 y216 y217 y218 y219 y220 y221 y222 y223 y224 y225 y226 y227 y228 y229 y230 y231 y232 y233 y234 y235 y236 y237 y238 y239 y240 y241 y242 y243 y244 y245 y246 y247 y248 y249 y250 y251 y252 y253 y254 y255 y256 y257 y258 y259 y260 y261 y262 y263 y264 y265 y266 W hr1 hr2
       have Hr1:=Lhd hr1
       subst hr2
       clear hr1
       go_roundw
       case rel=>exact⟨_,_,_,_,_,_,_,_,_,_,_,_,_,_,_,_,_,_,_,_,_,_,_,_,_,_,_,_,_,_,_,_,_,_,_,_,_,_,_,_,_,_,_,_,_,_,_,_,_,_,_,_,_,_,_,_,_,_,_,_,_,_,_,_,_,_,_,_,_,_,_,_,_,_,_,_,_,_,_,_,_,_,Hr1.out,rfl⟩
       case measure=>simp[intOf];omega
     ·obtain⟨N,hN⟩:∃ N:Int,wrap64 ((nb:Int)+(nl:Int))=N:=⟨_,rfl⟩
      rw[hN] at hlq
      have HE:=Lhd hE
      have hbb:=sum_tenS (args:=body) (by omega)
      have hbl':=sum_tenS (args:=els) (by omega)
      have htb:=topT_bd (l:=body.map tellS) (fun t ht=>by obtain⟨a,_,rfl⟩:=List.mem_map.1 ht;exact tellS_ok a)
      have htl':=topT_bd (l:=els.map tellS) (fun t ht=>by obtain⟨a,_,rfl⟩:=List.mem_map.1 ht;exact tellS_ok a)
      obtain⟨hsum,htop,hsb,htb',Hsum,Htop⟩:∃ hsum htop:Int,(0≤hsum∧hsum≤30000)∧(1≤htop∧htop≤1001)∧Hid (sE+sumT (body.map tellS)+sumT (els.map tellS)=hsum)∧Hid (max (max tE (topT (body.map tellS))) (topT (els.map tellS))=htop) :=
       ⟨_,_,by omega,by omega,rfl,rfl⟩
      clear hbb hbl' htb htl'
      obtain⟨hs0,hs1⟩:=hsb
      obtain⟨ht0,ht1⟩:=htb'
      rw[Hsum.out,Htop.out]
      generalize hmb:body.length=mB at *
      have Hmb:=Lhd hmb
      generalize hml:els.length=mL at *
      have Hml:=Lhd hml
      clear hmb hml hE
      obtain⟨l0,l1,l2,l3,l4,l5,l6,l7,ll⟩:=knotBox (Hx2.out _ HE.out.but)
      obtain⟨t0,t1,t2,t3,t4,t5,tl⟩:=treeBox (Ht2.out _ HE.out.but)
      have hbl:=HE.out.below hb2 (by omega)
      obtain⟨te1,te2,Hte⟩:∃ te1 te2,Hid (tellS (.mk x.op x.name x.src x.n x.cols exprs body els)=(te1,te2)):=⟨_,_,rfl⟩
      have htl:=fun W=>told2_any (1+hsum) htop W
      have hte:=HE.out.tell (by omega)
      rw[HsE.out,HtE.out,Hsum.out,Htop.out,Hte.out] at hte
      rw[hte] at htl
      have Htl:=Lhd htl
      have hok:=tellS_ok (.mk x.op x.name x.src x.n x.cols exprs body els)
      rw[Hte.out] at hok
      obtain⟨k1,k2,k3,k4⟩:=hok
      clear htl hte
      have hPS:=HE.out.done hbl (by omega) Hcol.out (fun b hb=>(HW.out.old b (hF b hb)).1 hb) o1 o2 o3 o4
      obtain⟨y0,y1,y2,y3,y4,y5,y6,y7,yl⟩:=knotBox HE.out.box
      generalize hlE:exprs.length=mE at *
      rw[Hmb.out,Hml.out] at hPS
      rw[Hmb.out] at y6
      rw[Hml.out] at y7
      have HPS:=Lhd hPS
      have HB:=Lhd hbl
      have HW':=Lhd (HW.out.later hbl)
      clear hPS hbl hlE
      obtain⟨⟨rows,hr0,hrP⟩,hr1,hr2⟩:=HW'.out.tri
      rw[Hk.out] at hr0 hr1 hr2
      have HrP:=Lhd hrP
      have Hr0:=Lhd hr0
      have Hr1:=Lhd hr1
      have Hr2:=Lhd hr2
      have hbox:=HW'.out.box
      rw[Hk.out] at hbox
      have Hbox:=Lhd hbox
      have Hhb:=Lhd HW'.out.hb
      have hm1:k+1≤maxLen:=by unfold maxLen;omega
      have hm2:(k+1)*144≤140737488355328:=by omega
      have hm2':(k+1)*8≤140737488355328:=by omega
      have hbz:=HW'.out.low.size
      clear hrP hr0 hr1 hr2 hbox
      obtain⟨h0,Hh0⟩:∃ h0,Hid (hueNew hue w1 0=h0):=⟨_,rfl⟩
      rw[Hh0.out] at Hr0 Hr1 Hr2 Hhb HPS HrP HW'
      have hown1:=Hr0.out.own.alloc (.cells #[.int .i64 x.op,.string x.name,.string x.src,.int .i64 x.n,.slice Ac nc cc,.slice Ae mE ce,.slice Bb mB db,.slice Bl mL dl] 65)
      have hnew1:=row_new (w:=wr) (T:=65) [.int .i64 x.op,.string x.name,.string x.src,.int .i64 x.n,.slice Ac nc cc,.slice Ae mE ce,.slice Bb mB db,.slice Bl mL dl] 8 rfl rfl
      have hbtl:=Hbox.out.lt
      have hne2:h0 (w.heap.size+1)≠2:=by rw[Hhb.out];omega
      have Hne2:=Lhd hne2
      clear hne2
      go_wp2_with (first
      | (go_at_call 14;refine(Htl.out _).mono ?_;rintro e w' ⟨rfl,rfl⟩)
      | (at_builtin;(refine wpList_app (s:=.tmp 274) (x:=.tmp 276) rfl rfl tyStm rfl hown1 rfl hnew1 (by simp) (by simp[Value.oneCell']) hm1 hm2 ?_ ?_;(simp;omega);intro B0 d0 W2 own2 but2 fr2);(have zz2:=but2.size;simp at zz2;have G1:=Lhd (HueRow.grow (bt:=w.heap.size+1) (j:=3) (u:=.slice B0 (k+1) d0) Hr0.out own2 rfl (by simp) but2 fr2 hbtl Hne2.out);have X1:=Lhd (box_grown (j:=3) Hbox.out Hr0.out.hue Hne2.out but2 (.slice B0 (k+1) d0));obtain⟨x10,x11,x12,x13,x14,x15,x1l⟩:=treeBox X1.out.1;have x1f:=X1.out.1.frozen;have Hq1:=Lhd (hue_kept (i:=2) Hhb.out hbtl);have HR1:=Lhd (Hr1.out.keep G1.out.2 (hue_apart Hhb.out (by omega) (by omega)) (hueNew_old (i:=2)));have hown2:=HR1.out.own.alloc (.cells #[.int .i64 te1] 3);have hnew2:=row_new (w:=W2.setCell ⟨w.heap.size+1,3,none⟩ (.slice B0 (k+1) d0)) (T:=3) (g:=W2.heap.size) [.int .i64 te1] 1 (by simp[World.setCell]) rfl))
      | (at_builtin;(refine wpList_app (s:=.tmp 280) (x:=.tmp 282) rfl rfl tyNum rfl hown2 rfl hnew2 (by simp) (by simp[Value.oneCell']) hm1 hm2' ?_ ?_;(simp[World.setCell];omega);intro B1 d1 W5 own5 but5 fr5);(have zz5:=but5.size;simp[World.setCell] at zz5;have hbtl3:w.heap.size+1<(W2.setCell ⟨w.heap.size+1,3,none⟩ (.slice B0 (k+1) d0)).heap.size:=(by simp[World.setCell];omega);have hne3:=ne_of_one Hq1.out 3 (by omega);have G2:=Lhd (HueRow.grow (bt:=w.heap.size+1) (j:=4) (u:=.slice B1 (k+1) d1) HR1.out own5 rfl (by simp) but5 fr5 hbtl3 hne3);have X2:=Lhd (box_grown (j:=4) X1.out.2 HR1.out.hue hne3 but5 (.slice B1 (k+1) d1));obtain⟨x20,x21,x22,x23,x24,x25,x2l⟩:=treeBox X2.out.1;have x2f:=X2.out.1.frozen;have Hq2:=Lhd (hue_kept (i:=3) Hq1.out hbtl3);have HR2':=Lhd ((Hr2.out.keep G1.out.2 (hue_apart Hhb.out (by omega) (by omega)) (hueNew_old (i:=2))).keep G2.out.2 (hue_apart Hq1.out (by omega) (by omega)) (hueNew_old (i:=3)));have hown3:=HR2'.out.own.alloc (.cells #[.int .i64 te2] 3);have hnew3:=row_new (w:=W5.setCell ⟨w.heap.size+1,4,none⟩ (.slice B1 (k+1) d1)) (T:=3) (g:=W5.heap.size) [.int .i64 te2] 1 (by simp[World.setCell]) rfl))
      | (at_builtin;(refine wpList_app (s:=.tmp 286) (x:=.tmp 288) rfl rfl tyNum rfl hown3 rfl hnew3 (by simp) (by simp[Value.oneCell']) hm1 hm2' ?_ ?_;(simp[World.setCell];omega);intro B2 d2 W8 own8 but8 fr8);(have hbtl6:w.heap.size+1<(W5.setCell ⟨w.heap.size+1,4,none⟩ (.slice B1 (k+1) d1)).heap.size:=(by simp[World.setCell];omega);have hne4:=ne_of_one Hq2.out 4 (by omega);have G3:=Lhd (HueRow.grow (bt:=w.heap.size+1) (j:=5) (u:=.slice B2 (k+1) d2) HR2'.out own8 rfl (by simp) but8 fr8 hbtl6 hne4);have X3:=Lhd (box_grown (j:=5) X2.out.2 HR2'.out.hue hne4 but8 (.slice B2 (k+1) d2));obtain⟨x30,x31,x32,x33,x34,x35,x3l⟩:=treeBox X3.out.1;have x3f:=X3.out.1.frozen)))
      all_goals
       have hl:(ss++[St.mk x.op x.name x.src x.n x.cols exprs body els]).length=k+1:=by rw[List.length_append,Hk.out];rfl
       exact⟨⟨_,ss++[.mk x.op x.name x.src x.n x.cols exprs body els],B0,d0,B1,d1,B2,d2,by rw[hl];omega,by rw[hl];go_num,SWood.add HW'.out Hk.out h50 Hte.out HrP.out HPS.out G1.out.2 G2.out.2 G3.out.2 G1.out.1 G2.out.1 G3.out.1 X3.out.2⟩,by simp[intOf];omega⟩
  ·go_wp2
   all_goals
    exact HI.out _ _ _ _ _ _ _ _ _ _ _ _ _ _ _ _ _ _ _ _ _ _ _ _ _ _ _ _ _ _ _ _ _ _ _ _ _ _ _ _ _ _ _ _ _ _ _ _ _ _ _ _ _ _ _ _ _ _ _ _ _ _ _ _ _ _ _ _ _ _ _ _ _ _ _ _ _ _ _ _ _ _ _ _ _ _ _ _ _ _ _ _ _ _ _ _ _ _ _ _ _ _ _ _ _ _ _ _ _ _ _ _ _ _ _ _ _ _ _ _ _ _ _ _ _ _ _ _ _ _ _ _ _ _ _ _ _ _ _ _ _ _ _ _ _ _ _ _ _ _ _ _ _ _ _ _ _ _ _ _ _ _ _ _ _ _ _ _ _ _ _ _ _ _ _ _ _ _ _ _ _ _ _ _ ⟨_,_,_,_,_,_,_,_,_,_,_,_,_,_,_,HW.out⟩
theorem build_any (F:Nat→Prop) (A A':Option Addr) (n c n' c':Nat) (xs:List Lf) (ys:List Kn) (w:World) (h1:LsAt F w 6 (LfAt F w) A n c xs) (h2:LsAt F w 8 (KnAt F w) A' n' c' ys) (hF:∀ k,F k→k<w.heap.size) :
  Calls Tryz.prog 13 #[.slice A n c,.slice A' n' c'] w (Forest F w):=by
 have H0:=Lhd (EWood.start F w)
 have H1:=Lhd h1
 have H2:=Lhd h2
 clear h1 h2
 go_enter Tryz.func13,Tryz.ntmps13
 go_upto_block 0 with (fail)
 go_cut [] (fun wr=>EDone F w wr)
 case first =>
  refine Code.wp_mono noPanic_then (phE F A n c xs w _ H1.out hF H0.out ?_)
  intro y6 y7 y8 y9 y10 y11 y12 y24 y25 y26 y27 y28 y29 y30 y31 y32 y33 y34 y35 y36 y37 y38 y39 y40 y41 y42 y43 y44 y45 y46 y47 y48 y49 y50 y51 y52 y53 y54 y55 y56 y57 y58 y59 y60 y61 y62 y63 y64 y65 y66 y67 y68 y69 y70 y71 y72 y73 y74 y75 y76 y77 y78 y79 y80 y81 y82 y83 y84 y85 y86 y87 y88 y89 y90 y91 y92 y93 y94 y95 y96 y97 y98 y99 y100 y101 y102 y103 y104 y105 y106 y107 y108 y109 y110 y111 y112 y113 y114 y115 y116 y117 W hr
  have Hr:=Lhd hr
  clear hr
  go_step
  go_meet
  exact Hr.out
 case rest =>
  obtain⟨hue,es,A0,c0,A1,c1,A2,c2,hS⟩:=hcut
  have HS:=Lhd hS
  clear hS H0 H1
  go_upto_block 4 with (fail)
  go_cut [] (fun wr=>SDone F w wr)
  case first =>
   refine Code.wp_mono noPanic_then (phS F A' n' c' ys w _ hue es A0 c0 A1 c1 A2 c2 H2.out hF HS.out ?_)
   intro y13 y14 y15 y16 y17 y18 y19 y20 y21 y22 y118 y119 y120 y121 y122 y123 y124 y125 y126 y127 y128 y129 y130 y131 y132 y133 y134 y135 y136 y137 y138 y139 y140 y141 y142 y143 y144 y145 y146 y147 y148 y149 y150 y151 y152 y153 y154 y155 y156 y157 y158 y159 y160 y161 y162 y163 y164 y165 y166 y167 y168 y169 y170 y171 y172 y173 y174 y175 y176 y177 y178 y179 y180 y181 y182 y183 y184 y185 y186 y187 y188 y189 y190 y191 y192 y193 y194 y195 y196 y197 y198 y199 y200 y201 y202 y203 y204 y205 y206 y207 y208 y209 y210 y211 y212 y213 y214 y215 y216 y217 y218 y219 y220 y221 y222 y223 y224 y225 y226 y227 y228 y229 y230 y231 y232 y233 y234 y235 y236 y237 y238 y239 y240 y241 y242 y243 y244 y245 y246 y247 y248 y249 y250 y251 y252 y253 y254 y255 y256 y257 y258 y259 y260 y261 y262 y263 y264 y265 y266 y267 y268 y269 y270 y271 y272 y273 y274 y275 y276 y277 y278 y279 y280 y281 y282 y283 y284 y285 y286 y287 y288 y289 y290 W hr
   have Hr:=Lhd hr
   clear hr
   go_step
   go_meet
   exact Hr.out
  case rest =>
   clear HS H2
   obtain⟨hue,es,ss,A0,c0,A1,c1,A2,c2,A3,c3,A4,c4,A5,c5,hW⟩:=hcut
   generalize wc=w1 at *
   have HW:=Lhd hW
   clear hW
   obtain⟨q0,q1,q2,q3,q4,q5,ql⟩:=treeBox HW.out.box
   have hend:=HW.out.end_ (but_six w1 w.heap.size (.slice A0 es.length c0) (.slice A1 es.length c1) (.slice A2 es.length c2) (.slice A3 ss.length c3) (.slice A4 ss.length c4) (.slice A5 ss.length c5))
   have Hend:=Lhd hend
   obtain⟨r0,r1,r2,r3,r4,r5,rl⟩:=treeBox HW.out.res
   have rf:=HW.out.res.frozen
   clear hend
   go_wp2
   refine bodyPost_ret (v:=.agg #[.slice A0 es.length c0,.slice A1 es.length c1,.slice A2 es.length c2,.slice A3 ss.length c3,.slice A4 ss.length c4,.slice A5 ss.length c5]) (by simp[results,Tryz.results13,go_sem,r0,r1,r2,r3,r4,r5]) rfl ⟨_,es,ss,rfl,Hend.out.1,Hend.out.2⟩
end Go.Proofs.YtmfcmpnlipnopaaGreat
namespace Go.Afx
open Go.RowKit
def top0 (l:List (Int×Int)):Int:=l.foldl (fun m t=>max m t.2) 0
theorem top0_snoc (l:List (Int×Int)) (t:Int×Int):top0 (l++[t])=max (top0 l) t.2:=by simp[top0]
theorem top0_bd {l:List (Int×Int)} (h:∀ t∈l,Tok t):0≤top0 l∧top0 l≤1000:=by
 have:∀ (l:List (Int×Int)) (m:Int),(∀ t∈l,Tok t)→0≤m→m≤1000→0≤l.foldl (fun m t=>max m t.2) m∧l.foldl (fun m t=>max m t.2) m≤1000:=by
  intro l
  induction l with
  | nil=>intro m _ h1 h2;exact⟨h1,h2⟩
  | cons a r ih =>
   intro m h h1 h2
   have ha:=h a (by simp)
   unfold Tok at ha
   exact ih (max m a.2) (fun t ht=>h t (by simp[ht])) (by omega) (by omega)
 exact this l 0 h (by omega) (by omega)
theorem tells_list {P:List (Nat×Nat)} (h:∀ p∈P,p.2≤900):toldZ (sumT (P.map fun p=>tellN p.1 p.2),top0 (P.map fun p=>tellN p.1 p.2))=tellN (P.map (·.1)).sum (maxN (P.map (·.2))):=by
 have hn:∀ Q:List (Nat×Nat),(∀ p∈Q,p.1<1000)→sumT (Q.map fun p=>tellN p.1 p.2)=((Q.map (·.1)).sum:Nat)∧∀ m:Nat,(Q.map fun p=>tellN p.1 p.2).foldl (fun m t=>max m t.2) (m:Int)=((max m (maxN (Q.map (·.2))):Nat):Int):=by
  intro Q
  induction Q with
  | nil=>intro _;exact⟨by simp[sumT],fun m=>by simp[maxN]⟩
  | cons a r ih =>
   intro hq
   obtain⟨i1,i2⟩:=ih fun p hp=>hq p (by simp[hp])
   have ha:tellN a.1 a.2=((a.1:Int),(a.2:Int)):=by have:=hq a (by simp);unfold tellN;rw[if_neg (by omega)]
   refine⟨?_,fun m=>?_⟩
   ·simp only[List.map_cons,List.sum_cons,ha]
    have e:sumT (((a.1:Int),(a.2:Int))::r.map fun p=>tellN p.1 p.2)=a.1+sumT (r.map fun p=>tellN p.1 p.2):=by simp[sumT]
    rw[e,i1];omega
   ·simp only[List.map_cons,List.foldl_cons,ha]
    have e:max (m:Int) (a.2:Int)=((max m a.2:Nat):Int):=by omega
    rw[e,i2,maxN_cons]
    omega
 by_cases hall:∀ p∈P,p.1<1000
 ·obtain⟨h1,h2⟩:=hn P hall
  have h3:=h2 0
  simp only[Nat.zero_max,Int.natCast_zero] at h3
  have h4:maxN (P.map (·.2))≤900:=maxN_le fun x hx=>by obtain⟨p,hp,rfl⟩:=List.mem_map.1 hx;exact h p hp
  have h5:top0 (P.map fun p=>tellN p.1 p.2)=((maxN (P.map (·.2)):Nat):Int):=h3
  rw[h1,h5]
  unfold toldZ fullZ tellN
  by_cases hN:1000≤(P.map (·.1)).sum
  ·rw[if_pos hN,if_pos]
   simp;omega
  ·rw[if_neg hN,if_neg]
   simp;omega
 ·have hall:∃ p∈P,1000≤p.1:=by
   apply Classical.byContradiction
   intro hc
   exact hall fun p hp=>by
    apply Classical.byContradiction
    intro h1
    exact hc ⟨p,hp,by omega⟩
  obtain⟨p,hp,hp1⟩:=hall
  have h1:1000≤(P.map (·.1)).sum:=by
   have:∀ Q:List (Nat×Nat),p∈Q→p.1≤(Q.map (·.1)).sum:=by
    intro Q
    induction Q with
    | nil=>intro h;cases h
    | cons a r ih =>
     intro h
     rw[List.map_cons,List.sum_cons]
     rcases List.mem_cons.1 h with rfl|h
     ·omega
     ·have:=ih h;omega
   have:=this P hp
   omega
  have hok:∀ t∈P.map (fun p=>tellN p.1 p.2),Tok t:=fun t ht=>by obtain⟨q,hq,rfl⟩:=List.mem_map.1 ht;exact tellN_ok (h q hq)
  have h2:1000≤sumT (P.map fun p=>tellN p.1 p.2):=by
   have:∀ Q:List (Int×Int),(∀ t∈Q,Tok t)→(1000,1000)∈Q→1000≤sumT Q:=by
    intro Q
    induction Q with
    | nil=>intro _ h;cases h
    | cons a r ih =>
     intro hq h
     have e:sumT (a::r)=a.1+sumT r:=by simp[sumT]
     rw[e]
     have b:=(sumT_bd fun t ht=>hq t (List.mem_cons_of_mem _ ht)).1
     rcases List.mem_cons.1 h with rfl|h
     ·show (1000:Int)≤1000+sumT r;omega
     ·have a1:=(hq a (by simp)).1
      have:=ih (fun t ht=>hq t (by simp[ht])) h
      omega
   exact this _ hok (List.mem_map.2 ⟨p,hp,if_pos hp1⟩)
  unfold toldZ fullZ tellN at *
  rw[if_pos (by simp;omega),if_pos (by omega)]
def tellP (p:Pr):Int×Int:=tellN (cntP 101 p) (dptP 101 p)
theorem tellP_body (body:List St) (name src part:ByteArray) (fuel:Int) (params:List Co):toldZ (sumT (body.map tellS),top0 (body.map tellS))=tellP ⟨name,src,part,fuel,params,body⟩:=by
 have h1:=tells_list (P:=body.map fun a=>(cntS 101 a,dptS 101 a)) (fun p hp=>by obtain⟨a,_,rfl⟩:=List.mem_map.1 hp;have:=dptS_le 101 a;simp only;omega)
 rw[List.map_map,List.map_map,List.map_map] at h1
 exact h1
theorem small_told (p:Pr):(decide ((tellP p).1≤300)&&decide ((tellP p).2≤12))=smallZ (sizeP 101 p):=by
 obtain⟨h1,h2,h3⟩:=sizeP_cts 101 p (by omega)
 unfold tellP tellN smallZ
 by_cases hN:1000≤cntP 101 p
 ·rw[if_pos hN]
  have:¬ (sizeP 101 p).1≤300:=by omega
  simp[this]
 ·have h4:=h2 (by omega)
  rw[if_neg hN]
  have e1:(sizeP 101 p).1=(cntP 101 p:Int):=by omega
  rw[e1,h4]
end Go.Afx
namespace Go.Afx
open Go.RowKit
def startsAt (n:Nat):Code→Bool
 | .region i _ _=>i==n
 | .seq a _=>startsAt n a
 | .block _ c=>startsAt n c
 | .scope c=>startsAt n c
 | .loop c=>startsAt n c
 | _=>false
def findLoop (n:Nat):Code→Option Code
 | .loop c=>if startsAt n c then some c else findLoop n c
 | .seq a b=>match findLoop n a with
  | some c=>some c
  | none=>findLoop n b
 | .block _ c=>findLoop n c
 | .scope c=>findLoop n c
 | .cond _ a b=>match findLoop n a with
  | some c=>some c
  | none=>findLoop n b
 | _=>none
def findRegion (n:Nat):Code→Option Code
 | .region i ops d=>if i==n then some (.region i ops d) else none
 | .loop c=>findRegion n c
 | .seq a b=>match findRegion n a with
  | some c=>some c
  | none=>findRegion n b
 | .block _ c=>findRegion n c
 | .scope c=>findRegion n c
 | .cond _ a b=>match findRegion n a with
  | some c=>some c
  | none=>findRegion n b
 | _=>none
def noPanic (Q:Exit→Act→World→Prop):Exit→Act→World→Prop
 | .panic _,_,_=>False
 | e,a,w=>Q e a w
theorem noPanic_then {I:Act→World→Prop} {Q:Exit→Act→World→Prop} (e:Exit) (a:Act) (w:World) (h:Exit.then I (noPanic Q) e a w):Exit.then I Q e a w:=by
 cases e<;>first|exact h|exact False.elim h
section
variable {P:Program} {md:Region.Mode} {ops:Array Oper} {Q:Exit→Act→World→Prop} {S:World→Prop}
theorem tk (i:Nat) (v:Value) {oi:Oper} {fuel:Nat} {listed:Array Bool} {a:Act} {w:World} (hi:ops[i]?=some oi) (hS:S w) (h:wpAnyH P md ops Q S fuel (listed.setIfInBounds i true) (a.put oi.dst v) w)
  (hs:Region.noSelect ops=true:=by kernel_rfl) (hf:Region.free md ops listed i=true:=by kernel_rfl) (hr:(Region.ready md ops listed).contains i=true:=by kernel_rfl)
  (hQ:∀ c a w,Q (.panic c) (a.put oi.dst v) w→Q (.panic c) a w:=by exact fun _ _ _ h=>h) (hy:YieldsIf P ops S oi v a:=by exact Or.inl ⟨by rfl,fun W hW=>by first|(go_simp;done)|(obtain⟨_,_,_,_⟩:=hW;go_simp)⟩):wpAnyH P md ops Q S (fuel+1) listed a w :=
 wpAnyH_take hi hs hf hr hQ hy hS h
theorem tu (i:Nat) {oi:Oper} {fuel:Nat} {listed:Array Bool} {a:Act} {w:World} (hi:ops[i]?=some oi) (hS:S w) (h:wpAnyH P md ops Q S fuel (listed.setIfInBounds i true) (a.put oi.dst undef) w)
  (hs:Region.noSelect ops=true:=by kernel_rfl) (hf:Region.free md ops listed i=true:=by kernel_rfl) (hr:(Region.ready md ops listed).contains i=true:=by kernel_rfl)
  (hQ:∀ c a w,Q (.panic c) (a.put oi.dst undef) w→Q (.panic c) a w:=by exact fun _ _ _ h=>h) (hy:YieldsIf P ops S oi undef a:=by exact Or.inr ⟨by rfl,rfl⟩):wpAnyH P md ops Q S (fuel+1) listed a w :=
 wpAnyH_take hi hs hf hr hQ hy hS h
end
end Go.Afx

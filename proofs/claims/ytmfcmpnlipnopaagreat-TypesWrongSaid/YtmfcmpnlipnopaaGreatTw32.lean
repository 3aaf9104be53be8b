/- Parts of this proof, one behind the other: RefT6. -/
import Derived.Test.YtmfcmpnlipnopaaGreatTw30
import Derived.Test.YtmfcmpnlipnopaaGreatTw31
import Derived.Deep.DeepCutAuto
import Derived.Deep.CutBlock
import Derived.Outline
set_option maxRecDepth 1000000
set_option maxHeartbeats 40000000
namespace Go.Proofs.YtmfcmpnlipnopaaGreat
open Go.RowKit Go.Afx
def findBlock (n:Nat):Code→Option Code
 | .loop c=>findBlock n c
 | .seq a b=>match findBlock n a with
  | some c=>some c
  | none=>findBlock n b
 | .block i c=>if i==n then some (.block i c) else findBlock n c
 | .scope c=>findBlock n c
 | .cond _ a b=>match findBlock n a with
  | some c=>some c
  | none=>findBlock n b
 | _=>none
noncomputable def blockOf (n:Nat):Code:=((Tryz.f13.body.bind (findBlock n)).getD .skip)
theorem phE (F:Nat→Prop) (A:Option Addr) (n c:Nat) (xs:List Lf) (w wS:World) {x1 x2 x3 x4 x7 x8 x9 x10 x11 x12 x13 x14 x15 x16 x17 x18 x19 x20 x21 x22 x23 x24 x25 x26 x27 x28 x29 x30 x31 x32 x33 x34 x35 x36 x37 x38 x39 x40 x41 x42 x43 x44 x45 x46 x47 x48 x49 x50 x51 x52 x53 x54 x55 x56 x57 x58 x59 x60 x61 x62 x63 x64 x65 x66 x67 x68 x69 x70 x71 x72 x73 x74 x75 x76 x77 x78 x79 x80 x81 x82 x83 x84 x85 x86 x87 x88 x89 x90 x91 x92 x93 x94 x95 x96 x97 x98 x99 x100 x101 x102 x103 x104 x105 x106 x107 x108 x109 x110 x111 x112 x113 x114 x115 x116 x117 x118 x119 x120 x121 x122 x123 x124 x125 x126 x127 x128 x129 x130 x131 x132 x133 x134 x135 x136 x137 x138 x139 x140 x141 x142 x143 x144 x145 x146 x147 x148 x149 x150 x151 x152 x153 x154 x155 x156 x157 x158 x159 x160 x161 x162 x163 x164 x165 x166 x167 x168 x169 x170 x171 x172 x173 x174 x175 x176 x177 x178 x179 x180 x181 x182 x183 x184 x185 x186 x187 x188 x189 x190 x191 x192 x193 x194 x195 x196 x197 x198 x199 x200 x201 x202 x203 x204 x205 x206 x207 x208 x209 x210 x211 x212 x213 x214 x215 x216 x217 x218 x219 x220 x221 x222 x223 x224 x225 x226 x227 x228 x229 x230 x231 x232 x233 x234 x235 x236 x237 x238 x239 x240 x241 x242 x243 x244 x245 x246 x247 x248 x249 x250 x251 x252 x253 x254 x255 x256 x257 x258 x259 x260 x261 x262 x263 x264 x265 x266 x267 x268 x269 x270 x271 x272 x273 x274 x275 x276 x277 x278 x279 x280 x281 x282 x283 x284 x285 x286 x287 x288 x289 x290 x291:Value} {I:Act→World→Prop} {Q0:Exit→Act→World→Prop} (h1:LsAt F w 6 (LfAt F w) A n c xs) (hF:∀ k,F k→k<w.heap.size)
  (hS:EWood F w wS (hueAt F w) [] none 0 none 0 none 0 (.slice none 0 0) (.slice none 0 0) (.slice none 0 0)) (hI:∀ (y6 y7 y8 y9 y10 y11 y12 y24 y25 y26 y27 y28 y29 y30 y31 y32 y33 y34 y35 y36 y37 y38 y39 y40 y41 y42 y43 y44 y45 y46 y47 y48 y49 y50 y51 y52 y53 y54 y55 y56 y57 y58 y59 y60 y61 y62 y63 y64 y65 y66 y67 y68 y69 y70 y71 y72 y73 y74 y75 y76 y77 y78 y79 y80 y81 y82 y83 y84 y85 y86 y87 y88 y89 y90 y91 y92 y93 y94 y95 y96 y97 y98 y99 y100 y101 y102 y103 y104 y105 y106 y107 y108 y109 y110 y111 y112 y113 y114 y115 y116 y117:Value) (W:World),EDone F w W→I ⟨#[.slice A n c,x1,x2,x3,x4,.pointer (some ⟨w.heap.size+1,0,none⟩),y6,y7,y8,y9,y10,y11,y12,x13,x14,x15,x16,x17,x18,x19,x20,x21,x22,x23,y24,y25,y26,y27,y28,y29,y30,y31,y32,y33,y34,y35,y36,y37,y38,y39,y40,y41,y42,y43,y44,y45,y46,y47,y48,y49,y50,y51,y52,y53,y54,y55,y56,y57,y58,y59,y60,y61,y62,y63,y64,y65,y66,y67,y68,y69,y70,y71,y72,y73,y74,y75,y76,y77,y78,y79,y80,y81,y82,y83,y84,y85,y86,y87,y88,y89,y90,y91,y92,y93,y94,y95,y96,y97,y98,y99,y100,y101,y102,y103,y104,y105,y106,y107,y108,y109,y110,y111,y112,y113,y114,y115,y116,y117,x118,x119,x120,x121,x122,x123,x124,x125,x126,x127,x128,x129,x130,x131,x132,x133,x134,x135,x136,x137,x138,x139,x140,x141,x142,x143,x144,x145,x146,x147,x148,x149,x150,x151,x152,x153,x154,x155,x156,x157,x158,x159,x160,x161,x162,x163,x164,x165,x166,x167,x168,x169,x170,x171,x172,x173,x174,x175,x176,x177,x178,x179,x180,x181,x182,x183,x184,x185,x186,x187,x188,x189,x190,x191,x192,x193,x194,x195,x196,x197,x198,x199,x200,x201,x202,x203,x204,x205,x206,x207,x208,x209,x210,x211,x212,x213,x214,x215,x216,x217,x218,x219,x220,x221,x222,x223,x224,x225,x226,x227,x228,x229,x230,x231,x232,x233,x234,x235,x236,x237,x238,x239,x240,x241,x242,x243,x244,x245,x246,x247,x248,x249,x250,x251,x252,x253,x254,x255,x256,x257,x258,x259,x260,x261,x262,x263,x264,x265,x266,x267,x268,x269,x270,x271,x272,x273,x274,x275,x276,x277,x278,x279,x280,x281,x282,x283,x284,x285,x286,x287,x288,x289,x290,x291],[]⟩ W) :
  Code.wp Tryz.prog (blockOf 0) (Exit.then I (noPanic Q0)) ⟨#[.slice A n c,x1,x2,x3,x4,.pointer (some ⟨w.heap.size+1,0,none⟩),.int .i64 0,x7,x8,x9,x10,x11,x12,x13,x14,x15,x16,x17,x18,x19,x20,x21,x22,x23,x24,x25,x26,x27,x28,x29,x30,x31,x32,x33,x34,x35,x36,x37,x38,x39,x40,x41,x42,x43,x44,x45,x46,x47,x48,x49,x50,x51,x52,x53,x54,x55,x56,x57,x58,x59,x60,x61,x62,x63,x64,x65,x66,x67,x68,x69,x70,x71,x72,x73,x74,x75,x76,x77,x78,x79,x80,x81,x82,x83,x84,x85,x86,x87,x88,x89,x90,x91,x92,x93,x94,x95,x96,x97,x98,x99,x100,x101,x102,x103,x104,x105,x106,x107,x108,x109,x110,x111,x112,x113,x114,x115,x116,x117,x118,x119,x120,x121,x122,x123,x124,x125,x126,x127,x128,x129,x130,x131,x132,x133,x134,x135,x136,x137,x138,x139,x140,x141,x142,x143,x144,x145,x146,x147,x148,x149,x150,x151,x152,x153,x154,x155,x156,x157,x158,x159,x160,x161,x162,x163,x164,x165,x166,x167,x168,x169,x170,x171,x172,x173,x174,x175,x176,x177,x178,x179,x180,x181,x182,x183,x184,x185,x186,x187,x188,x189,x190,x191,x192,x193,x194,x195,x196,x197,x198,x199,x200,x201,x202,x203,x204,x205,x206,x207,x208,x209,x210,x211,x212,x213,x214,x215,x216,x217,x218,x219,x220,x221,x222,x223,x224,x225,x226,x227,x228,x229,x230,x231,x232,x233,x234,x235,x236,x237,x238,x239,x240,x241,x242,x243,x244,x245,x246,x247,x248,x249,x250,x251,x252,x253,x254,x255,x256,x257,x258,x259,x260,x261,x262,x263,x264,x265,x266,x267,x268,x269,x270,x271,x272,x273,x274,x275,x276,x277,x278,x279,x280,x281,x282,x283,x284,x285,x286,x287,x288,x289,x290,x291],[]⟩ wS:=by
 have hn:=h1.n_le
 conv=>arg 2;whnf
 have HI:=Lhd hI
 clear hI
 have H0:=Lhd hS
 clear hS
 go_wp2_with fail
 go_loopw [6] (fun i wr=>∃ (es:List Ex) (hue:Nat→Nat) (A0:Option Addr) (c0:Nat) (A1:Option Addr) (c1:Nat) (A2:Option Addr) (c2:Nat),es.length≤n∧i=.int .i64 es.length∧EWood F w wr hue es A0 c0 A1 c1 A2 c2 (.slice none 0 0) (.slice none 0 0) (.slice none 0 0)) (fun i _=>n-(intOf i).toNat)
 case atStart=>exact⟨[],_,_,_,_,_,_,_,Nat.zero_le _,rfl,H0.out⟩
 case round =>
  generalize wr=w1 at *
  obtain⟨es,hue,A0,c0,A1,c1,A2,c2,hle,rfl,hW⟩:=hrel
  have hfew:=hW.few
  generalize hk:es.length=k at *
  have Hk:=Lhd hk
  clear hk
  have HW:=Lhd hW
  clear hW
  by_cases hlt:k<n∧k<50
  ·obtain⟨hlt,h50⟩:=hlt
   have hd1:decide ((k:Int)<(n:Int))=true:=by simp;omega
   have hd2:decide ((k:Int)<50)=true:=by simp;omega
   obtain⟨b,o,r,x,rfl,hbl,hFb,hx,hrl,hp,hc⟩:=(h1.below HW.out.low).get hlt
   obtain⟨o1,o2,o3,o4,o5,Ak,nk,ck,rfl,hkid⟩:=hp
   have hc0:=hc 0 _ rfl;have hc1:=hc 1 _ rfl;have hc2:=hc 2 _ rfl;have hc3:=hc 3 _ rfl;have hc4:=hc 4 _ rfl;have hc5:=hc 5 _ rfl
   rw[Nat.add_zero] at hc0
   clear hc hx
   go_upto_region 9 with (fail)
   obtain⟨w2,Hw2⟩:∃ w2,Hid (w2=(w1.alloc (.cells #[.int .i64 x.op,.int .i64 x.n,.string x.s,.string x.name,.string x.src,.slice Ak nk ck] 91)).alloc (.cells #[.int .i64 x.op,.int .i64 x.n,.string x.s,.string x.name,.string x.src,.slice none 0 0] 89)):=⟨_,rfl⟩
   have hb2:Below w1.heap.size w1 w2:=by rw[Hw2.out];exact((Below.refl _ _).alloc (Nat.le_refl _) _).alloc (by simp) _
   have hz2:w2.heap.size=w1.heap.size+2:=by rw[Hw2.out];simp
   have hx2:IsBlk w2 w1.heap.size 91 #[.int .i64 x.op,.int .i64 x.n,.string x.s,.string x.name,.string x.src,.slice Ak nk ck]:=by rw[Hw2.out];exact(IsBlk.laid _ _ _).alloc _
   have he2:IsBlk w2 (w1.heap.size+1) 89 #[.int .i64 x.op,.int .i64 x.n,.string x.s,.string x.name,.string x.src,.slice none 0 0]:=by rw[Hw2.out];exact laid_at (by simp) _ _
   have HE2:=Lhd (EKids.start hue w1 k x he2)
   have hnk:=hkid.n_le
   have Hkid:=Lhd hkid
   have hbw:=HW.out.low.size
   have hbt:=HW.out.box.lt
   have Hx2:=Lhd (fun W (hW:But (fun b=>b=w1.heap.size+1) w2 W)=>hx2.as_was (hW.block _ hx2.lt (by omega)))
   have Ht2:=Lhd (fun W (hW:But (fun b=>b=w1.heap.size+1) w2 W)=>HW.out.box.as_was ((hW.block _ (Nat.lt_of_lt_of_le hbt hb2.size) (by omega)).trans (hb2.block _ hbt)))
   have Hk2:=Lhd (fun W (hW:But (fun b=>b=w1.heap.size+1) w2 W)=>((hkid.below HW.out.low).below hb2).kept (Kept.of_but hW (fun b hb=>by have:=hF b hb;omega)))
   have HR2:=Lhd (fun W (hW:But (fun b=>b=w1.heap.size+1) w2 W) b (hb:b<w1.heap.size)=>(hW.block b (Nat.lt_of_lt_of_le hb hb2.size) (by omega)).trans (hb2.block b hb))
   rw[Hk.out] at Ht2
   rw[← Hw2.out]
   clear hx2 he2 hkid hc0 hc1 hc2 hc3 hc4 hc5
   go_loopw [9,10,11] (fun a9 a10 a11 wr=>KidsRel nk w2 (w1.heap.size+1) hue w1 k x a9 a10 a11 wr) (fun _ _ i _=>nk-(intOf i).toNat)
   case atStart=>exact⟨0,[],_,_,Nat.zero_le _,by omega,Nat.le_refl _,rfl,rfl,rfl,HE2.out⟩
   case round =>
    obtain⟨q,args,Aa,ca,hq,hq4,hal,rfl,rfl,rfl,hE⟩:=hrel
    by_cases hrd:(q<nk∧q<4)∧0<k
    ·obtain⟨⟨hqn,hq4'⟩,hk1⟩:=hrd
     refine Code.wp_mono noPanic_then (round2 F w w1 w2 wr hue es A0 A1 A2 c0 c1 c2 k x Ak nk ck q args Aa ca hF HW.out Hk.out h50 Hkid.out hk1 Hw2.out hE hqn hq4' hal ?_)
     intro y9 y10 y11 y12 y49 y50 y51 y52 y53 y54 y55 y56 y57 y58 y59 y60 y61 y62 y63 y64 y65 y66 y67 y68 y69 y70 y71 y72 y73 y74 y75 y76 y77 y78 y79 y80 y81 y82 y83 y84 y85 y86 y87 y88 y89 y90 y91 y92 y93 W hr1 hr2
     clear hE
     have Hr1:=Lhd hr1
     subst hr2
     clear hr1
     go_roundw
     case rel=>exact⟨_,_,_,_,_,_,_,_,_,_,_,_,_,_,_,_,_,_,_,_,_,_,_,_,_,_,_,_,_,_,_,_,_,_,_,_,_,_,_,_,_,_,_,_,_,_,_,_,_,Hr1.out,rfl⟩
     case measure=>simp[intOf];omega
    have HE:=Lhd hE
    obtain⟨hsum,htop,hsb,htb,Hsum,Htop⟩:∃ hsum htop:Int,(0≤hsum∧hsum≤4000)∧(1≤htop∧htop≤1001)∧Hid (sumT (args.map tellE)=hsum)∧Hid (topT (args.map tellE)=htop) :=
     ⟨_,_,sum_four (by omega),topT_bd (fun t ht=>by obtain⟨a,_,rfl⟩:=List.mem_map.1 ht;exact tellE_ok a),rfl,rfl⟩
    obtain⟨hs0,hs1⟩:=hsb
    obtain⟨ht0,ht1⟩:=htb
    rw[Hsum.out,Htop.out]
    generalize hm:args.length=m at *
    have Hm:=Lhd hm
    clear hm hE
    obtain⟨l0,l1,l2,l3,l4,l5,ll⟩:=treeBox (Hx2.out _ HE.out.but)
    obtain⟨t0,t1,t2,_,_,_,tl⟩:=treeBox (Ht2.out _ HE.out.but)
    by_cases hlq:q<nk∧q<4
    ·obtain⟨hqn,hq4'⟩:=hlq
     have hd3:decide ((q:Int)<(nk:Int))=true:=by simp;omega
     have hd4:decide ((q:Int)<4)=true:=by simp;omega
     obtain⟨bk,ok,rk,v,rfl,hbk,_,_,_,hv,hcv⟩:=(Hk2.out _ HE.out.but).get hqn
     obtain⟨rfl,okv⟩:=hv
     have hcv:=hcv 0 _ rfl
     rw[Nat.mul_one,Nat.add_zero] at hcv
     have hk0:k=0:=by
      rcases Nat.eq_zero_or_pos k with h|h
      ·exact h
      ·exact absurd ⟨⟨hqn,hq4'⟩,h⟩ hrd
     clear hrd
     ·have Hk0:=Lhd hk0
      clear hk0
      go_wp2_with (go_at_call 27;refine(pick_zero v k _ Hk0.out).mono ?_;rintro e w' ⟨rfl,rfl⟩)
      go_roundw
      case rel=>exact⟨q+1,args,Aa,ca,by omega,by omega,by have:=Hm.out;omega,by rw[Hsum.out],by rw[Htop.out],by go_num,HE.out⟩
      case measure=>simp[intOf];omega
    ·clear hrd
     have hbl:=HE.out.below hb2 (by omega)
     obtain⟨te1,te2,Hte⟩:∃ te1 te2,Hid (tellE (.mk x.op x.n x.s x.name x.src args)=(te1,te2)):=⟨_,_,rfl⟩
     have htl:=fun W=>told2_any (1+hsum) htop W
     have hte:=tell_mkE (op:=x.op) (n:=x.n) (s:=x.s) (name:=x.name) (src:=x.src) (HE.out.fits (by omega))
     rw[Hsum.out,Htop.out,Hte.out] at hte
     rw[hte] at htl
     have Htl:=Lhd htl
     have hok:=tellE_ok (.mk x.op x.n x.s x.name x.src args)
     rw[Hte.out] at hok
     obtain⟨k1,k2,k3,k4⟩:=hok
     clear htl hte
     have hPE:=HE.out.done hbl (by omega) o1 o2 o3 o4 o5
     rw[Hm.out] at hPE
     have HPE:=Lhd hPE
     have HB:=Lhd hbl
     have HW':=Lhd (HW.out.later hbl)
     clear hPE hbl
     obtain⟨y0,y1,y2,y3,y4,y5,yl⟩:=treeBox HE.out.box
     rw[Hm.out] at y5
     obtain⟨⟨rows,hr0,hrP⟩,hr1,hr2⟩:=HW'.out.tri
     rw[Hk.out] at hr0 hr1 hr2
     have HrP:=Lhd hrP
     have Hr0:=Lhd hr0
     have Hr1:=Lhd hr1
     have Hr2:=Lhd hr2
     have hbox:=HW'.out.box
     rw[Hk.out] at hbox
     have Hbox:=Lhd hbox
     have Hhb:=Lhd HW'.out.hb
     have hm1:k+1≤maxLen:=by unfold maxLen;omega
     have hm2:(k+1)*88≤140737488355328:=by omega
     have hm2':(k+1)*8≤140737488355328:=by omega
     have hbz:=HW'.out.low.size
     clear hrP hr0 hr1 hr2 hbox
     obtain⟨h0,Hh0⟩:∃ h0,Hid (hueNew hue w1 0=h0):=⟨_,rfl⟩
     rw[Hh0.out] at Hr0 Hr1 Hr2 Hhb HPE HrP HW'
     have hown1:=Hr0.out.own.alloc (.cells #[.int .i64 x.op,.int .i64 x.n,.string x.s,.string x.name,.string x.src,.slice Aa m ca] 89)
     have hnew1:=row_new (w:=wr) (T:=89) [.int .i64 x.op,.int .i64 x.n,.string x.s,.string x.name,.string x.src,.slice Aa m ca] 6 rfl rfl
     have hbtl:=Hbox.out.lt
     have hne2:h0 (w.heap.size+1)≠2:=by rw[Hhb.out];omega
     have Hne2:=Lhd hne2
     clear hne2
     go_wp2_with (first
      | (go_at_call 14;refine(Htl.out _).mono ?_;rintro e w' ⟨rfl,rfl⟩)
      | (at_builtin;(refine wpList_app (s:=.tmp 101) (x:=.tmp 103) rfl rfl tyEx rfl hown1 rfl hnew1 (by simp) (by simp[Value.oneCell']) hm1 hm2 ?_ ?_;(simp;omega);intro B0 d0 W2 own2 but2 fr2);go_loud (have zz2:=but2.size;simp at zz2;have G1:=Lhd (HueRow.grow (bt:=w.heap.size+1) (j:=0) (u:=.slice B0 (k+1) d0) Hr0.out own2 rfl (by simp) but2 fr2 hbtl Hne2.out);have X1:=Lhd (box_grown (j:=0) Hbox.out Hr0.out.hue Hne2.out but2 (.slice B0 (k+1) d0));obtain⟨x10,x11,x12,x13,x14,x15,x1l⟩:=treeBox X1.out.1;have x1f:=X1.out.1.frozen;have Hq1:=Lhd (hue_kept (i:=2) Hhb.out hbtl);have HR1:=Lhd (Hr1.out.keep G1.out.2 (hue_apart Hhb.out (by omega) (by omega)) (hueNew_old (i:=2)));have hown2:=HR1.out.own.alloc (.cells #[.int .i64 te1] 3);have hnew2:=row_new (w:=W2.setCell ⟨w.heap.size+1,0,none⟩ (.slice B0 (k+1) d0)) (T:=3) (g:=W2.heap.size) [.int .i64 te1] 1 (by simp[World.setCell]) rfl))
      | (at_builtin;(refine wpList_app (s:=.tmp 107) (x:=.tmp 109) rfl rfl tyNum rfl hown2 rfl hnew2 (by simp) (by simp[Value.oneCell']) hm1 hm2' ?_ ?_;(simp[World.setCell];omega);intro B1 d1 W5 own5 but5 fr5);go_loud (have zz5:=but5.size;simp[World.setCell] at zz5;have hbtl3:w.heap.size+1<(W2.setCell ⟨w.heap.size+1,0,none⟩ (.slice B0 (k+1) d0)).heap.size:=(by simp[World.setCell];omega);have hne3:=ne_of_one Hq1.out 3 (by omega);have G2:=Lhd (HueRow.grow (bt:=w.heap.size+1) (j:=1) (u:=.slice B1 (k+1) d1) HR1.out own5 rfl (by simp) but5 fr5 hbtl3 hne3);have X2:=Lhd (box_grown (j:=1) X1.out.2 HR1.out.hue hne3 but5 (.slice B1 (k+1) d1));obtain⟨x20,x21,x22,x23,x24,x25,x2l⟩:=treeBox X2.out.1;have x2f:=X2.out.1.frozen;have Hq2:=Lhd (hue_kept (i:=3) Hq1.out hbtl3);have HR2:=Lhd ((Hr2.out.keep G1.out.2 (hue_apart Hhb.out (by omega) (by omega)) (hueNew_old (i:=2))).keep G2.out.2 (hue_apart Hq1.out (by omega) (by omega)) (hueNew_old (i:=3)));have hown3:=HR2.out.own.alloc (.cells #[.int .i64 te2] 3);have hnew3:=row_new (w:=W5.setCell ⟨w.heap.size+1,1,none⟩ (.slice B1 (k+1) d1)) (T:=3) (g:=W5.heap.size) [.int .i64 te2] 1 (by simp[World.setCell]) rfl))
      | (at_builtin;(refine wpList_app (s:=.tmp 113) (x:=.tmp 115) rfl rfl tyNum rfl hown3 rfl hnew3 (by simp) (by simp[Value.oneCell']) hm1 hm2' ?_ ?_;(simp[World.setCell];omega);intro B2 d2 W8 own8 but8 fr8);go_loud (have hbtl6:w.heap.size+1<(W5.setCell ⟨w.heap.size+1,1,none⟩ (.slice B1 (k+1) d1)).heap.size:=(by simp[World.setCell];omega);have hne4:=ne_of_one Hq2.out 4 (by omega);have G3:=Lhd (HueRow.grow (bt:=w.heap.size+1) (j:=2) (u:=.slice B2 (k+1) d2) HR2.out own8 rfl (by simp) but8 fr8 hbtl6 hne4);have X3:=Lhd (box_grown (j:=2) X2.out.2 HR2.out.hue hne4 but8 (.slice B2 (k+1) d2));obtain⟨x30,x31,x32,x33,x34,x35,x3l⟩:=treeBox X3.out.1;have x3f:=X3.out.1.frozen)))
     all_goals
      have hl:(es++[Ex.mk x.op x.n x.s x.name x.src args]).length=k+1:=by rw[List.length_append,Hk.out];rfl
      exact⟨⟨es++[.mk x.op x.n x.s x.name x.src args],_,B0,d0,B1,d1,B2,d2,by rw[hl];omega,by rw[hl];go_num,EWood.add HW'.out Hk.out h50 Hte.out HrP.out HPE.out G1.out.2 G2.out.2 G3.out.2 G1.out.1 G2.out.1 G3.out.1 X3.out.2⟩,by simp[intOf];omega⟩
  ·go_wp2
   all_goals
    exact HI.out _ _ _ _ _ _ _ _ _ _ _ _ _ _ _ _ _ _ _ _ _ _ _ _ _ _ _ _ _ _ _ _ _ _ _ _ _ _ _ _ _ _ _ _ _ _ _ _ _ _ _ _ _ _ _ _ _ _ _ _ _ _ _ _ _ _ _ _ _ _ _ _ _ _ _ _ _ _ _ _ _ _ _ _ _ _ _ _ _ _ _ _ _ _ _ _ _ _ _ _ _ _ (EWood.end_ HW.out)
end Go.Proofs.YtmfcmpnlipnopaaGreat

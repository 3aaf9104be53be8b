/- Parts of this proof, one behind the other: RefR. -/
import Derived.Test.YtmfcmpnlipnopaaGreatTw30
import Derived.Outline
set_option maxRecDepth 1000000
set_option maxHeartbeats 40000000
namespace Go.Proofs.YtmfcmpnlipnopaaGreat
open Go.RowKit Go.Afx
def startsAt (n:Nat):Code→Bool
 | .region i _ _=>i==n
 | .seq a _=>startsAt n a
 | .block _ c=>startsAt n c
 | .scope c=>startsAt n c
 | .loop c=>startsAt n c
 | _=>false
def findLoop (n:Nat):Code→Option Code
 | .loop c=>if startsAt n c then some c else findLoop n c
 | .seq a b=>match findLoop n a with
  | some c=>some c
  | none=>findLoop n b
 | .block _ c=>findLoop n c
 | .scope c=>findLoop n c
 | .cond _ a b=>match findLoop n a with
  | some c=>some c
  | none=>findLoop n b
 | _=>none
def noPanic (Q:Exit→Act→World→Prop):Exit→Act→World→Prop
 | .panic _,_,_=>False
 | e,a,w=>Q e a w
theorem noPanic_then {I:Act→World→Prop} {Q:Exit→Act→World→Prop} (e:Exit) (a:Act) (w:World) (h:Exit.then I (noPanic Q) e a w):Exit.then I Q e a w:=by
 cases e<;>first|exact h|exact False.elim h
noncomputable def bodyAt (n:Nat):Code:=((Tryz.f13.body.bind (findLoop n)).getD .skip)
def KidsRel (nk:Nat) (w2:World) (g:Nat) (hue:Nat→Nat) (w1:World) (k:Nat) (x:Lf) (a9 a10 a11:Value) (wr:World):Prop :=
 ∃ (q:Nat) (args:List Ex) (Aa:Option Addr) (ca:Nat),q≤nk∧q≤4∧args.length≤q∧a9=.int .i64 (1+sumT (args.map tellE))∧a10=.int .i64 (topT (args.map tellE))∧a11=.int .i64 q∧EKids w2 wr g hue w1 k x args Aa ca
theorem round2 (F:Nat→Prop) (w w1 w2 wr:World) (hue:Nat→Nat) (es:List Ex) (A0 A1 A2:Option Addr) (c0 c1 c2 k:Nat) (x:Lf) (Ak:Option Addr) (nk ck q:Nat) (args:List Ex) (Aa:Option Addr) (ca:Nat) {x0 x1 x2 x3 x4 x12 x13 x14 x15 x16 x17 x18 x19 x20 x21 x22 x23 x24 x25 x26 x27 x28 x29 x30 x31 x32 x33 x34 x35 x36 x37 x38 x39 x40 x41 x42 x43 x44 x45 x46 x47 x48 x49 x50 x51 x52 x53 x54 x55 x56 x57 x58 x59 x60 x61 x62 x63 x64 x65 x66 x67 x68 x69 x70 x71 x72 x73 x74 x75 x76 x77 x78 x79 x80 x81 x82 x83 x84 x85 x86 x87 x88 x89 x90 x91 x92 x93 x94 x95 x96 x97 x98 x99 x100 x101 x102 x103 x104 x105 x106 x107 x108 x109 x110 x111 x112 x113 x114 x115 x116 x117 x118 x119 x120 x121 x122 x123 x124 x125 x126 x127 x128 x129 x130 x131 x132 x133 x134 x135 x136 x137 x138 x139 x140 x141 x142 x143 x144 x145 x146 x147 x148 x149 x150 x151 x152 x153 x154 x155 x156 x157 x158 x159 x160 x161 x162 x163 x164 x165 x166 x167 x168 x169 x170 x171 x172 x173 x174 x175 x176 x177 x178 x179 x180 x181 x182 x183 x184 x185 x186 x187 x188 x189 x190 x191 x192 x193 x194 x195 x196 x197 x198 x199 x200 x201 x202 x203 x204 x205 x206 x207 x208 x209 x210 x211 x212 x213 x214 x215 x216 x217 x218 x219 x220 x221 x222 x223 x224 x225 x226 x227 x228 x229 x230 x231 x232 x233 x234 x235 x236 x237 x238 x239 x240 x241 x242 x243 x244 x245 x246 x247 x248 x249 x250 x251 x252 x253 x254 x255 x256 x257 x258 x259 x260 x261 x262 x263 x264 x265 x266 x267 x268 x269 x270 x271 x272 x273 x274 x275 x276 x277 x278 x279 x280 x281 x282 x283 x284 x285 x286 x287 x288 x289 x290 x291:Value} {I:Act→World→Prop} {Q0:Exit→Act→World→Prop}
  (hF:∀ k,F k→k<w.heap.size) (hW:EWood F w w1 hue es A0 c0 A1 c1 A2 c2 (.slice none 0 0) (.slice none 0 0) (.slice none 0 0)) (hk:es.length=k) (h50:k<50) (hkid:LsAt F w 1 IRow Ak nk ck x.kids) (hk1:0<k)
  (hw2:w2=(w1.alloc (.cells #[.int .i64 x.op,.int .i64 x.n,.string x.s,.string x.name,.string x.src,.slice Ak nk ck] 91)).alloc (.cells #[.int .i64 x.op,.int .i64 x.n,.string x.s,.string x.name,.string x.src,.slice none 0 0] 89))
  (hE:EKids w2 wr (w1.heap.size+1) hue w1 k x args Aa ca) (hqn:q<nk) (hq4':q<4) (hal:args.length≤q)
  (hI:∀ (y9 y10 y11 y12 y49 y50 y51 y52 y53 y54 y55 y56 y57 y58 y59 y60 y61 y62 y63 y64 y65 y66 y67 y68 y69 y70 y71 y72 y73 y74 y75 y76 y77 y78 y79 y80 y81 y82 y83 y84 y85 y86 y87 y88 y89 y90 y91 y92 y93:Value) (W:World),KidsRel nk w2 (w1.heap.size+1) hue w1 k x y9 y10 y11 W→y11=.int .i64 ((q+1:Nat):Int)→I ⟨#[x0,x1,x2,x3,x4,.pointer (some ⟨w.heap.size+1,0,none⟩),.int .i64 (k:Int),.pointer (some ⟨w1.heap.size,0,none⟩),.pointer (some ⟨w1.heap.size+1,0,none⟩),y9,y10,y11,y12,x13,x14,x15,x16,x17,x18,x19,x20,x21,x22,x23,x24,x25,x26,x27,x28,x29,x30,x31,x32,x33,x34,x35,x36,x37,x38,x39,x40,x41,x42,x43,x44,x45,x46,x47,x48,y49,y50,y51,y52,y53,y54,y55,y56,y57,y58,y59,y60,y61,y62,y63,y64,y65,y66,y67,y68,y69,y70,y71,y72,y73,y74,y75,y76,y77,y78,y79,y80,y81,y82,y83,y84,y85,y86,y87,y88,y89,y90,y91,y92,y93,x94,x95,x96,x97,x98,x99,x100,x101,x102,x103,x104,x105,x106,x107,x108,x109,x110,x111,x112,x113,x114,x115,x116,x117,x118,x119,x120,x121,x122,x123,x124,x125,x126,x127,x128,x129,x130,x131,x132,x133,x134,x135,x136,x137,x138,x139,x140,x141,x142,x143,x144,x145,x146,x147,x148,x149,x150,x151,x152,x153,x154,x155,x156,x157,x158,x159,x160,x161,x162,x163,x164,x165,x166,x167,x168,x169,x170,x171,x172,x173,x174,x175,x176,x177,x178,x179,x180,x181,x182,x183,x184,x185,x186,x187,x188,x189,x190,x191,x192,x193,x194,x195,x196,x197,x198,x199,x200,x201,x202,x203,x204,x205,x206,x207,x208,x209,x210,x211,x212,x213,x214,x215,x216,x217,x218,x219,x220,x221,x222,x223,x224,x225,x226,x227,x228,x229,x230,x231,x232,x233,x234,x235,x236,x237,x238,x239,x240,x241,x242,x243,x244,x245,x246,x247,x248,x249,x250,x251,x252,x253,x254,x255,x256,x257,x258,x259,x260,x261,x262,x263,x264,x265,x266,x267,x268,x269,x270,x271,x272,x273,x274,x275,x276,x277,x278,x279,x280,x281,x282,x283,x284,x285,x286,x287,x288,x289,x290,x291],[]⟩ W) :
  Code.wp Tryz.prog (bodyAt 9) (Exit.then I (noPanic Q0)) ⟨#[x0,x1,x2,x3,x4,.pointer (some ⟨w.heap.size+1,0,none⟩),.int .i64 (k:Int),.pointer (some ⟨w1.heap.size,0,none⟩),.pointer (some ⟨w1.heap.size+1,0,none⟩),.int .i64 (1+sumT (args.map tellE)),.int .i64 (topT (args.map tellE)),.int .i64 (q:Int),x12,x13,x14,x15,x16,x17,x18,x19,x20,x21,x22,x23,x24,x25,x26,x27,x28,x29,x30,x31,x32,x33,x34,x35,x36,x37,x38,x39,x40,x41,x42,x43,x44,x45,x46,x47,x48,x49,x50,x51,x52,x53,x54,x55,x56,x57,x58,x59,x60,x61,x62,x63,x64,x65,x66,x67,x68,x69,x70,x71,x72,x73,x74,x75,x76,x77,x78,x79,x80,x81,x82,x83,x84,x85,x86,x87,x88,x89,x90,x91,x92,x93,x94,x95,x96,x97,x98,x99,x100,x101,x102,x103,x104,x105,x106,x107,x108,x109,x110,x111,x112,x113,x114,x115,x116,x117,x118,x119,x120,x121,x122,x123,x124,x125,x126,x127,x128,x129,x130,x131,x132,x133,x134,x135,x136,x137,x138,x139,x140,x141,x142,x143,x144,x145,x146,x147,x148,x149,x150,x151,x152,x153,x154,x155,x156,x157,x158,x159,x160,x161,x162,x163,x164,x165,x166,x167,x168,x169,x170,x171,x172,x173,x174,x175,x176,x177,x178,x179,x180,x181,x182,x183,x184,x185,x186,x187,x188,x189,x190,x191,x192,x193,x194,x195,x196,x197,x198,x199,x200,x201,x202,x203,x204,x205,x206,x207,x208,x209,x210,x211,x212,x213,x214,x215,x216,x217,x218,x219,x220,x221,x222,x223,x224,x225,x226,x227,x228,x229,x230,x231,x232,x233,x234,x235,x236,x237,x238,x239,x240,x241,x242,x243,x244,x245,x246,x247,x248,x249,x250,x251,x252,x253,x254,x255,x256,x257,x258,x259,x260,x261,x262,x263,x264,x265,x266,x267,x268,x269,x270,x271,x272,x273,x274,x275,x276,x277,x278,x279,x280,x281,x282,x283,x284,x285,x286,x287,x288,x289,x290,x291],[]⟩ wr:=by
 conv=>arg 2;whnf
 have HI:=Lhd hI
 clear hI
 have Hk:=Lhd hk
 clear hk
 have HW:=Lhd hW
 clear hW
 have hfew:=HW.out.few
 have hb2:Below w1.heap.size w1 w2:=by rw[hw2];exact((Below.refl _ _).alloc (Nat.le_refl _) _).alloc (by simp) _
 have hz2:w2.heap.size=w1.heap.size+2:=by rw[hw2];simp
 have hx2:IsBlk w2 w1.heap.size 91 #[.int .i64 x.op,.int .i64 x.n,.string x.s,.string x.name,.string x.src,.slice Ak nk ck]:=by rw[hw2];exact(IsBlk.laid _ _ _).alloc _
 clear hw2
 have hnk:=hkid.n_le
 have hbw:=HW.out.low.size
 have hbt:=HW.out.box.lt
 have Hx2:=Lhd (fun W (hW:But (fun b=>b=w1.heap.size+1) w2 W)=>hx2.as_was (hW.block _ hx2.lt (by omega)))
 have Ht2:=Lhd (fun W (hW:But (fun b=>b=w1.heap.size+1) w2 W)=>HW.out.box.as_was ((hW.block _ (Nat.lt_of_lt_of_le hbt hb2.size) (by omega)).trans (hb2.block _ hbt)))
 have Hk2:=Lhd (fun W (hW:But (fun b=>b=w1.heap.size+1) w2 W)=>((hkid.below HW.out.low).below hb2).kept (Kept.of_but hW (fun b hb=>by have:=hF b hb;omega)))
 have HR2:=Lhd (fun W (hW:But (fun b=>b=w1.heap.size+1) w2 W) b (hb:b<w1.heap.size)=>(hW.block b (Nat.lt_of_lt_of_le hb hb2.size) (by omega)).trans (hb2.block b hb))
 rw[Hk.out] at Ht2
 clear hx2 hkid
 have HE:=Lhd hE
 obtain⟨hsum,htop,hsb,htb,Hsum,Htop⟩:∃ hsum htop:Int,(0≤hsum∧hsum≤4000)∧(1≤htop∧htop≤1001)∧Hid (sumT (args.map tellE)=hsum)∧Hid (topT (args.map tellE)=htop) :=
  ⟨_,_,sum_four (by omega),topT_bd (fun t ht=>by obtain⟨a,_,rfl⟩:=List.mem_map.1 ht;exact tellE_ok a),rfl,rfl⟩
 obtain⟨hs0,hs1⟩:=hsb
 obtain⟨ht0,ht1⟩:=htb
 rw[Hsum.out,Htop.out]
 generalize hm:args.length=m at *
 have Hm:=Lhd hm
 clear hm hE
 obtain⟨l0,l1,l2,l3,l4,l5,ll⟩:=treeBox (Hx2.out _ HE.out.but)
 obtain⟨t0,t1,t2,_,_,_,tl⟩:=treeBox (Ht2.out _ HE.out.but)
 have hd3:decide ((q:Int)<(nk:Int))=true:=by simp;omega
 have hd4:decide ((q:Int)<4)=true:=by simp;omega
 obtain⟨bk,ok,rk,v,rfl,hbk,_,_,_,hv,hcv⟩:=(Hk2.out _ HE.out.but).get hqn
 obtain⟨rfl,okv⟩:=hv
 have hcv:=hcv 0 _ rfl
 rw[Nat.mul_one,Nat.add_zero] at hcv
 obtain⟨j,Hj⟩:∃ j,Hid (pickN v k=j):=⟨_,rfl⟩
 have hjk:j<k:=by rw[← Hj.out];exact pickN_lt v k (by omega)
 have hpk:=fun W=>pick_some v k W (by omega) (by omega)
 rw[Hj.out] at hpk
 have Hpk:=Lhd hpk
 clear hpk
 obtain⟨b0,b1,b2,re,a,rfl,rfl,rfl,hb0,hb1,hb2',haj,hrl2,hpa,hca,hcn,hcd,hu0,hu1,hu2⟩:=HW.out.tri.get (k:=j) (by rw[Hk.out];exact hjk)
 obtain⟨p1,p2,p3,p4,p5,A6,m6,c6,rfl,h6⟩:=hpa
 have Hpa:Hid (PE hue w1 j [.int .i64 a.op,.int .i64 a.n,.string a.s,.string a.name,.string a.src,.slice A6 m6 c6] a):=Lhd ⟨p1,p2,p3,p4,p5,A6,m6,c6,rfl,h6⟩
 clear h6
 have hR:=fun b hb i=>World.cell?_of_block (a:=⟨b,i,none⟩) (HR2.out wr HE.out.but b hb)
 have e0:=(hR b0 hb0 _).trans (hca 0 _ rfl)
 have e1:=(hR b0 hb0 _).trans (hca 1 _ rfl)
 have e2:=(hR b0 hb0 _).trans (hca 2 _ rfl)
 have e3:=(hR b0 hb0 _).trans (hca 3 _ rfl)
 have e4:=(hR b0 hb0 _).trans (hca 4 _ rfl)
 have e5:=(hR b0 hb0 _).trans (hca 5 _ rfl)
 have f1:=(hR b1 hb1 _).trans hcn
 have f2:=(hR b2 hb2' _).trans hcd
 rw[Nat.add_zero] at e0
 clear hR hca hcn hcd
 obtain⟨y0,y1,y2,y3,y4,y5,yl⟩:=treeBox HE.out.box
 rw[Hm.out] at y5
 go_wp2_with (go_at_call 27;refine(Hpk.out _).mono ?_;rintro e w' ⟨rfl,rfl⟩)
 obtain⟨rows,hown,hrlen,hrwid,hrP⟩:=HE.out.rows
 rw[Hm.out] at hown
 have HrP:=Lhd hrP
 have Hrw:=Lhd hrwid
 have Hrl:=Lhd hrlen
 clear hrP hrwid hrlen
 have hg2:=HE.out.but.size
 have hfz:=HE.out.box.frozen
 have hownA:((wr.drew).alloc (.cells #[.int .i64 a.op,.int .i64 a.n,.string a.s,.string a.name,.string a.src,.slice A6 m6 c6] 89)).ownsRow w2.heap.size 89 6 (.slice Aa m ca) m rows.flatten:=World.ownsRow.alloc (show wr.drew.ownsRow w2.heap.size 89 6 (.slice Aa m ca) m rows.flatten from hown) _
 have hnewA:RowsAt ((wr.drew).alloc (.cells #[.int .i64 a.op,.int .i64 a.n,.string a.s,.string a.name,.string a.src,.slice A6 m6 c6] 89)) 6 (some ⟨wr.heap.size,0,none⟩) 1 1 [[.int .i64 a.op,.int .i64 a.n,.string a.s,.string a.name,.string a.src,.slice A6 m6 c6]]:=RowsAt.lit' _ _ 1 (by rfl) rfl (by simp) rfl (by unfold maxLen;omega)
 have hm1:m+1≤maxLen:=by unfold maxLen;omega
 have hm2:(m+1)*88≤140737488355328:=by omega
 have hm3:w2.heap.size≤((wr.drew).alloc (.cells #[.int .i64 a.op,.int .i64 a.n,.string a.s,.string a.name,.string a.src,.slice A6 m6 c6] 89)).heap.size:=by simp;omega
 have hAl:∀ b,b<w2.heap.size→¬ Aa.map (·.block)=some b:=by
  intro b hb e
  cases Aa with
  | none=>cases e
  | some a2 =>
   have h:=(hown.lt a2.block rfl).1
   simp at e
   omega
 have HAl:=Lhd hAl
 clear hAl
 obtain⟨W0,HW0⟩:∃ W0,Hid (W0=(wr.drew).alloc (.cells #[.int .i64 a.op,.int .i64 a.n,.string a.s,.string a.name,.string a.src,.slice A6 m6 c6] 89)):=⟨_,rfl⟩
 have Hc3:=Lhd (fun (w3:World) (hb:But (fun k=>Aa.map (·.block)=some k) ((wr.drew).alloc (.cells #[.int .i64 a.op,.int .i64 a.n,.string a.s,.string a.name,.string a.src,.slice A6 m6 c6] 89)) w3) (b:Nat) (hb0:b<w2.heap.size) (i:Nat)=>(hb.cell (p:=⟨b,i,none⟩) (by simp;omega) (HAl.out b hb0)).trans (World.cell?_alloc_lt wr.drew _ ⟨b,i,none⟩ (show b<wr.heap.size by omega)))
 have Hf3:=Lhd (fun (w3:World) (hb:But (fun k=>Aa.map (·.block)=some k) ((wr.drew).alloc (.cells #[.int .i64 a.op,.int .i64 a.n,.string a.s,.string a.name,.string a.src,.slice A6 m6 c6] 89)) w3)=>((HE.out.box.alloc _).as_was (hb.block _ (by simp;omega) (HAl.out _ (by omega)))).frozen)
 have hbl3:∀ b,Aa.map (·.block)=some b→w2.heap.size≤b:=fun b hb=>by
  rcases Nat.lt_or_ge b w2.heap.size with hlt|hlt
  ·exact absurd hb (HAl.out b hlt)
  ·exact hlt
 have Hbl3:=Lhd hbl3
 clear hbl3
 have Hsn:=Lhd (sumT_snoc (args.map tellE) (tellE a))
 have Htn:=Lhd (topT_snoc (args.map tellE) (tellE a))
 have ⟨ta0,ta1,ta2,ta3⟩:=tellE_ok a
 generalize htl:tellE a=tl at *
 have Htl:=Lhd htl
 clear htl
 have n0:w.heap.size+1≠w1.heap.size+1:=by omega
 have n1:b1≠w1.heap.size+1:=by omega
 have n2:b2≠w1.heap.size+1:=by omega
 go_region_law (refine stepApp (base:=w2.heap.size) (xs:=rows) (news:=[[.int .i64 a.op,.int .i64 a.n,.string a.s,.string a.name,.string a.src,.slice A6 m6 c6]]) rfl rfl tyEx rfl hownA rfl hnewA (by simp) (by simp[Value.oneCell']) hm1 hm2 hm3 ?_;intro A3 c3 w3 hown3 hbut3 hf3;have hfz3:=Hf3.out w3 hbut3;have z0:=(Hc3.out w3 hbut3 _ (by omega) 5).trans y5)
 all_goals
  have z1:=(Hc3.out w3 hbut3 (w.heap.size+1) (by omega) 1).trans t1
  have z2:=(Hc3.out w3 hbut3 (w.heap.size+1) (by omega) 2).trans t2
  have z3:=(Hc3.out w3 hbut3 b1 (by omega) j).trans f1
  have z4:=(Hc3.out w3 hbut3 b2 (by omega) j).trans f2
  go_wp2
  all_goals
   have hA:=EKids.add HE.out Hm.out (by omega) Hrl.out Hrw.out HrP.out rfl (ExAt.conv (fun _ h=>h) (Kept.refl _ _) _ (by omega) Hpa.out) Hbl3.out hown3 hbut3 (fun a2 ha=>by
    rcases hf3 a2 ha with h|h
    ·exact Hbl3.out _ (by rw[h];rfl)
    ·exact Nat.le_trans hm3 h)
   refine HI.out _ _ _ _ _ _ _ _ _ _ _ _ _ _ _ _ _ _ _ _ _ _ _ _ _ _ _ _ _ _ _ _ _ _ _ _ _ _ _ _ _ _ _ _ _ _ _ _ _ _ ⟨q+1,args++[a],A3,c3,by omega,by omega,by rw[List.length_append,Hm.out];simp<;>omega,?_,?_,by go_num,hA⟩ (by go_num)
   ·rw[List.map_append,List.map_cons,List.map_nil,Htl.out,Hsn.out,Hsum.out,← Int.add_assoc]
   ·rw[List.map_append,List.map_cons,List.map_nil,Htl.out,Htn.out,Htop.out]<;>first|rw[ite_max]|exact congrArg (Value.int .i64) (by omega)
def KnotRel (w2:World) (g:Nat) (hue:Nat→Nat) (w1:World) (k:Nat) (x:Kn) (Ac:Option Addr) (nc cc nx:Nat) (a9 a10 a11:Value) (wr:World):Prop :=
 ∃ (q:Nat) (exprs:List Ex) (Ae:Option Addr) (ce:Nat),q≤nx∧q≤10∧exprs.length≤q∧a9=.int .i64 (1+sumT (exprs.map tellE))∧a10=.int .i64 (topT (exprs.map tellE))∧a11=.int .i64 q∧SKids w2 wr g hue w1 k x Ac nc cc exprs [] [] Ae ce none 0 none 0
theorem round4 (F:Nat→Prop) (w w1 w2 wr:World) (hue:Nat→Nat) (es:List Ex) (ss:List St) (A0 A1 A2 A3 A4 A5:Option Addr) (c0 c1 c2 c3 c4 c5 k ne:Nat) (x:Kn) (Ac Ax Ab Al:Option Addr) (nc cc nx cx nb cb nl cl q:Nat) (args:List Ex) (Aa:Option Addr) (ca:Nat) {x0 x1 x2 x3 x4 x6 x7 x8 x9 x10 x11 x12 x13 x19 x20 x21 x22 x23 x24 x25 x26 x27 x28 x29 x30 x31 x32 x33 x34 x35 x36 x37 x38 x39 x40 x41 x42 x43 x44 x45 x46 x47 x48 x49 x50 x51 x52 x53 x54 x55 x56 x57 x58 x59 x60 x61 x62 x63 x64 x65 x66 x67 x68 x69 x70 x71 x72 x73 x74 x75 x76 x77 x78 x79 x80 x81 x82 x83 x84 x85 x86 x87 x88 x89 x90 x91 x92 x93 x94 x95 x96 x97 x98 x99 x100 x101 x102 x103 x104 x105 x106 x107 x108 x109 x110 x111 x112 x113 x114 x115 x116 x117 x118 x119 x120 x121 x122 x123 x124 x125 x126 x127 x128 x129 x130 x131 x132 x133 x134 x135 x136 x137 x138 x139 x140 x141 x142 x143 x144 x145 x146 x147 x148 x149 x150 x151 x152 x153 x154 x155 x156 x157 x158 x159 x160 x161 x162 x163 x164 x165 x166 x167 x168 x169 x170 x171 x172 x173 x174 x175 x176 x177 x178 x179 x180 x181 x182 x183 x184 x185 x186 x187 x188 x189 x190 x191 x192 x193 x194 x195 x196 x197 x198 x199 x200 x201 x202 x203 x204 x205 x206 x207 x208 x209 x210 x211 x212 x213 x214 x215 x216 x217 x218 x219 x220 x221 x222 x223 x224 x225 x226 x227 x228 x229 x230 x231 x232 x233 x234 x235 x236 x237 x238 x239 x240 x241 x242 x243 x244 x245 x246 x247 x248 x249 x250 x251 x252 x253 x254 x255 x256 x257 x258 x259 x260 x261 x262 x263 x264 x265 x266 x267 x268 x269 x270 x271 x272 x273 x274 x275 x276 x277 x278 x279 x280 x281 x282 x283 x284 x285 x286 x287 x288 x289 x290 x291:Value} {I:Act→World→Prop} {Q0:Exit→Act→World→Prop}
  (hF:∀ k,F k→k<w.heap.size) (hW:SWood F w w1 hue es ss A0 c0 A1 c1 A2 c2 A3 c3 A4 c4 A5 c5) (hk:ss.length=k) (hne:es.length=ne)
  (hkx:LsAt F w1 1 IRow Ax nx cx x.exprs) (hkb:LsAt F w1 1 IRow Ab nb cb x.body) (hkl:LsAt F w1 1 IRow Al nl cl x.els)
  (hw2:w2=(w1.alloc (.cells #[.int .i64 x.op,.string x.name,.string x.src,.int .i64 x.n,.slice Ac nc cc,.slice Ax nx cx,.slice Ab nb cb,.slice Al nl cl] 93)).alloc (.cells #[.int .i64 x.op,.string x.name,.string x.src,.int .i64 x.n,.slice Ac nc cc,.slice none 0 0,.slice none 0 0,.slice none 0 0] 65))
  (hE:SKids w2 wr (w1.heap.size+1) hue w1 k x Ac nc cc args [] [] Aa ca none 0 none 0) (hqn:q<nx) (hq4':q<10) (hal:args.length≤q)
  (hI:∀ (y16 y17 y18 y19 y143 y144 y145 y146 y147 y148 y149 y150 y151 y152 y153 y154 y155 y156 y157 y158 y159 y160 y161 y162 y163 y164 y165 y166 y167 y168 y169 y170 y171 y172 y173 y174 y175 y176 y177 y178 y179 y180 y181 y182 y183 y184 y185 y186 y187 y188 y189:Value) (W:World),KnotRel w2 (w1.heap.size+1) hue w1 k x Ac nc cc nx y16 y17 y18 W→y18=.int .i64 ((q+1:Nat):Int)→I ⟨#[x0,x1,x2,x3,x4,.pointer (some ⟨w.heap.size+1,0,none⟩),x6,x7,x8,x9,x10,x11,x12,x13,.pointer (some ⟨w1.heap.size,0,none⟩),.pointer (some ⟨w1.heap.size+1,0,none⟩),y16,y17,y18,y19,x20,x21,x22,x23,x24,x25,x26,x27,x28,x29,x30,x31,x32,x33,x34,x35,x36,x37,x38,x39,x40,x41,x42,x43,x44,x45,x46,x47,x48,x49,x50,x51,x52,x53,x54,x55,x56,x57,x58,x59,x60,x61,x62,x63,x64,x65,x66,x67,x68,x69,x70,x71,x72,x73,x74,x75,x76,x77,x78,x79,x80,x81,x82,x83,x84,x85,x86,x87,x88,x89,x90,x91,x92,x93,x94,x95,x96,x97,x98,x99,x100,x101,x102,x103,x104,x105,x106,x107,x108,x109,x110,x111,x112,x113,x114,x115,x116,x117,x118,x119,x120,x121,x122,x123,x124,x125,x126,x127,x128,x129,x130,x131,x132,x133,x134,x135,x136,x137,x138,x139,x140,x141,x142,y143,y144,y145,y146,y147,y148,y149,y150,y151,y152,y153,y154,y155,y156,y157,y158,y159,y160,y161,y162,y163,y164,y165,y166,y167,y168,y169,y170,y171,y172,y173,y174,y175,y176,y177,y178,y179,y180,y181,y182,y183,y184,y185,y186,y187,y188,y189,x190,x191,x192,x193,x194,x195,x196,x197,x198,x199,x200,x201,x202,x203,x204,x205,x206,x207,x208,x209,x210,x211,x212,x213,x214,x215,x216,x217,x218,x219,x220,x221,x222,x223,x224,x225,x226,x227,x228,x229,x230,x231,x232,x233,x234,x235,x236,x237,x238,x239,x240,x241,x242,x243,x244,x245,x246,x247,x248,x249,x250,x251,x252,x253,x254,x255,x256,x257,x258,x259,x260,x261,x262,x263,x264,x265,x266,x267,x268,x269,x270,x271,x272,x273,x274,x275,x276,x277,x278,x279,x280,x281,x282,x283,x284,x285,x286,x287,x288,x289,x290,x291],[]⟩ W) :
  Code.wp Tryz.prog (bodyAt 27) (Exit.then I (noPanic Q0)) ⟨#[x0,x1,x2,x3,x4,.pointer (some ⟨w.heap.size+1,0,none⟩),x6,x7,x8,x9,x10,x11,x12,x13,.pointer (some ⟨w1.heap.size,0,none⟩),.pointer (some ⟨w1.heap.size+1,0,none⟩),.int .i64 (1+sumT (args.map tellE)),.int .i64 (topT (args.map tellE)),.int .i64 (q:Int),x19,x20,x21,x22,x23,x24,x25,x26,x27,x28,x29,x30,x31,x32,x33,x34,x35,x36,x37,x38,x39,x40,x41,x42,x43,x44,x45,x46,x47,x48,x49,x50,x51,x52,x53,x54,x55,x56,x57,x58,x59,x60,x61,x62,x63,x64,x65,x66,x67,x68,x69,x70,x71,x72,x73,x74,x75,x76,x77,x78,x79,x80,x81,x82,x83,x84,x85,x86,x87,x88,x89,x90,x91,x92,x93,x94,x95,x96,x97,x98,x99,x100,x101,x102,x103,x104,x105,x106,x107,x108,x109,x110,x111,x112,x113,x114,x115,x116,x117,x118,x119,x120,x121,x122,x123,x124,x125,x126,x127,x128,x129,x130,x131,x132,x133,x134,x135,x136,x137,x138,x139,x140,x141,x142,x143,x144,x145,x146,x147,x148,x149,x150,x151,x152,x153,x154,x155,x156,x157,x158,x159,x160,x161,x162,x163,x164,x165,x166,x167,x168,x169,x170,x171,x172,x173,x174,x175,x176,x177,x178,x179,x180,x181,x182,x183,x184,x185,x186,x187,x188,x189,x190,x191,x192,x193,x194,x195,x196,x197,x198,x199,x200,x201,x202,x203,x204,x205,x206,x207,x208,x209,x210,x211,x212,x213,x214,x215,x216,x217,x218,x219,x220,x221,x222,x223,x224,x225,x226,x227,x228,x229,x230,x231,x232,x233,x234,x235,x236,x237,x238,x239,x240,x241,x242,x243,x244,x245,x246,x247,x248,x249,x250,x251,x252,x253,x254,x255,x256,x257,x258,x259,x260,x261,x262,x263,x264,x265,x266,x267,x268,x269,x270,x271,x272,x273,x274,x275,x276,x277,x278,x279,x280,x281,x282,x283,x284,x285,x286,x287,x288,x289,x290,x291],[]⟩ wr:=by
 conv=>arg 2;whnf
 have HI:=Lhd hI
 clear hI
 have Hk:=Lhd hk
 clear hk
 have Hne:=Lhd hne
 clear hne
 have HW:=Lhd hW
 clear hW
 have hne50:ne≤50:=by rw[← Hne.out];exact HW.out.few
 have hb2:Below w1.heap.size w1 w2:=by rw[hw2];exact((Below.refl _ _).alloc (Nat.le_refl _) _).alloc (by simp) _
 have hz2:w2.heap.size=w1.heap.size+2:=by rw[hw2];simp
 have hx2:IsBlk w2 w1.heap.size 93 #[.int .i64 x.op,.string x.name,.string x.src,.int .i64 x.n,.slice Ac nc cc,.slice Ax nx cx,.slice Ab nb cb,.slice Al nl cl]:=by rw[hw2];exact(IsBlk.laid _ _ _).alloc _
 clear hw2
 have hnx:=hkx.n_le
 have hnb:=hkb.n_le
 have hnl:=hkl.n_le
 have hbw:=HW.out.low.size
 have hbt:=HW.out.box.lt
 have Hx2:=Lhd (fun W (hW:But (fun b=>b=w1.heap.size+1) w2 W)=>hx2.as_was (hW.block _ hx2.lt (by omega)))
 have Ht2:=Lhd (fun W (hW:But (fun b=>b=w1.heap.size+1) w2 W)=>HW.out.box.as_was ((hW.block _ (Nat.lt_of_lt_of_le hbt hb2.size) (by omega)).trans (hb2.block _ hbt)))
 have Kp:=Lhd (fun W (hW:But (fun b=>b=w1.heap.size+1) w2 W)=>(Kept.of_below hb2).trans (Kept.of_but (F:=F) hW (fun b hb=>by have:=hF b hb;omega)))
 have HR2:=Lhd (fun W (hW:But (fun b=>b=w1.heap.size+1) w2 W) b (hb:b<w1.heap.size)=>(hW.block b (Nat.lt_of_lt_of_le hb hb2.size) (by omega)).trans (hb2.block b hb))
 have Hkx:=Lhd hkx
 have Hkb:=Lhd hkb
 have Hkl:=Lhd hkl
 rw[Hk.out,Hne.out] at Ht2
 clear hx2 hkx hkb hkl
 have HE:=Lhd hE
 obtain⟨hsum,htop,hsb,htb,Hsum,Htop⟩:∃ hsum htop:Int,(0≤hsum∧hsum≤10000)∧(1≤htop∧htop≤1001)∧Hid (sumT (args.map tellE)=hsum)∧Hid (topT (args.map tellE)=htop) :=
  ⟨_,_,sum_ten (by omega),topT_bd (fun t ht=>by obtain⟨a,_,rfl⟩:=List.mem_map.1 ht;exact tellE_ok a),rfl,rfl⟩
 obtain⟨hs0,hs1⟩:=hsb
 obtain⟨ht0,ht1⟩:=htb
 rw[Hsum.out,Htop.out]
 generalize hm:args.length=m at *
 have Hm:=Lhd hm
 clear hm hE
 obtain⟨l0,l1,l2,l3,l4,l5,l6,l7,ll⟩:=knotBox (Hx2.out _ HE.out.but)
 obtain⟨t0,t1,t2,_,_,_,tl⟩:=treeBox (Ht2.out _ HE.out.but)
 have hd3:decide ((q:Int)<(nx:Int))=true:=by simp;omega
 have hd4:decide ((q:Int)<10)=true:=by simp;omega
 obtain⟨bk,ok,rk,v,rfl,hbk,_,_,_,hv,hcv⟩:=(Hkx.out.kept (Kp.out _ HE.out.but)).get hqn
 obtain⟨rfl,okv⟩:=hv
 have hcv:=hcv 0 _ rfl
 rw[Nat.mul_one,Nat.add_zero] at hcv
 by_cases hk0:ne=0
 ·have Hk0:=Lhd hk0
  clear hk0
  have Hpk:=Lhd (fun W=>(pick_zero v ne W Hk0.out).mono fun _ _ ⟨he,hw⟩=>And.intro he hw.symm)
  go_wp2
  go_quiet ((go_at_call 27;exact Calls.quiet_of_same (Hpk.out _)))
  go_wp2
  exact HI.out _ _ _ _ _ _ _ _ _ _ _ _ _ _ _ _ _ _ _ _ _ _ _ _ _ _ _ _ _ _ _ _ _ _ _ _ _ _ _ _ _ _ _ _ _ _ _ _ _ _ _ _ ⟨q+1,args,Aa,ca,by omega,by omega,by have:=Hm.out;omega,by rw[Hsum.out],by rw[Htop.out],by go_num,HE.out.drewN _⟩ (by go_num)
 ·obtain⟨j,Hj⟩:∃ j,Hid (pickN v ne=j):=⟨_,rfl⟩
  have hjk:j<ne:=by rw[← Hj.out];exact pickN_lt v ne (by omega)
  have hpk:=fun W=>(pick_some v ne W (by omega) (by omega)).mono fun _ _ ⟨he,hw⟩=>And.intro he hw.symm
  rw[Hj.out] at hpk
  have Hpk:=Lhd hpk
  clear hpk hk0
  obtain⟨b0,o0,a,A6,m6,c6,rfl,hb0,haj,hca0,hca1,hca2,hca3,hca4,hca5,hpa,_⟩:=ExsAt.get HW.out.exs (k:=j) (by rw[Hne.out];exact hjk)
  obtain⟨b1,oo1,r1,y1,rfl,hb1,_,hy1,_,hr1,hcn⟩:=HW.out.nod.get (k:=j) (by rw[Hne.out];exact hjk)
  obtain⟨b2,oo2,r2,y2,rfl,hb2',_,hy2,_,hr2,hcd⟩:=HW.out.dep.get (k:=j) (by rw[Hne.out];exact hjk)
  obtain⟨rfl,_⟩:=hr1
  obtain⟨rfl,_⟩:=hr2
  rw[List.getElem?_map,haj] at hy1 hy2
  injection hy1 with hy1
  injection hy2 with hy2
  subst hy1 hy2
  have Hpa:=Lhd hpa
  have hcn:=hcn 0 _ rfl
  have hcd:=hcd 0 _ rfl
  rw[Nat.mul_one,Nat.add_zero] at hcn hcd
  have hR:=fun b hb i=>World.cell?_of_block (a:=⟨b,i,none⟩) (HR2.out wr HE.out.but b hb)
  have e0:=(hR b0 hb0 _).trans hca0
  have e1:=(hR b0 hb0 _).trans hca1
  have e2:=(hR b0 hb0 _).trans hca2
  have e3:=(hR b0 hb0 _).trans hca3
  have e4:=(hR b0 hb0 _).trans hca4
  have e5:=(hR b0 hb0 _).trans hca5
  have f1:=(hR b1 hb1 _).trans hcn
  have f2:=(hR b2 hb2' _).trans hcd
  clear hR hca0 hca1 hca2 hca3 hca4 hca5 hcn hcd hpa
  obtain⟨y0,y1,y2,y3,y4,y5,y6,y7,yl⟩:=knotBox HE.out.box
  rw[Hm.out] at y5
  go_wp2
  go_quiet ((go_at_call 27;exact Calls.quiet_of_same (Hpk.out _)))
  go_wp2
  have HEq:=Lhd (HE.out.drewN nq)
  replace y5:(wr.drewN nq).cell? ⟨w1.heap.size+1,5,none⟩=some (.slice Aa m ca):=y5
  replace yl:w1.heap.size+1<(wr.drewN nq).heap.size:=yl
  replace tl:w.heap.size+1<(wr.drewN nq).heap.size:=tl
  replace t0:(wr.drewN nq).cell? ⟨w.heap.size+1,0,none⟩=some (.slice (some ⟨b0,o0,none⟩) ne c0):=t0
  replace t1:(wr.drewN nq).cell? ⟨w.heap.size+1,1,none⟩=some (.slice (some ⟨b1,oo1,none⟩) ne c1):=t1
  replace t2:(wr.drewN nq).cell? ⟨w.heap.size+1,2,none⟩=some (.slice (some ⟨b2,oo2,none⟩) ne c2):=t2
  replace e0:(wr.drewN nq).cell? ⟨b0,o0+j*6,none⟩=some (.int .i64 a.op):=e0
  replace e1:(wr.drewN nq).cell? ⟨b0,o0+j*6+1,none⟩=some (.int .i64 a.n):=e1
  replace e2:(wr.drewN nq).cell? ⟨b0,o0+j*6+2,none⟩=some (.string a.s):=e2
  replace e3:(wr.drewN nq).cell? ⟨b0,o0+j*6+3,none⟩=some (.string a.name):=e3
  replace e4:(wr.drewN nq).cell? ⟨b0,o0+j*6+4,none⟩=some (.string a.src):=e4
  replace e5:(wr.drewN nq).cell? ⟨b0,o0+j*6+5,none⟩=some (.slice A6 m6 c6):=e5
  replace f1:(wr.drewN nq).cell? ⟨b1,oo1+j,none⟩=some (.int .i64 (tellE a).1):=f1
  replace f2:(wr.drewN nq).cell? ⟨b2,oo2+j,none⟩=some (.int .i64 (tellE a).2):=f2
  generalize wr.drewN nq=W5 at *
  obtain⟨rows,hown,hrlen,hrwid,hrP⟩:=HEq.out.exs
  rw[Hm.out] at hown
  have HrP:=Lhd hrP
  have Hrw:=Lhd hrwid
  have Hrl:=Lhd hrlen
  clear hrP hrwid hrlen
  have hg2:=HEq.out.but.size
  have hfz:=HEq.out.box.frozen
  have hownA:((W5.drew).alloc (.cells #[.int .i64 a.op,.int .i64 a.n,.string a.s,.string a.name,.string a.src,.slice A6 m6 c6] 89)).ownsRow w2.heap.size 89 6 (.slice Aa m ca) m rows.flatten:=World.ownsRow.alloc (show W5.drew.ownsRow w2.heap.size 89 6 (.slice Aa m ca) m rows.flatten from hown) _
  have hnewA:RowsAt ((W5.drew).alloc (.cells #[.int .i64 a.op,.int .i64 a.n,.string a.s,.string a.name,.string a.src,.slice A6 m6 c6] 89)) 6 (some ⟨W5.heap.size,0,none⟩) 1 1 [[.int .i64 a.op,.int .i64 a.n,.string a.s,.string a.name,.string a.src,.slice A6 m6 c6]]:=RowsAt.lit' _ _ 1 (by rfl) rfl (by simp) rfl (by unfold maxLen;omega)
  have hm1:m+1≤maxLen:=by unfold maxLen;omega
  have hm2:(m+1)*88≤140737488355328:=by omega
  have hm3:w2.heap.size≤((W5.drew).alloc (.cells #[.int .i64 a.op,.int .i64 a.n,.string a.s,.string a.name,.string a.src,.slice A6 m6 c6] 89)).heap.size:=by simp;omega
  have hlo:=HEq.out.exs.lo
  have hAl:∀ b,b<w2.heap.size→¬ Aa.map (·.block)=some b:=by
   intro b hb e
   cases Aa with
   | none=>cases e
   | some a2 =>
    have h:=(hlo a2 rfl).1
    simp at e
    omega
  have HAl:=Lhd hAl
  clear hAl hlo
  have Hc3:=Lhd (fun (w3:World) (hb:But (fun k=>Aa.map (·.block)=some k) ((W5.drew).alloc (.cells #[.int .i64 a.op,.int .i64 a.n,.string a.s,.string a.name,.string a.src,.slice A6 m6 c6] 89)) w3) (b:Nat) (hb0:b<w2.heap.size) (i:Nat)=>(hb.cell (p:=⟨b,i,none⟩) (by simp;omega) (HAl.out b hb0)).trans (World.cell?_alloc_lt W5.drew _ ⟨b,i,none⟩ (show b<W5.heap.size by omega)))
  have Hf3:=Lhd (fun (w3:World) (hb:But (fun k=>Aa.map (·.block)=some k) ((W5.drew).alloc (.cells #[.int .i64 a.op,.int .i64 a.n,.string a.s,.string a.name,.string a.src,.slice A6 m6 c6] 89)) w3)=>(((show IsBlk W5.drew (w1.heap.size+1) _ _ from HEq.out.box).alloc _).as_was (hb.block _ (by simp;omega) (HAl.out _ (by omega)))).frozen)
  have Hsn:=Lhd (sumT_snoc (args.map tellE) (tellE a))
  have Htn:=Lhd (topT_snoc (args.map tellE) (tellE a))
  have ⟨ta0,ta1,ta2,ta3⟩:=tellE_ok a
  generalize htl:tellE a=tl at *
  have Htl:=Lhd htl
  clear htl
  have n0:w.heap.size+1≠w1.heap.size+1:=by omega
  have n1:b1≠w1.heap.size+1:=by omega
  have n2:b2≠w1.heap.size+1:=by omega
  go_region_law (refine stepApp (base:=w2.heap.size) (xs:=rows) (news:=[[.int .i64 a.op,.int .i64 a.n,.string a.s,.string a.name,.string a.src,.slice A6 m6 c6]]) rfl rfl tyEx rfl hownA rfl hnewA (by simp) (by simp[Value.oneCell']) hm1 hm2 hm3 ?_;intro A3' c3' w3 hown3 hbut3 hf3;have hfz3:=Hf3.out w3 hbut3;have z0:=(Hc3.out w3 hbut3 _ (by omega) 5).trans y5)
  all_goals
   have z1:=(Hc3.out w3 hbut3 (w.heap.size+1) (by omega) 1).trans t1
   have z2:=(Hc3.out w3 hbut3 (w.heap.size+1) (by omega) 2).trans t2
   have z3:=(Hc3.out w3 hbut3 b1 (by omega) (oo1+j)).trans f1
   have z4:=(Hc3.out w3 hbut3 b2 (by omega) (oo2+j)).trans f2
   go_wp2
   all_goals
    have hA:=HEq.out.addE Hm.out (by omega) Hrl.out Hrw.out HrP.out rfl Hpa.out hown3 hbut3 hf3
    refine HI.out _ _ _ _ _ _ _ _ _ _ _ _ _ _ _ _ _ _ _ _ _ _ _ _ _ _ _ _ _ _ _ _ _ _ _ _ _ _ _ _ _ _ _ _ _ _ _ _ _ _ _ _ ⟨q+1,args++[a],A3',c3',by omega,by omega,by rw[List.length_append,Hm.out];simp<;>omega,?_,?_,by go_num,hA⟩ (by go_num)
    ·rw[List.map_append,List.map_cons,List.map_nil,Htl.out,Hsn.out,Hsum.out,← Int.add_assoc]
    ·rw[List.map_append,List.map_cons,List.map_nil,Htl.out,Htn.out,Htop.out]<;>first|rw[ite_max]|exact congrArg (Value.int .i64) (by omega)
def BodyRel (w2:World) (g:Nat) (hue:Nat→Nat) (w1:World) (k:Nat) (x:Kn) (Ac:Option Addr) (nc cc:Nat) (exprs:List Ex) (Ae:Option Addr) (ce:Nat) (sE tE:Int) (a9 a10 a11:Value) (wr:World):Prop :=
 ∃ (q:Nat) (body els:List St) (Bb:Option Addr) (db:Nat) (Bl:Option Addr) (dl:Nat),q≤10∧body.length+els.length≤q∧a9=.int .i64 (1+(sE+sumT (body.map tellS)+sumT (els.map tellS)))∧a10=.int .i64 (max (max tE (topT (body.map tellS))) (topT (els.map tellS)))∧a11=.int .i64 q∧SKids w2 wr g hue w1 k x Ac nc cc exprs body els Ae ce Bb db Bl dl
theorem round5B (F:Nat→Prop) (w w1 w2 wr:World) (hue:Nat→Nat) (es:List Ex) (ss:List St) (A0 A1 A2 A3 A4 A5:Option Addr) (c0 c1 c2 c3 c4 c5 k ne:Nat) (x:Kn) (Ac Ax Ab Al:Option Addr) (nc cc nx cx nb cb nl cl q:Nat) (exprs:List Ex) (body els:List St) (Ae:Option Addr) (ce:Nat) (Bb:Option Addr) (db:Nat) (Bl:Option Addr) (dl:Nat) (sE tE:Int) {x0 x1 x2 x3 x4 x6 x7 x8 x9 x10 x11 x12 x18 x19 x21 x22 x23 x24 x25 x26 x27 x28 x29 x30 x31 x32 x33 x34 x35 x36 x37 x38 x39 x40 x41 x42 x43 x44 x45 x46 x47 x48 x49 x50 x51 x52 x53 x54 x55 x56 x57 x58 x59 x60 x61 x62 x63 x64 x65 x66 x67 x68 x69 x70 x71 x72 x73 x74 x75 x76 x77 x78 x79 x80 x81 x82 x83 x84 x85 x86 x87 x88 x89 x90 x91 x92 x93 x94 x95 x96 x97 x98 x99 x100 x101 x102 x103 x104 x105 x106 x107 x108 x109 x110 x111 x112 x113 x114 x115 x116 x117 x118 x119 x120 x121 x122 x123 x124 x125 x126 x127 x128 x129 x130 x131 x132 x133 x134 x135 x136 x137 x138 x139 x140 x141 x142 x143 x144 x145 x146 x147 x148 x149 x150 x151 x152 x153 x154 x155 x156 x157 x158 x159 x160 x161 x162 x163 x164 x165 x166 x167 x168 x169 x170 x171 x172 x173 x174 x175 x176 x177 x178 x179 x180 x181 x182 x183 x184 x185 x186 x187 x188 x189 x190 x191 x192 x193 x194 x195 x196 x197 x198 x199 x200 x201 x202 x203 x204 x205 x206 x207 x208 x209 x210 x211 x212 x213 x214 x215 x216 x217 x218 x219 x220 x221 x222 x223 x224 x225 x226 x227 x228 x229 x230 x231 x232 x233 x234 x235 x236 x237 x238 x239 x240 x241 x242 x243 x244 x245 x246 x247 x248 x249 x250 x251 x252 x253 x254 x255 x256 x257 x258 x259 x260 x261 x262 x263 x264 x265 x266 x267 x268 x269 x270 x271 x272 x273 x274 x275 x276 x277 x278 x279 x280 x281 x282 x283 x284 x285 x286 x287 x288 x289 x290 x291:Value} {I:Act→World→Prop} {Q0:Exit→Act→World→Prop}
  (hF:∀ k,F k→k<w.heap.size) (hW:SWood F w w1 hue es ss A0 c0 A1 c1 A2 c2 A3 c3 A4 c4 A5 c5) (hk:ss.length=k) (hne:es.length=ne) (h50:k<50)
  (hkx:LsAt F w1 1 IRow Ax nx cx x.exprs) (hkb:LsAt F w1 1 IRow Ab nb cb x.body) (hkl:LsAt F w1 1 IRow Al nl cl x.els)
  (hw2:w2=(w1.alloc (.cells #[.int .i64 x.op,.string x.name,.string x.src,.int .i64 x.n,.slice Ac nc cc,.slice Ax nx cx,.slice Ab nb cb,.slice Al nl cl] 93)).alloc (.cells #[.int .i64 x.op,.string x.name,.string x.src,.int .i64 x.n,.slice Ac nc cc,.slice none 0 0,.slice none 0 0,.slice none 0 0] 65))
  (hE:SKids w2 wr (w1.heap.size+1) hue w1 k x Ac nc cc exprs body els Ae ce Bb db Bl dl) (hq10':q<10) (hqN:(q:Int)<wrap64 ((nb:Int)+(nl:Int))) (hqb:q<nb) (hal:body.length+els.length≤q) (hse:0≤sE∧sE≤10000) (hte:1≤tE∧tE≤1001)
  (hI:∀ (y16 y17 y20 y21 y22 y190 y191 y192 y193 y194 y195 y196 y197 y198 y199 y200 y201 y202 y203 y204 y205 y206 y207 y208 y209 y210 y211 y212 y213 y214 y215 y216 y217 y218 y219 y220 y221 y222 y223 y224 y225 y226 y227 y228 y229 y230 y231 y232 y233 y234 y235 y236 y237 y238 y239 y240 y241 y242 y243 y244 y245 y246 y247 y248 y249 y250 y251 y252 y253 y254 y255 y256 y257 y258 y259 y260 y261 y262 y263 y264 y265 y266:Value) (W:World),BodyRel w2 (w1.heap.size+1) hue w1 k x Ac nc cc exprs Ae ce sE tE y16 y17 y20 W→y20=.int .i64 ((q+1:Nat):Int)→I ⟨#[x0,x1,x2,x3,x4,.pointer (some ⟨w.heap.size+1,0,none⟩),x6,x7,x8,x9,x10,x11,x12,.int .i64 (k:Int),.pointer (some ⟨w1.heap.size,0,none⟩),.pointer (some ⟨w1.heap.size+1,0,none⟩),y16,y17,x18,x19,y20,y21,y22,x23,x24,x25,x26,x27,x28,x29,x30,x31,x32,x33,x34,x35,x36,x37,x38,x39,x40,x41,x42,x43,x44,x45,x46,x47,x48,x49,x50,x51,x52,x53,x54,x55,x56,x57,x58,x59,x60,x61,x62,x63,x64,x65,x66,x67,x68,x69,x70,x71,x72,x73,x74,x75,x76,x77,x78,x79,x80,x81,x82,x83,x84,x85,x86,x87,x88,x89,x90,x91,x92,x93,x94,x95,x96,x97,x98,x99,x100,x101,x102,x103,x104,x105,x106,x107,x108,x109,x110,x111,x112,x113,x114,x115,x116,x117,x118,x119,x120,x121,x122,x123,x124,x125,x126,x127,x128,x129,x130,x131,x132,x133,x134,x135,x136,x137,x138,x139,x140,x141,x142,x143,x144,x145,x146,x147,x148,x149,x150,x151,x152,x153,x154,x155,x156,x157,x158,x159,x160,x161,x162,x163,x164,x165,x166,x167,x168,x169,x170,x171,x172,x173,x174,x175,x176,x177,x178,x179,x180,x181,x182,x183,x184,x185,x186,x187,x188,x189,y190,y191,y192,y193,y194,y195,y196,y197,y198,y199,y200,y201,y202,y203,y204,y205,y206,y207,y208,y209,y210,y211,y212,y213,y214,y215,y216,y217,y218,y219,y220,y221,y222,y223,y224,y225,y226,y227,y228,y229,y230,y231,y232,y233,y234,y235,y236,y237,y238,y239,y240,y241,y242,y243,y244,y245,y246,y247,y248,y249,y250,y251,y252,y253,y254,y255,y256,y257,y258,y259,y260,y261,y262,y263,y264,y265,y266,x267,x268,x269,x270,x271,x272,x273,x274,x275,x276,x277,x278,x279,x280,x281,x282,x283,x284,x285,x286,x287,x288,x289,x290,x291],[]⟩ W) :
  Code.wp Tryz.prog (bodyAt 35) (Exit.then I (noPanic Q0)) ⟨#[x0,x1,x2,x3,x4,.pointer (some ⟨w.heap.size+1,0,none⟩),x6,x7,x8,x9,x10,x11,x12,.int .i64 (k:Int),.pointer (some ⟨w1.heap.size,0,none⟩),.pointer (some ⟨w1.heap.size+1,0,none⟩),.int .i64 (1+(sE+sumT (body.map tellS)+sumT (els.map tellS))),.int .i64 (max (max tE (topT (body.map tellS))) (topT (els.map tellS))),x18,x19,.int .i64 (q:Int),x21,x22,x23,x24,x25,x26,x27,x28,x29,x30,x31,x32,x33,x34,x35,x36,x37,x38,x39,x40,x41,x42,x43,x44,x45,x46,x47,x48,x49,x50,x51,x52,x53,x54,x55,x56,x57,x58,x59,x60,x61,x62,x63,x64,x65,x66,x67,x68,x69,x70,x71,x72,x73,x74,x75,x76,x77,x78,x79,x80,x81,x82,x83,x84,x85,x86,x87,x88,x89,x90,x91,x92,x93,x94,x95,x96,x97,x98,x99,x100,x101,x102,x103,x104,x105,x106,x107,x108,x109,x110,x111,x112,x113,x114,x115,x116,x117,x118,x119,x120,x121,x122,x123,x124,x125,x126,x127,x128,x129,x130,x131,x132,x133,x134,x135,x136,x137,x138,x139,x140,x141,x142,x143,x144,x145,x146,x147,x148,x149,x150,x151,x152,x153,x154,x155,x156,x157,x158,x159,x160,x161,x162,x163,x164,x165,x166,x167,x168,x169,x170,x171,x172,x173,x174,x175,x176,x177,x178,x179,x180,x181,x182,x183,x184,x185,x186,x187,x188,x189,x190,x191,x192,x193,x194,x195,x196,x197,x198,x199,x200,x201,x202,x203,x204,x205,x206,x207,x208,x209,x210,x211,x212,x213,x214,x215,x216,x217,x218,x219,x220,x221,x222,x223,x224,x225,x226,x227,x228,x229,x230,x231,x232,x233,x234,x235,x236,x237,x238,x239,x240,x241,x242,x243,x244,x245,x246,x247,x248,x249,x250,x251,x252,x253,x254,x255,x256,x257,x258,x259,x260,x261,x262,x263,x264,x265,x266,x267,x268,x269,x270,x271,x272,x273,x274,x275,x276,x277,x278,x279,x280,x281,x282,x283,x284,x285,x286,x287,x288,x289,x290,x291],[]⟩ wr:=by
 conv=>arg 2;whnf
 have HI:=Lhd hI
 clear hI
 have Hk:=Lhd hk
 clear hk
 have Hne:=Lhd hne
 clear hne
 have HW:=Lhd hW
 clear hW
 have hne50:ne≤50:=by rw[← Hne.out];exact HW.out.few
 have hb2:Below w1.heap.size w1 w2:=by rw[hw2];exact((Below.refl _ _).alloc (Nat.le_refl _) _).alloc (by simp) _
 have hz2:w2.heap.size=w1.heap.size+2:=by rw[hw2];simp
 have hx2:IsBlk w2 w1.heap.size 93 #[.int .i64 x.op,.string x.name,.string x.src,.int .i64 x.n,.slice Ac nc cc,.slice Ax nx cx,.slice Ab nb cb,.slice Al nl cl]:=by rw[hw2];exact(IsBlk.laid _ _ _).alloc _
 clear hw2
 have hnx:=hkx.n_le
 have hnb:=hkb.n_le
 have hnl:=hkl.n_le
 have hbw:=HW.out.low.size
 have hbt:=HW.out.box.lt
 have Hx2:=Lhd (fun W (hW:But (fun b=>b=w1.heap.size+1) w2 W)=>hx2.as_was (hW.block _ hx2.lt (by omega)))
 have Ht2:=Lhd (fun W (hW:But (fun b=>b=w1.heap.size+1) w2 W)=>HW.out.box.as_was ((hW.block _ (Nat.lt_of_lt_of_le hbt hb2.size) (by omega)).trans (hb2.block _ hbt)))
 have Kp:=Lhd (fun W (hW:But (fun b=>b=w1.heap.size+1) w2 W)=>(Kept.of_below hb2).trans (Kept.of_but (F:=F) hW (fun b hb=>by have:=hF b hb;omega)))
 have HR2:=Lhd (fun W (hW:But (fun b=>b=w1.heap.size+1) w2 W) b (hb:b<w1.heap.size)=>(hW.block b (Nat.lt_of_lt_of_le hb hb2.size) (by omega)).trans (hb2.block b hb))
 have Hkx:=Lhd hkx
 have Hkb:=Lhd hkb
 have Hkl:=Lhd hkl
 rw[Hk.out,Hne.out] at Ht2
 clear hx2 hkx hkb hkl
 obtain⟨N,hN,HN⟩:∃ N:Int,wrap64 ((nb:Int)+(nl:Int))=N∧Hid (∀ q:Nat,(q:Int)<N→q<nb+nl):=⟨_,rfl,Lhd (fun _ hq=>wrap_two hnb hnl hq)⟩
 rw[hN] at hqN
 have HE:=Lhd hE
 have hbb:=sum_tenS (args:=body) (by omega)
 have hbl':=sum_tenS (args:=els) (by omega)
 have htb:=topT_bd (l:=body.map tellS) (fun t ht=>by obtain⟨a,_,rfl⟩:=List.mem_map.1 ht;exact tellS_ok a)
 have htl':=topT_bd (l:=els.map tellS) (fun t ht=>by obtain⟨a,_,rfl⟩:=List.mem_map.1 ht;exact tellS_ok a)
 obtain⟨hsum,htop,hsb,htb',Hsum,Htop⟩:∃ hsum htop:Int,(0≤hsum∧hsum≤30000)∧(1≤htop∧htop≤1001)∧Hid (sE+sumT (body.map tellS)+sumT (els.map tellS)=hsum)∧Hid (max (max tE (topT (body.map tellS))) (topT (els.map tellS))=htop) :=
  ⟨_,_,by omega,by omega,rfl,rfl⟩
 clear hbb hbl' htb htl'
 obtain⟨hs0,hs1⟩:=hsb
 obtain⟨ht0,ht1⟩:=htb'
 rw[Hsum.out,Htop.out]
 generalize hmb:body.length=mB at *
 have Hmb:=Lhd hmb
 generalize hml:els.length=mL at *
 have Hml:=Lhd hml
 clear hmb hml hE
 obtain⟨l0,l1,l2,l3,l4,l5,l6,l7,ll⟩:=knotBox (Hx2.out _ HE.out.but)
 obtain⟨t0,t1,t2,t3,t4,t5,tl⟩:=treeBox (Ht2.out _ HE.out.but)
 have hd3:decide ((q:Int)<N)=true:=by simpa using hqN
 have hd4:decide ((q:Int)<10)=true:=by simp;omega
 have hqs':=HN.out q hqN
 have hd5:decide ((q:Int)<(nb:Int))=true:=by simp;omega
 obtain⟨bk,ok,rk,v,rfl,hbk,_,_,_,hv,hcv⟩:=(Hkb.out.kept (Kp.out _ HE.out.but)).get hqb
 obtain⟨rfl,okv⟩:=hv
 have hcv:=hcv 0 _ rfl
 rw[Nat.mul_one,Nat.add_zero] at hcv
 by_cases hk0:k=0
 ·have Hk0:=Lhd hk0
  clear hk0
  go_wp2_with (go_at_call 27;refine(pick_zero v k _ Hk0.out).mono ?_;rintro e w' ⟨rfl,rfl⟩)
  exact HI.out _ _ _ _ _ _ _ _ _ _ _ _ _ _ _ _ _ _ _ _ _ _ _ _ _ _ _ _ _ _ _ _ _ _ _ _ _ _ _ _ _ _ _ _ _ _ _ _ _ _ _ _ _ _ _ _ _ _ _ _ _ _ _ _ _ _ _ _ _ _ _ _ _ _ _ _ _ _ _ _ _ _ _ ⟨q+1,body,els,Bb,db,Bl,dl,by omega,by have:=Hmb.out;have:=Hml.out;omega,by rw[Hsum.out],by rw[Htop.out],by go_num,HE.out⟩ (by go_num)
 ·obtain⟨j,Hj⟩:∃ j,Hid (pickN v k=j):=⟨_,rfl⟩
  have hjk:j<k:=by rw[← Hj.out];exact pickN_lt v k (by omega)
  have hpk:=fun W=>pick_some v k W (by omega) (by omega)
  rw[Hj.out] at hpk
  have Hpk:=Lhd hpk
  clear hpk hk0
  obtain⟨b0,b1,b2,re,a,rfl,rfl,rfl,hb0,hb1,hb2',haj,hrl2,hpa,hca,hcn,hcd,hu0,hu1,hu2⟩:=HW.out.tri.get (k:=j) (by rw[Hk.out];exact hjk)
  obtain⟨p1,p2,p3,p4,Ac2,nc2,cc2,Ae2,ne2,ce2,Ab2,nb2,cb2,Al2,nl2,cl2,rfl,h6⟩:=hpa
  have Hpa:Hid (PS hue w1 j [.int .i64 a.op,.string a.name,.string a.src,.int .i64 a.n,.slice Ac2 nc2 cc2,.slice Ae2 ne2 ce2,.slice Ab2 nb2 cb2,.slice Al2 nl2 cl2] a):=Lhd ⟨p1,p2,p3,p4,Ac2,nc2,cc2,Ae2,ne2,ce2,Ab2,nb2,cb2,Al2,nl2,cl2,rfl,h6⟩
  clear h6
  have hR:=fun b hb i=>World.cell?_of_block (a:=⟨b,i,none⟩) (HR2.out wr HE.out.but b hb)
  have e0:=(hR b0 hb0 _).trans (hca 0 _ rfl)
  have e1:=(hR b0 hb0 _).trans (hca 1 _ rfl)
  have e2:=(hR b0 hb0 _).trans (hca 2 _ rfl)
  have e3:=(hR b0 hb0 _).trans (hca 3 _ rfl)
  have e4:=(hR b0 hb0 _).trans (hca 4 _ rfl)
  have e5:=(hR b0 hb0 _).trans (hca 5 _ rfl)
  have e6:=(hR b0 hb0 _).trans (hca 6 _ rfl)
  have e7:=(hR b0 hb0 _).trans (hca 7 _ rfl)
  have f1:=(hR b1 hb1 _).trans hcn
  have f2:=(hR b2 hb2' _).trans hcd
  rw[Nat.add_zero] at e0
  clear hR hca hcn hcd
  obtain⟨y0,y1,y2,y3,y4,y5,y6,y7,yl⟩:=knotBox HE.out.box
  rw[Hmb.out] at y6
  obtain⟨rows,hown,hrlen,hrwid,hrP⟩:=HE.out.bod
  rw[Hmb.out] at hown
  have HrP:=Lhd hrP
  have Hrw:=Lhd hrwid
  have Hrl:=Lhd hrlen
  clear hrP hrwid hrlen
  have hg2:=HE.out.but.size
  have hfz:=HE.out.box.frozen
  have hownA:(wr.drew.alloc (.cells #[.int .i64 a.op,.string a.name,.string a.src,.int .i64 a.n,.slice Ac2 nc2 cc2,.slice Ae2 ne2 ce2,.slice Ab2 nb2 cb2,.slice Al2 nl2 cl2] 65)).ownsRow w2.heap.size 65 8 (.slice Bb mB db) mB rows.flatten:=World.ownsRow.alloc (show wr.drew.ownsRow w2.heap.size 65 8 (.slice Bb mB db) mB rows.flatten from hown) _
  have hnewA:RowsAt (wr.drew.alloc (.cells #[.int .i64 a.op,.string a.name,.string a.src,.int .i64 a.n,.slice Ac2 nc2 cc2,.slice Ae2 ne2 ce2,.slice Ab2 nb2 cb2,.slice Al2 nl2 cl2] 65)) 8 (some ⟨wr.heap.size,0,none⟩) 1 1 [[.int .i64 a.op,.string a.name,.string a.src,.int .i64 a.n,.slice Ac2 nc2 cc2,.slice Ae2 ne2 ce2,.slice Ab2 nb2 cb2,.slice Al2 nl2 cl2]]:=RowsAt.lit' _ _ 1 (by rfl) rfl (by simp) rfl (by unfold maxLen;omega)
  have hm1:mB+1≤maxLen:=by unfold maxLen;omega
  have hm2:(mB+1)*144≤140737488355328:=by omega
  have hm3:w2.heap.size≤(wr.drew.alloc (.cells #[.int .i64 a.op,.string a.name,.string a.src,.int .i64 a.n,.slice Ac2 nc2 cc2,.slice Ae2 ne2 ce2,.slice Ab2 nb2 cb2,.slice Al2 nl2 cl2] 65)).heap.size:=by simp;omega
  have hlo:=HE.out.bod.lo
  have hAl:∀ b,b<w2.heap.size→¬ Bb.map (·.block)=some b:=by
   intro b hb e
   cases Bb with
   | none=>cases e
   | some a2 =>
    have h:=(hlo a2 rfl).1
    simp at e
    omega
  have HAl:=Lhd hAl
  clear hAl hlo
  have Hc3:=Lhd (fun (w3:World) (hb:But (fun k=>Bb.map (·.block)=some k) (wr.drew.alloc (.cells #[.int .i64 a.op,.string a.name,.string a.src,.int .i64 a.n,.slice Ac2 nc2 cc2,.slice Ae2 ne2 ce2,.slice Ab2 nb2 cb2,.slice Al2 nl2 cl2] 65)) w3) (b:Nat) (hb0:b<w2.heap.size) (i:Nat)=>(hb.cell (p:=⟨b,i,none⟩) (by simp;omega) (HAl.out b hb0)).trans (World.cell?_alloc_lt wr.drew _ ⟨b,i,none⟩ (show b<wr.heap.size by omega)))
  have Hf3:=Lhd (fun (w3:World) (hb:But (fun k=>Bb.map (·.block)=some k) (wr.drew.alloc (.cells #[.int .i64 a.op,.string a.name,.string a.src,.int .i64 a.n,.slice Ac2 nc2 cc2,.slice Ae2 ne2 ce2,.slice Ab2 nb2 cb2,.slice Al2 nl2 cl2] 65)) w3)=>(((show IsBlk wr.drew (w1.heap.size+1) _ _ from HE.out.box).alloc _).as_was (hb.block _ (by simp;omega) (HAl.out _ (by omega)))).frozen)
  have Hsn:=Lhd (sumT_snoc (body.map tellS) (tellS a))
  have Htn:=Lhd (topT_snoc (body.map tellS) (tellS a))
  have ⟨ta0,ta1,ta2,ta3⟩:=tellS_ok a
  generalize htl:tellS a=tl' at *
  have Htl:=Lhd htl
  clear htl
  obtain⟨mx,hmx,Hmx⟩:∃ mx,(if htop<tl'.2+1 then tl'.2+1 else htop)=mx∧Hid (max htop (tl'.2+1)=mx):=⟨_,rfl,(ite_max _ _).symm⟩
  go_wp2_with (go_at_call 27;refine(Hpk.out _).mono ?_;rintro e w' ⟨rfl,rfl⟩)
  go_region_law (refine stepApp (base:=w2.heap.size) (xs:=rows) (news:=[[.int .i64 a.op,.string a.name,.string a.src,.int .i64 a.n,.slice Ac2 nc2 cc2,.slice Ae2 ne2 ce2,.slice Ab2 nb2 cb2,.slice Al2 nl2 cl2]]) rfl rfl tyStm rfl hownA rfl hnewA (by simp) (by simp[Value.oneCell']) hm1 hm2 hm3 ?_;intro A3' c3' w3 hown3 hbut3 hf3;have hfz3:=Hf3.out w3 hbut3;have z0:=(Hc3.out w3 hbut3 _ (by omega) 6).trans y6)
  all_goals
   go_wp2
   have hA:=HE.out.addB Hmb.out (by omega) Hrl.out Hrw.out HrP.out rfl (StAt.conv (fun _ h=>h) (Kept.refl _ _) _ (by omega) Hpa.out) hown3 hbut3 hf3
   refine HI.out _ _ _ _ _ _ _ _ _ _ _ _ _ _ _ _ _ _ _ _ _ _ _ _ _ _ _ _ _ _ _ _ _ _ _ _ _ _ _ _ _ _ _ _ _ _ _ _ _ _ _ _ _ _ _ _ _ _ _ _ _ _ _ _ _ _ _ _ _ _ _ _ _ _ _ _ _ _ _ _ _ _ _ ⟨q+1,body++[a],els,A3',c3',Bl,dl,by omega,by rw[List.length_append,Hmb.out,Hml.out];simp;omega,?_,?_,by go_num,hA⟩ (by go_num)
   ·rw[List.map_append,List.map_cons,List.map_nil,Htl.out,Hsn.out]
    have h:=Hsum.out
    exact congrArg (Value.int .i64) (by omega)
   ·rw[List.map_append,List.map_cons,List.map_nil,Htl.out,Htn.out]
    have h:=Htop.out
    have h2:=Hmx.out
    clear hmx
    exact congrArg (Value.int .i64) (by omega)
theorem round5L (F:Nat→Prop) (w w1 w2 wr:World) (hue:Nat→Nat) (es:List Ex) (ss:List St) (A0 A1 A2 A3 A4 A5:Option Addr) (c0 c1 c2 c3 c4 c5 k ne:Nat) (x:Kn) (Ac Ax Ab Al:Option Addr) (nc cc nx cx nb cb nl cl q:Nat) (exprs:List Ex) (body els:List St) (Ae:Option Addr) (ce:Nat) (Bb:Option Addr) (db:Nat) (Bl:Option Addr) (dl:Nat) (sE tE:Int) {x0 x1 x2 x3 x4 x6 x7 x8 x9 x10 x11 x12 x18 x19 x21 x22 x23 x24 x25 x26 x27 x28 x29 x30 x31 x32 x33 x34 x35 x36 x37 x38 x39 x40 x41 x42 x43 x44 x45 x46 x47 x48 x49 x50 x51 x52 x53 x54 x55 x56 x57 x58 x59 x60 x61 x62 x63 x64 x65 x66 x67 x68 x69 x70 x71 x72 x73 x74 x75 x76 x77 x78 x79 x80 x81 x82 x83 x84 x85 x86 x87 x88 x89 x90 x91 x92 x93 x94 x95 x96 x97 x98 x99 x100 x101 x102 x103 x104 x105 x106 x107 x108 x109 x110 x111 x112 x113 x114 x115 x116 x117 x118 x119 x120 x121 x122 x123 x124 x125 x126 x127 x128 x129 x130 x131 x132 x133 x134 x135 x136 x137 x138 x139 x140 x141 x142 x143 x144 x145 x146 x147 x148 x149 x150 x151 x152 x153 x154 x155 x156 x157 x158 x159 x160 x161 x162 x163 x164 x165 x166 x167 x168 x169 x170 x171 x172 x173 x174 x175 x176 x177 x178 x179 x180 x181 x182 x183 x184 x185 x186 x187 x188 x189 x190 x191 x192 x193 x194 x195 x196 x197 x198 x199 x200 x201 x202 x203 x204 x205 x206 x207 x208 x209 x210 x211 x212 x213 x214 x215 x216 x217 x218 x219 x220 x221 x222 x223 x224 x225 x226 x227 x228 x229 x230 x231 x232 x233 x234 x235 x236 x237 x238 x239 x240 x241 x242 x243 x244 x245 x246 x247 x248 x249 x250 x251 x252 x253 x254 x255 x256 x257 x258 x259 x260 x261 x262 x263 x264 x265 x266 x267 x268 x269 x270 x271 x272 x273 x274 x275 x276 x277 x278 x279 x280 x281 x282 x283 x284 x285 x286 x287 x288 x289 x290 x291:Value} {I:Act→World→Prop} {Q0:Exit→Act→World→Prop}
  (hF:∀ k,F k→k<w.heap.size) (hW:SWood F w w1 hue es ss A0 c0 A1 c1 A2 c2 A3 c3 A4 c4 A5 c5) (hk:ss.length=k) (hne:es.length=ne) (h50:k<50)
  (hkx:LsAt F w1 1 IRow Ax nx cx x.exprs) (hkb:LsAt F w1 1 IRow Ab nb cb x.body) (hkl:LsAt F w1 1 IRow Al nl cl x.els)
  (hw2:w2=(w1.alloc (.cells #[.int .i64 x.op,.string x.name,.string x.src,.int .i64 x.n,.slice Ac nc cc,.slice Ax nx cx,.slice Ab nb cb,.slice Al nl cl] 93)).alloc (.cells #[.int .i64 x.op,.string x.name,.string x.src,.int .i64 x.n,.slice Ac nc cc,.slice none 0 0,.slice none 0 0,.slice none 0 0] 65))
  (hE:SKids w2 wr (w1.heap.size+1) hue w1 k x Ac nc cc exprs body els Ae ce Bb db Bl dl) (hq10':q<10) (hqN:(q:Int)<wrap64 ((nb:Int)+(nl:Int))) (hqb:¬ q<nb) (hal:body.length+els.length≤q) (hse:0≤sE∧sE≤10000) (hte:1≤tE∧tE≤1001)
  (hI:∀ (y16 y17 y20 y21 y22 y190 y191 y192 y193 y194 y195 y196 y197 y198 y199 y200 y201 y202 y203 y204 y205 y206 y207 y208 y209 y210 y211 y212 y213 y214 y215 y216 y217 y218 y219 y220 y221 y222 y223 y224 y225 y226 y227 y228 y229 y230 y231 y232 y233 y234 y235 y236 y237 y238 y239 y240 y241 y242 y243 y244 y245 y246 y247 y248 y249 y250 y251 y252 y253 y254 y255 y256 y257 y258 y259 y260 y261 y262 y263 y264 y265 y266:Value) (W:World),BodyRel w2 (w1.heap.size+1) hue w1 k x Ac nc cc exprs Ae ce sE tE y16 y17 y20 W→y20=.int .i64 ((q+1:Nat):Int)→I ⟨#[x0,x1,x2,x3,x4,.pointer (some ⟨w.heap.size+1,0,none⟩),x6,x7,x8,x9,x10,x11,x12,.int .i64 (k:Int),.pointer (some ⟨w1.heap.size,0,none⟩),.pointer (some ⟨w1.heap.size+1,0,none⟩),y16,y17,x18,x19,y20,y21,y22,x23,x24,x25,x26,x27,x28,x29,x30,x31,x32,x33,x34,x35,x36,x37,x38,x39,x40,x41,x42,x43,x44,x45,x46,x47,x48,x49,x50,x51,x52,x53,x54,x55,x56,x57,x58,x59,x60,x61,x62,x63,x64,x65,x66,x67,x68,x69,x70,x71,x72,x73,x74,x75,x76,x77,x78,x79,x80,x81,x82,x83,x84,x85,x86,x87,x88,x89,x90,x91,x92,x93,x94,x95,x96,x97,x98,x99,x100,x101,x102,x103,x104,x105,x106,x107,x108,x109,x110,x111,x112,x113,x114,x115,x116,x117,x118,x119,x120,x121,x122,x123,x124,x125,x126,x127,x128,x129,x130,x131,x132,x133,x134,x135,x136,x137,x138,x139,x140,x141,x142,x143,x144,x145,x146,x147,x148,x149,x150,x151,x152,x153,x154,x155,x156,x157,x158,x159,x160,x161,x162,x163,x164,x165,x166,x167,x168,x169,x170,x171,x172,x173,x174,x175,x176,x177,x178,x179,x180,x181,x182,x183,x184,x185,x186,x187,x188,x189,y190,y191,y192,y193,y194,y195,y196,y197,y198,y199,y200,y201,y202,y203,y204,y205,y206,y207,y208,y209,y210,y211,y212,y213,y214,y215,y216,y217,y218,y219,y220,y221,y222,y223,y224,y225,y226,y227,y228,y229,y230,y231,y232,y233,y234,y235,y236,y237,y238,y239,y240,y241,y242,y243,y244,y245,y246,y247,y248,y249,y250,y251,y252,y253,y254,y255,y256,y257,y258,y259,y260,y261,y262,y263,y264,y265,y266,x267,x268,x269,x270,x271,x272,x273,x274,x275,x276,x277,x278,x279,x280,x281,x282,x283,x284,x285,x286,x287,x288,x289,x290,x291],[]⟩ W) :
  Code.wp Tryz.prog (bodyAt 35) (Exit.then I (noPanic Q0)) ⟨#[x0,x1,x2,x3,x4,.pointer (some ⟨w.heap.size+1,0,none⟩),x6,x7,x8,x9,x10,x11,x12,.int .i64 (k:Int),.pointer (some ⟨w1.heap.size,0,none⟩),.pointer (some ⟨w1.heap.size+1,0,none⟩),.int .i64 (1+(sE+sumT (body.map tellS)+sumT (els.map tellS))),.int .i64 (max (max tE (topT (body.map tellS))) (topT (els.map tellS))),x18,x19,.int .i64 (q:Int),x21,x22,x23,x24,x25,x26,x27,x28,x29,x30,x31,x32,x33,x34,x35,x36,x37,x38,x39,x40,x41,x42,x43,x44,x45,x46,x47,x48,x49,x50,x51,x52,x53,x54,x55,x56,x57,x58,x59,x60,x61,x62,x63,x64,x65,x66,x67,x68,x69,x70,x71,x72,x73,x74,x75,x76,x77,x78,x79,x80,x81,x82,x83,x84,x85,x86,x87,x88,x89,x90,x91,x92,x93,x94,x95,x96,x97,x98,x99,x100,x101,x102,x103,x104,x105,x106,x107,x108,x109,x110,x111,x112,x113,x114,x115,x116,x117,x118,x119,x120,x121,x122,x123,x124,x125,x126,x127,x128,x129,x130,x131,x132,x133,x134,x135,x136,x137,x138,x139,x140,x141,x142,x143,x144,x145,x146,x147,x148,x149,x150,x151,x152,x153,x154,x155,x156,x157,x158,x159,x160,x161,x162,x163,x164,x165,x166,x167,x168,x169,x170,x171,x172,x173,x174,x175,x176,x177,x178,x179,x180,x181,x182,x183,x184,x185,x186,x187,x188,x189,x190,x191,x192,x193,x194,x195,x196,x197,x198,x199,x200,x201,x202,x203,x204,x205,x206,x207,x208,x209,x210,x211,x212,x213,x214,x215,x216,x217,x218,x219,x220,x221,x222,x223,x224,x225,x226,x227,x228,x229,x230,x231,x232,x233,x234,x235,x236,x237,x238,x239,x240,x241,x242,x243,x244,x245,x246,x247,x248,x249,x250,x251,x252,x253,x254,x255,x256,x257,x258,x259,x260,x261,x262,x263,x264,x265,x266,x267,x268,x269,x270,x271,x272,x273,x274,x275,x276,x277,x278,x279,x280,x281,x282,x283,x284,x285,x286,x287,x288,x289,x290,x291],[]⟩ wr:=by
 conv=>arg 2;whnf
 have HI:=Lhd hI
 clear hI
 have Hk:=Lhd hk
 clear hk
 have Hne:=Lhd hne
 clear hne
 have HW:=Lhd hW
 clear hW
 have hne50:ne≤50:=by rw[← Hne.out];exact HW.out.few
 have hb2:Below w1.heap.size w1 w2:=by rw[hw2];exact((Below.refl _ _).alloc (Nat.le_refl _) _).alloc (by simp) _
 have hz2:w2.heap.size=w1.heap.size+2:=by rw[hw2];simp
 have hx2:IsBlk w2 w1.heap.size 93 #[.int .i64 x.op,.string x.name,.string x.src,.int .i64 x.n,.slice Ac nc cc,.slice Ax nx cx,.slice Ab nb cb,.slice Al nl cl]:=by rw[hw2];exact(IsBlk.laid _ _ _).alloc _
 clear hw2
 have hnx:=hkx.n_le
 have hnb:=hkb.n_le
 have hnl:=hkl.n_le
 have hbw:=HW.out.low.size
 have hbt:=HW.out.box.lt
 have Hx2:=Lhd (fun W (hW:But (fun b=>b=w1.heap.size+1) w2 W)=>hx2.as_was (hW.block _ hx2.lt (by omega)))
 have Ht2:=Lhd (fun W (hW:But (fun b=>b=w1.heap.size+1) w2 W)=>HW.out.box.as_was ((hW.block _ (Nat.lt_of_lt_of_le hbt hb2.size) (by omega)).trans (hb2.block _ hbt)))
 have Kp:=Lhd (fun W (hW:But (fun b=>b=w1.heap.size+1) w2 W)=>(Kept.of_below hb2).trans (Kept.of_but (F:=F) hW (fun b hb=>by have:=hF b hb;omega)))
 have HR2:=Lhd (fun W (hW:But (fun b=>b=w1.heap.size+1) w2 W) b (hb:b<w1.heap.size)=>(hW.block b (Nat.lt_of_lt_of_le hb hb2.size) (by omega)).trans (hb2.block b hb))
 have Hkx:=Lhd hkx
 have Hkb:=Lhd hkb
 have Hkl:=Lhd hkl
 rw[Hk.out,Hne.out] at Ht2
 clear hx2 hkx hkb hkl
 obtain⟨N,hN,HN⟩:∃ N:Int,wrap64 ((nb:Int)+(nl:Int))=N∧Hid (∀ q:Nat,(q:Int)<N→q<nb+nl):=⟨_,rfl,Lhd (fun _ hq=>wrap_two hnb hnl hq)⟩
 rw[hN] at hqN
 have HE:=Lhd hE
 have hbb:=sum_tenS (args:=body) (by omega)
 have hbl':=sum_tenS (args:=els) (by omega)
 have htb:=topT_bd (l:=body.map tellS) (fun t ht=>by obtain⟨a,_,rfl⟩:=List.mem_map.1 ht;exact tellS_ok a)
 have htl':=topT_bd (l:=els.map tellS) (fun t ht=>by obtain⟨a,_,rfl⟩:=List.mem_map.1 ht;exact tellS_ok a)
 obtain⟨hsum,htop,hsb,htb',Hsum,Htop⟩:∃ hsum htop:Int,(0≤hsum∧hsum≤30000)∧(1≤htop∧htop≤1001)∧Hid (sE+sumT (body.map tellS)+sumT (els.map tellS)=hsum)∧Hid (max (max tE (topT (body.map tellS))) (topT (els.map tellS))=htop) :=
  ⟨_,_,by omega,by omega,rfl,rfl⟩
 clear hbb hbl' htb htl'
 obtain⟨hs0,hs1⟩:=hsb
 obtain⟨ht0,ht1⟩:=htb'
 rw[Hsum.out,Htop.out]
 generalize hmb:body.length=mB at *
 have Hmb:=Lhd hmb
 generalize hml:els.length=mL at *
 have Hml:=Lhd hml
 clear hmb hml hE
 obtain⟨l0,l1,l2,l3,l4,l5,l6,l7,ll⟩:=knotBox (Hx2.out _ HE.out.but)
 obtain⟨t0,t1,t2,t3,t4,t5,tl⟩:=treeBox (Ht2.out _ HE.out.but)
 have hd3:decide ((q:Int)<N)=true:=by simpa using hqN
 have hd4:decide ((q:Int)<10)=true:=by simp;omega
 have hqs':=HN.out q hqN
 have hd5:decide ((q:Int)<(nb:Int))=false:=by simp;omega
 have hqb':nb≤q:=by omega
 have hqb'':(nb:Int)≤(q:Int):=by omega
 obtain⟨q2,Hq2⟩:∃ q2,Hid (q=nb+q2):=⟨q-nb,Lhd (by omega)⟩
 have hq2:q2<nl:=by have:=Hq2.out;omega
 have hqs:(q:Int)-(nb:Int)=(q2:Int):=by have:=Hq2.out;omega
 obtain⟨bk,ok,rk,v,rfl,hbk,_,_,_,hv,hcv⟩:=(Hkl.out.kept (Kp.out _ HE.out.but)).get hq2
 obtain⟨rfl,okv⟩:=hv
 have hcv:=hcv 0 _ rfl
 rw[Nat.mul_one,Nat.add_zero] at hcv
 by_cases hk0:k=0
 ·have Hk0:=Lhd hk0
  clear hk0
  go_wp2_with (go_at_call 27;refine(pick_zero v k _ Hk0.out).mono ?_;rintro e w' ⟨rfl,rfl⟩)
  exact HI.out _ _ _ _ _ _ _ _ _ _ _ _ _ _ _ _ _ _ _ _ _ _ _ _ _ _ _ _ _ _ _ _ _ _ _ _ _ _ _ _ _ _ _ _ _ _ _ _ _ _ _ _ _ _ _ _ _ _ _ _ _ _ _ _ _ _ _ _ _ _ _ _ _ _ _ _ _ _ _ _ _ _ _ ⟨q+1,body,els,Bb,db,Bl,dl,by omega,by have:=Hmb.out;have:=Hml.out;omega,by rw[Hsum.out],by rw[Htop.out],by go_num,HE.out⟩ (by go_num)
 ·obtain⟨j,Hj⟩:∃ j,Hid (pickN v k=j):=⟨_,rfl⟩
  have hjk:j<k:=by rw[← Hj.out];exact pickN_lt v k (by omega)
  have hpk:=fun W=>pick_some v k W (by omega) (by omega)
  rw[Hj.out] at hpk
  have Hpk:=Lhd hpk
  clear hpk hk0
  obtain⟨b0,b1,b2,re,a,rfl,rfl,rfl,hb0,hb1,hb2',haj,hrl2,hpa,hca,hcn,hcd,hu0,hu1,hu2⟩:=HW.out.tri.get (k:=j) (by rw[Hk.out];exact hjk)
  obtain⟨p1,p2,p3,p4,Ac2,nc2,cc2,Ae2,ne2,ce2,Ab2,nb2,cb2,Al2,nl2,cl2,rfl,h6⟩:=hpa
  have Hpa:Hid (PS hue w1 j [.int .i64 a.op,.string a.name,.string a.src,.int .i64 a.n,.slice Ac2 nc2 cc2,.slice Ae2 ne2 ce2,.slice Ab2 nb2 cb2,.slice Al2 nl2 cl2] a):=Lhd ⟨p1,p2,p3,p4,Ac2,nc2,cc2,Ae2,ne2,ce2,Ab2,nb2,cb2,Al2,nl2,cl2,rfl,h6⟩
  clear h6
  have hR:=fun b hb i=>World.cell?_of_block (a:=⟨b,i,none⟩) (HR2.out wr HE.out.but b hb)
  have e0:=(hR b0 hb0 _).trans (hca 0 _ rfl)
  have e1:=(hR b0 hb0 _).trans (hca 1 _ rfl)
  have e2:=(hR b0 hb0 _).trans (hca 2 _ rfl)
  have e3:=(hR b0 hb0 _).trans (hca 3 _ rfl)
  have e4:=(hR b0 hb0 _).trans (hca 4 _ rfl)
  have e5:=(hR b0 hb0 _).trans (hca 5 _ rfl)
  have e6:=(hR b0 hb0 _).trans (hca 6 _ rfl)
  have e7:=(hR b0 hb0 _).trans (hca 7 _ rfl)
  have f1:=(hR b1 hb1 _).trans hcn
  have f2:=(hR b2 hb2' _).trans hcd
  rw[Nat.add_zero] at e0
  clear hR hca hcn hcd
  obtain⟨y0,y1,y2,y3,y4,y5,y6,y7,yl⟩:=knotBox HE.out.box
  rw[Hml.out] at y7
  obtain⟨rows,hown,hrlen,hrwid,hrP⟩:=HE.out.els
  rw[Hml.out] at hown
  have HrP:=Lhd hrP
  have Hrw:=Lhd hrwid
  have Hrl:=Lhd hrlen
  clear hrP hrwid hrlen
  have hg2:=HE.out.but.size
  have hfz:=HE.out.box.frozen
  have hownA:(wr.drew.alloc (.cells #[.int .i64 a.op,.string a.name,.string a.src,.int .i64 a.n,.slice Ac2 nc2 cc2,.slice Ae2 ne2 ce2,.slice Ab2 nb2 cb2,.slice Al2 nl2 cl2] 65)).ownsRow w2.heap.size 65 8 (.slice Bl mL dl) mL rows.flatten:=World.ownsRow.alloc (show wr.drew.ownsRow w2.heap.size 65 8 (.slice Bl mL dl) mL rows.flatten from hown) _
  have hnewA:RowsAt (wr.drew.alloc (.cells #[.int .i64 a.op,.string a.name,.string a.src,.int .i64 a.n,.slice Ac2 nc2 cc2,.slice Ae2 ne2 ce2,.slice Ab2 nb2 cb2,.slice Al2 nl2 cl2] 65)) 8 (some ⟨wr.heap.size,0,none⟩) 1 1 [[.int .i64 a.op,.string a.name,.string a.src,.int .i64 a.n,.slice Ac2 nc2 cc2,.slice Ae2 ne2 ce2,.slice Ab2 nb2 cb2,.slice Al2 nl2 cl2]]:=RowsAt.lit' _ _ 1 (by rfl) rfl (by simp) rfl (by unfold maxLen;omega)
  have hm1:mL+1≤maxLen:=by unfold maxLen;omega
  have hm2:(mL+1)*144≤140737488355328:=by omega
  have hm3:w2.heap.size≤(wr.drew.alloc (.cells #[.int .i64 a.op,.string a.name,.string a.src,.int .i64 a.n,.slice Ac2 nc2 cc2,.slice Ae2 ne2 ce2,.slice Ab2 nb2 cb2,.slice Al2 nl2 cl2] 65)).heap.size:=by simp;omega
  have hlo:=HE.out.els.lo
  have hAl:∀ b,b<w2.heap.size→¬ Bl.map (·.block)=some b:=by
   intro b hb e
   cases Bl with
   | none=>cases e
   | some a2 =>
    have h:=(hlo a2 rfl).1
    simp at e
    omega
  have HAl:=Lhd hAl
  clear hAl hlo
  have Hc3:=Lhd (fun (w3:World) (hb:But (fun k=>Bl.map (·.block)=some k) (wr.drew.alloc (.cells #[.int .i64 a.op,.string a.name,.string a.src,.int .i64 a.n,.slice Ac2 nc2 cc2,.slice Ae2 ne2 ce2,.slice Ab2 nb2 cb2,.slice Al2 nl2 cl2] 65)) w3) (b:Nat) (hb0:b<w2.heap.size) (i:Nat)=>(hb.cell (p:=⟨b,i,none⟩) (by simp;omega) (HAl.out b hb0)).trans (World.cell?_alloc_lt wr.drew _ ⟨b,i,none⟩ (show b<wr.heap.size by omega)))
  have Hf3:=Lhd (fun (w3:World) (hb:But (fun k=>Bl.map (·.block)=some k) (wr.drew.alloc (.cells #[.int .i64 a.op,.string a.name,.string a.src,.int .i64 a.n,.slice Ac2 nc2 cc2,.slice Ae2 ne2 ce2,.slice Ab2 nb2 cb2,.slice Al2 nl2 cl2] 65)) w3)=>(((show IsBlk wr.drew (w1.heap.size+1) _ _ from HE.out.box).alloc _).as_was (hb.block _ (by simp;omega) (HAl.out _ (by omega)))).frozen)
  have Hsn:=Lhd (sumT_snoc (els.map tellS) (tellS a))
  have Htn:=Lhd (topT_snoc (els.map tellS) (tellS a))
  have ⟨ta0,ta1,ta2,ta3⟩:=tellS_ok a
  generalize htl:tellS a=tl' at *
  have Htl:=Lhd htl
  clear htl
  obtain⟨mx,hmx,Hmx⟩:∃ mx,(if htop<tl'.2+1 then tl'.2+1 else htop)=mx∧Hid (max htop (tl'.2+1)=mx):=⟨_,rfl,(ite_max _ _).symm⟩
  go_wp2_with (go_at_call 27;refine(Hpk.out _).mono ?_;rintro e w' ⟨rfl,rfl⟩)
  go_region_law (refine stepApp (base:=w2.heap.size) (xs:=rows) (news:=[[.int .i64 a.op,.string a.name,.string a.src,.int .i64 a.n,.slice Ac2 nc2 cc2,.slice Ae2 ne2 ce2,.slice Ab2 nb2 cb2,.slice Al2 nl2 cl2]]) rfl rfl tyStm rfl hownA rfl hnewA (by simp) (by simp[Value.oneCell']) hm1 hm2 hm3 ?_;intro A3' c3' w3 hown3 hbut3 hf3;have hfz3:=Hf3.out w3 hbut3;have z0:=(Hc3.out w3 hbut3 _ (by omega) 7).trans y7)
  all_goals
   go_wp2
   have hA:=HE.out.addL Hml.out (by omega) Hrl.out Hrw.out HrP.out rfl (StAt.conv (fun _ h=>h) (Kept.refl _ _) _ (by omega) Hpa.out) hown3 hbut3 hf3
   refine HI.out _ _ _ _ _ _ _ _ _ _ _ _ _ _ _ _ _ _ _ _ _ _ _ _ _ _ _ _ _ _ _ _ _ _ _ _ _ _ _ _ _ _ _ _ _ _ _ _ _ _ _ _ _ _ _ _ _ _ _ _ _ _ _ _ _ _ _ _ _ _ _ _ _ _ _ _ _ _ _ _ _ _ _ ⟨q+1,body,els++[a],Bb,db,A3',c3',by omega,by rw[List.length_append,Hmb.out,Hml.out];simp;omega,?_,?_,by go_num,hA⟩ (by go_num)
   ·rw[List.map_append,List.map_cons,List.map_nil,Htl.out,Hsn.out]
    have h:=Hsum.out
    exact congrArg (Value.int .i64) (by omega)
   ·rw[List.map_append,List.map_cons,List.map_nil,Htl.out,Htn.out]
    have h:=Htop.out
    have h2:=Hmx.out
    clear hmx
    exact congrArg (Value.int .i64) (by omega)
end Go.Proofs.YtmfcmpnlipnopaaGreat

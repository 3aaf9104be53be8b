/- Parts of this proof, one behind the other: RgU2. -/
import Derived.Test.YtdgapmnojmhllaaGreatDoorPf38
set_option maxRecDepth 1000000
set_option maxHeartbeats 40000000
namespace Go.Proofs.YtdgapmnojmhllaaGreatDoor
open Go.RowKit Go.Afx
theorem plain_num {W t:List UInt8} {v e:Int} (ht:W.takeWhile lexB=t) (hd:t.head?.any dgB=true) (hN:NumSaid t v e):(e=0→plainX W=some ⟨1,t,v,t.length⟩)∧(e≠0→plainX W=none):=by
 unfold plainX
 rw[ht,if_pos hd]
 unfold NumSaid at hN
 cases hp:parseN t with
 | none=>rw[hp] at hN;exact⟨fun h=>absurd h (by omega),fun _=>rfl⟩
 | some n=>rw[hp] at hN;obtain⟨rfl,rfl⟩:=hN;exact⟨fun _=>rfl,fun h=>absurd rfl h⟩
theorem plain_name {W t:List UInt8} (ht:W.takeWhile lexB=t) (hd:t.head?.any dgB=false):(namedB (str t)=true→plainX W=some ⟨3,t,0,t.length⟩)∧(namedB (str t)=false→plainX W=none):=by
 unfold plainX
 rw[ht,if_neg (by rw[hd];decide)]
 exact⟨fun h=>by rw[if_pos h],fun h=>by rw[if_neg (by rw[h];decide)]⟩
theorem part_end (s:ByteArray) {k j:Nat} (hk:k≤j) (hj:j≤s.size) (hA:∀ y∈(s.data.toList.drop k).take (j-k),lexB y=true) {h0:k<s.size} (hc:lexB s[k]=true) (hs:∀ h:j<s.size,lexB s[j]=false) :
  k<j∧(s.data.toList.drop k).takeWhile lexB=(s.data.toList.drop k).take (j-k):=by
 have hne:k≠j:=fun e=>by subst e;have:=hs h0;rw[hc] at this;cases this
 refine⟨by omega,tw_at (by rw[List.length_drop,szl];omega) hA fun y hy=>?_⟩
 rw[List.getElem?_drop,show k+(j-k)=j by omega] at hy
 have hlt:j<s.size:=by have:=(List.getElem?_eq_some_iff.1 hy).1;rwa [szl] at this
 rw[byte_at s hlt] at hy
 rw[← Option.some.inj hy]
 exact hs hlt
theorem part_on (s:ByteArray) {k j:Nat} (hk:k≤j) (hj:j<s.size) (hA:∀ y∈(s.data.toList.drop k).take (j-k),lexB y=true) (hq:lexB s[j]=true):∀ y∈(s.data.toList.drop k).take (j+1-k),lexB y=true:=by
 have e:(s.data.toList.drop k)[j-k]?=some s[j]:=by rw[List.getElem?_drop,show k+(j-k)=j by omega,byte_at s hj]
 rw[show j+1-k=j-k+1 by omega,take_one e]
 intro y hy
 rcases List.mem_append.1 hy with hy|hy
 ·exact hA y hy
 ·simp only[List.mem_singleton] at hy;subst hy;exact hq
theorem part_text (s:ByteArray) {k j:Nat} (hj:j≤s.size) {h0:k<s.size} (hc:lexB s[k]=true) (h:k<j∧(s.data.toList.drop k).takeWhile lexB=(s.data.toList.drop k).take (j-k)) (t:ByteArray) (ht:t=s.extract k j):(s.data.toList.drop k).takeWhile lexB=t.data.toList∧t.size=j-k∧0<t.size∧t.data.toList.head?=some s[k]:=by
 have e:(s.data.toList.drop k).takeWhile lexB=t.data.toList:=by rw[ht,ext_sub,h.2]
 have e2:t.size=j-k:=by
  rw[← szl t,← e,h.2,List.length_take,List.length_drop,szl]
  omega
 refine⟨e,e2,by omega,?_⟩
 rw[← e,drop_at s k h0,List.takeWhile_cons,if_pos hc]
 rfl
theorem words_part (s:ByteArray) (w wr:World) (m:Nat ⊕ List Wd) (k:Nat) (ws:List Wd) (A:Option Addr) (c:Nat) {x1 x2 x3 x6 x7 x8 x9 x10 x11 x12 x13 x14 x15 x16 x17 x18 x19 x20 x21 x22 x23 x24 x25 x26 x27 x28 x29 x30 x31 x32 x33 x34 x35 x36 x37 x38 x39 x40 x41 x42 x43 x44 x45 x46 x47 x48 x49 x50 x51 x52 x53 x54 x55 x56 x57 x58 x59 x60 x61 x62 x63 x64 x65 x66 x67 x68 x69 x70 x71 x72 x73 x74 x75 x76 x77 x78 x79 x80 x81 x82 x83 x84 x85 x86 x87 x88 x89 x90 x91 x92 x93 x94 x95 x96 x97 x98 x99 x100 x101 x102 x103 x104 x105 x106 x107 x108 x109 x110 x111 x112 x113 x114 x115 x116 x117 x118 x119 x120 x121 x122 x123 x124 x125 x126 x127 x128 x129 x130 x131 x132 x133 x134 x135 x136 x137 x138 x139 x140 x141 x142 x143 x144 x145 x146 x147 x148 x149 x150 x151 x152 x153 x154 x155 x156 x157 x158 x159 x160 x161 x162 x163 x164 x165 x166 x167 x168 x169 x170 x171 x172 x173 x174 x175 x176 x177 x178 x179 x180 x181 x182 x183 x184 x185 x186 x187 x188 x189 x190 x191 x192 x193 x194 x195 x196 x197 x198 x199 x200 x201 x202 x203 x204 x205 x206:Value} {I:Act→World→Prop} {R:Ending→World→Prop} (hs:s.size≤1000000)
  (hW:WordsAt s.data.toList m w.heap.size w k ws A c wr) (hk:k≤s.size) (hlt:k<s.size) (hblank:wsB s[k]=false) (hnr:¬ (s[k].toNat=47∧(s.data.toList.drop (k+1)).head?=some 47)) (hpart:lexB s[k]=true)
  (hR:∀ x w',RefWords s.size w.heap.size m x w'∧Below w.heap.size w w'→R x w')
  (hI:∀ (y4 y5 y6 y7 y8 y9 y10 y11 y12 y13 y14 y15 y16 y17 y18 y19 y20 y21 y22 y23 y24 y25 y26 y27 y28 y29 y30 y31 y32 y33 y34 y35 y36 y37 y38 y39 y40 y41 y42 y43 y44 y45 y46 y47 y48 y49 y50 y51 y52 y53 y54 y55 y56 y57 y58 y59 y60 y61 y62 y63 y64 y65 y66 y67 y68 y69 y70 y71 y72 y73 y74 y75 y76 y77 y78 y79 y80 y81 y82 y83 y84 y85 y86 y87 y88 y89 y90 y91 y92 y93 y94 y95 y96 y97 y98 y99 y100 y101 y102 y103 y104 y105 y106 y107 y108 y109 y110 y111 y112 y113 y114 y115 y116 y117 y118 y119 y120 y121 y122 y123 y124 y125 y126 y127 y128 y129 y130 y131 y132 y133 y134 y135 y136 y137 y138 y139 y140 y141 y142 y143 y144 y145 y146 y147 y148 y149 y150 y151 y152 y153 y154 y155 y156 y157 y158 y159 y160 y161 y162 y163 y164 y165 y166 y167 y168 y169 y170 y171 y172 y173 y174 y175 y176 y177 y178 y179 y180 y181 y182 y183 y184 y185 y186 y187 y188 y189 y190 y191 y192 y193 y194 y195 y196 y197 y198 y199 y200 y201 y202 y203 y204 y205:Value) (W:World),(∃ (k':Nat) (ws':List Wd) (A':Option Addr) (c':Nat),k<k'∧k'≤s.size∧y5=.int .i64 k'∧y4=.slice A' ws'.length c'∧WordsAt s.data.toList m w.heap.size w k' ws' A' c' W)→I ⟨#[.string s,x1,x2,x3,y4,y5,y6,y7,y8,y9,y10,y11,y12,y13,y14,y15,y16,y17,y18,y19,y20,y21,y22,y23,y24,y25,y26,y27,y28,y29,y30,y31,y32,y33,y34,y35,y36,y37,y38,y39,y40,y41,y42,y43,y44,y45,y46,y47,y48,y49,y50,y51,y52,y53,y54,y55,y56,y57,y58,y59,y60,y61,y62,y63,y64,y65,y66,y67,y68,y69,y70,y71,y72,y73,y74,y75,y76,y77,y78,y79,y80,y81,y82,y83,y84,y85,y86,y87,y88,y89,y90,y91,y92,y93,y94,y95,y96,y97,y98,y99,y100,y101,y102,y103,y104,y105,y106,y107,y108,y109,y110,y111,y112,y113,y114,y115,y116,y117,y118,y119,y120,y121,y122,y123,y124,y125,y126,y127,y128,y129,y130,y131,y132,y133,y134,y135,y136,y137,y138,y139,y140,y141,y142,y143,y144,y145,y146,y147,y148,y149,y150,y151,y152,y153,y154,y155,y156,y157,y158,y159,y160,y161,y162,y163,y164,y165,y166,y167,y168,y169,y170,y171,y172,y173,y174,y175,y176,y177,y178,y179,y180,y181,y182,y183,y184,y185,y186,y187,y188,y189,y190,y191,y192,y193,y194,y195,y196,y197,y198,y199,y200,y201,y202,y203,y204,y205,x206],[]⟩ W) :
  Code.wp Tryz.prog wordsLoop (Exit.then I (bodyPost Tryz.prog Tryz.f26 R)) ⟨#[.string s,x1,x2,x3,.slice A ws.length c,.int .i64 k,x6,x7,x8,x9,x10,x11,x12,x13,x14,x15,x16,x17,x18,x19,x20,x21,x22,x23,x24,x25,x26,x27,x28,x29,x30,x31,x32,x33,x34,x35,x36,x37,x38,x39,x40,x41,x42,x43,x44,x45,x46,x47,x48,x49,x50,x51,x52,x53,x54,x55,x56,x57,x58,x59,x60,x61,x62,x63,x64,x65,x66,x67,x68,x69,x70,x71,x72,x73,x74,x75,x76,x77,x78,x79,x80,x81,x82,x83,x84,x85,x86,x87,x88,x89,x90,x91,x92,x93,x94,x95,x96,x97,x98,x99,x100,x101,x102,x103,x104,x105,x106,x107,x108,x109,x110,x111,x112,x113,x114,x115,x116,x117,x118,x119,x120,x121,x122,x123,x124,x125,x126,x127,x128,x129,x130,x131,x132,x133,x134,x135,x136,x137,x138,x139,x140,x141,x142,x143,x144,x145,x146,x147,x148,x149,x150,x151,x152,x153,x154,x155,x156,x157,x158,x159,x160,x161,x162,x163,x164,x165,x166,x167,x168,x169,x170,x171,x172,x173,x174,x175,x176,x177,x178,x179,x180,x181,x182,x183,x184,x185,x186,x187,x188,x189,x190,x191,x192,x193,x194,x195,x196,x197,x198,x199,x200,x201,x202,x203,x204,x205,x206],[]⟩ wr:=by
 conv=>arg 2;whnf
 have HI:=Lhd hI
 have HR:=Lhd hR
 have HW:=Lhd hW
 have Hs:=Lhd hs
 have Hbl:=Lhd hblank
 clear hI hR hW
 have hd:=drop_at s k hlt
 have Hd:=Lhd hd
 have hi0:(0:Int)≤(k:Int):=by omega
 have hi1:(k:Int)<(s.size:Int):=by omega
 clear hd
 have hq:((s[k].toNat:Int)==32)=false∧((s[k].toNat:Int)==9)=false∧((s[k].toNat:Int)==10)=false:=by
  rw[wsB_eq] at hblank
  simpa [Bool.or_eq_false_iff,and_assoc] using hblank
 obtain⟨q0,q1,q2⟩:=hq
 clear hblank
 have hc:¬ s[k]=47∧¬ s[k]=39:=by
  constructor<;>(intro e;rw[e] at hpart;revert hpart;decide)
 have q4:((s[k].toNat:Int)==47)=false:=by
  rw[beq_eq_false_iff_ne]
  exact fun e=>hc.1 (UInt8.toNat_inj.1 (by show s[k].toNat=47;omega))
 have q3:((s[k].toNat:Int)==39)=false:=by
  rw[beq_eq_false_iff_ne]
  exact fun e=>hc.2 (UInt8.toNat_inj.1 (by show s[k].toNat=39;omega))
 clear hc
 have Hnr:=Lhd hnr
 clear hnr
 have hnx:nextX (s.data.toList.drop k)=plainX (s.data.toList.drop k):=by
  rw[Hd.out]
  unfold nextX
  rw[if_pos (by simpa using hpart)]
 have hpt:=refPart_any s[k] wr
 rw[hpart] at hpt
 have Hpt:=Lhd hpt
 have Hnx:=Lhd hnx
 have HPs:=Lhd (fun (j:Nat) (h:j<s.size)=>refPart_any s[j] wr)
 have Hpart:=Lhd hpart
 clear hnx hpt hpart
 go_wp2_with (fail)
 refine Hpt.out.mono ?_
 rintro e w' ⟨rfl,rfl⟩
 go_wp2
 go_loop [9] (fun u9=>∃ j:Nat,k≤j∧j≤s.size∧u9=.int .i64 j∧Hid (∀ y∈(s.data.toList.drop k).take (j-k),lexB y=true)) (fun u9=>s.size-(intOf u9).toNat)
 case atStart=>exact⟨k,Nat.le_refl _,hk,rfl,Lhd (by rw[Nat.sub_self];simp)⟩
 case round =>
  obtain⟨j,hkj,hjs,rfl,HA⟩:=hrel
  have hend:=part_end s hkj hjs HA.out Hpart.out
  have j0:(0:Int)≤(j:Int):=by omega
  rcases Nat.lt_or_ge j s.size with hjlt|hjge
  ·have hp:=refPart_any s[j] wr
   have j1:(j:Int)<(s.size:Int):=by omega
   obtain⟨q,hq⟩:∃ q,lexB s[j]=q:=⟨_,rfl⟩
   rw[hq] at hp
   have Hp:=Lhd hp
   cases q with
   | true =>
    have Hnx2:=Lhd (part_on s hkj hjlt HA.out hq)
    clear hp hq hend
    go_wp2_with (fail)
    refine Hp.out.mono ?_
    rintro e w' ⟨rfl,rfl⟩
    go_wp2
    go_round
    case rel=>exact⟨j+1,by omega,by omega,by go_num,Hnx2⟩
    case measure=>simp[intOf];omega
   | false =>
    have He:=Lhd (hend (fun _=>hq))
    clear hp hq hend
    go_wp2_with (fail)
    refine Hp.out.mono ?_
    rintro e w' ⟨rfl,rfl⟩
    go_upto_region 32 with (fail)
    obtain⟨t,Ht⟩:∃ t,Hid (t=s.extract k j):=⟨_,rfl⟩
    rw[← Ht.out]
    obtain⟨htl,htz,h0t,hth⟩:=part_text s hjs Hpart.out He.out t Ht.out
    have Hth:=Lhd hth
    clear hth
    have Htl:=Lhd htl
    have Htz:=Lhd htz
    clear htl
    obtain⟨w1,Hw1⟩:∃ w1,Hid (w1=wr.alloc (.cells #[.int .i64 3,.string t,.int .i64 0,.int .i64 k] 130)):=⟨_,rfl⟩
    have Hb1:=Lhd (show Below wr.heap.size wr w1 by rw[Hw1.out];exact(Below.refl _ _).alloc (Nat.le_refl _) _)
    have Hk1:=Lhd (show IsBlk w1 wr.heap.size 130 #[.int .i64 3,.string t,.int .i64 0,.int .i64 k] by rw[Hw1.out];exact IsBlk.laid _ _ _)
    have Hz1:=Lhd (show w1.heap.size=wr.heap.size+1 by rw[Hw1.out];simp)
    go_upto_region 33 with (fail)
    rw[← Hw1.out]
    have Hnm:=Lhd (namedRef_any t w1 (by unfold okS;have:=Hs.out;omega))
    have Hkj:=Lhd (show k+t.data.toList.length=j by rw[szl,htz];omega)
    have Hz2:=Lhd (And.intro (Nat.le_refl wr.heap.size) (show k≤1000000 by have:=Hs.out;omega))
    have Hkl:=Lhd (show k<j from He.out.1)
    have hstr:str t.data.toList=t:=rfl
    have Htm:=Lhd (show t.size≤1000000 by have:=Hs.out;omega)
    clear htz
    cases hd:dgB s[k] with
    | true =>
     have hdc:48≤s[k].toNat∧s[k].toNat≤57:=by simpa [dgB] using hd
     obtain⟨e1,e2⟩:=hdc
     have ht0:t[0]=s[k]:=by
      have h5:=drop_at t 0 h0t
      have h6:=Hth.out
      rw[List.drop_zero] at h5
      rw[h5] at h6
      exact Option.some.inj h6
     have Hrp:=Lhd (refParse_any t w1 h0t (by rw[ht0];exact hd) Htm.out)
     have Hdh:=Lhd (show t.data.toList.head?.any dgB=true by rw[Hth.out];exact hd)
     clear hd ht0 hstr
     go_wp2_with (fail)
     refine Hnm.out.mono ?_
     rintro e w' ⟨rfl,rfl⟩
     go_wp2_with (fail)
     refine Hrp.out.mono ?_
     rintro e w2 ⟨⟨v,er,rfl,hN⟩,hb2⟩
     have hk2:=Hk1.out.as_was (hb2.block _ Hk1.out.lt)
     have hb12:=Hb1.out.trans (hb2.mono Hb1.out.size)
     obtain⟨c0,c1,c2,c3,clt⟩:=cells4 hk2
     have hfz:=hk2.frozen
     have Hpl:=Lhd (plain_num Htl.out Hdh.out hN)
     obtain⟨w3,Hw3⟩:∃ w3,Hid (w3=((((w2.setCell ⟨wr.heap.size,0,none⟩ (.int .i64 1)).setCell ⟨wr.heap.size,1,none⟩ (.string t)).setCell ⟨wr.heap.size,2,none⟩ (.int .i64 v)).setCell ⟨wr.heap.size,3,none⟩ (.int .i64 k))):=⟨_,rfl⟩
     have Hk3:=Lhd (show IsBlk w3 wr.heap.size 130 #[.int .i64 1,.string t,.int .i64 v,.int .i64 k] by rw[Hw3.out];exact(((hk2.stored 0 (.int .i64 1)).stored 1 (.string t)).stored 2 (.int .i64 v)).stored 3 (.int .i64 k))
     have Hb3:=Lhd (show Below wr.heap.size wr w3 by rw[Hw3.out];exact(((hb12.setCell (p:=⟨_,0,none⟩) (Nat.le_refl _) _).setCell (p:=⟨_,1,none⟩) (Nat.le_refl _) _).setCell (p:=⟨_,2,none⟩) (Nat.le_refl _) _).setCell (p:=⟨_,3,none⟩) (Nat.le_refl _) _)
     clear hN hb2 hk2 hb12
     go_upto_region 37 with (fail)
     rw[← Hw3.out]
     clear c0 c1 c2 c3 clt hfz
     have hWr:=HW.out.below Hb3.out (Nat.le_refl _)
     rcases Classical.em (er=0) with her|her
     ·have b5:(er==0)=true:=by rw[beq_iff_eq];exact her
      have hn:=Hnx.out
      rw[Hpl.out.1 her] at hn
      have Hmore:=Lhd (fun (w6:World) (A6:Option Addr) (c6:Nat) ho hb=>words_more (w6:=w6) (A6:=A6) (c6:=c6) HW.out Hd.out Hbl.out Hnr.out hn (by rw[szl];exact Hs.out) (by rw[szl];exact hlt) ho hb)
      obtain⟨n1,n2,n3,n4,n5,n6⟩:=word_laid hWr (Nat.le_refl _) Hz2.out.2 1 v k t
      have HL:=Lhd (And.intro n1 (And.intro n2 (And.intro n3 (And.intro n4 (And.intro n5 n6)))))
      obtain⟨c0,c1,c2,c3,clt⟩:=cells4 Hk3.out
      have hfz:=Hk3.out.frozen
      clear hn hWr n1 n2 n3 n4 n5 n6 her
      go_wp2_with (at_builtin;refine wpList_app (base:=w.heap.size) (xs:=ws.map wrow) (news:=[[.int .i64 1,.string t,.int .i64 v,.int .i64 k]]) rfl rfl tyRw rfl HL.out.1 rfl HL.out.2.1 (by simp) (by simp[Value.oneCell']) HL.out.2.2.1 HL.out.2.2.2.1 HL.out.2.2.2.2.1 ?_;intro A6 c6 w6 hown6 hbut6 hf6)
      have hWn:=Hmore.out w6 A6 c6 hown6 (HL.out.2.2.2.2.2 w6 hbut6)
      rw[Hkj.out] at hWn
      have HWn:=Lhd hWn
      clear hown6 hbut6 hf6 hWn
      go_wp2
      exact HI.out _ _ _ _ _ _ _ _ _ _ _ _ _ _ _ _ _ _ _ _ _ _ _ _ _ _ _ _ _ _ _ _ _ _ _ _ _ _ _ _ _ _ _ _ _ _ _ _ _ _ _ _ _ _ _ _ _ _ _ _ _ _ _ _ _ _ _ _ _ _ _ _ _ _ _ _ _ _ _ _ _ _ _ _ _ _ _ _ _ _ _ _ _ _ _ _ _ _ _ _ _ _ _ _ _ _ _ _ _ _ _ _ _ _ _ _ _ _ _ _ _ _ _ _ _ _ _ _ _ _ _ _ _ _ _ _ _ _ _ _ _ _ _ _ _ _ _ _ _ _ _ _ _ _ _ _ _ _ _ _ _ _ _ _ _ _ _ _ _ _ _ _ _ _ _ _ _ _ _ _ _ _ _ _ _ _ _ _ _ _ _ _ _ _ _ _ _ _ _ _ _ _ _ ⟨j,ws++[⟨1,t,v,k⟩],A6,c6,Hkl.out,hjs,rfl,by simp,HWn.out⟩
     ·have b5:(er==0)=false:=by rw[beq_eq_false_iff_ne];exact her
      have hn:=Hnx.out
      rw[Hpl.out.2 her] at hn
      have HM:=Lhd (words_none HW.out Hd.out Hbl.out Hnr.out hn)
      have Hb4:=Lhd hWr.b
      clear hn her hWr
      go_wp2
      try go_ret2
      exact HR.out _ _ ⟨by rw[HM.out];rfl,Hb4.out⟩
    | false =>
     have hdc:s[k].toNat<48∨57<s[k].toNat:=by
      rcases Nat.lt_or_ge s[k].toNat 48 with h|h
      ·exact .inl h
      ·right
       have h2:¬ (48≤s[k].toNat∧s[k].toNat≤57):=fun h3=>by
        have h4:dgB s[k]=true:=by simp[dgB,h3]
        rw[hd] at h4;cases h4
       omega
     have hpl:=plain_name Htl.out (show t.data.toList.head?.any dgB=false by rw[Hth.out];exact hd)
     rw[hstr] at hpl
     have Hpl:=Lhd hpl
     obtain⟨c0,c1,c2,c3,clt⟩:=cells4 Hk1.out
     have hfz:=Hk1.out.frozen
     have hWr:=HW.out.below Hb1.out (Nat.le_refl _)
     clear hd hpl hstr
     obtain⟨q,hq⟩:∃ q,namedB t=q:=⟨_,rfl⟩
     rw[hq] at Hpl Hnm
     clear hq
     cases q with
     | true =>
      have hn:=Hnx.out
      rw[Hpl.out.1 rfl] at hn
      have Hmore:=Lhd (fun (w6:World) (A6:Option Addr) (c6:Nat) ho hb=>words_more (w6:=w6) (A6:=A6) (c6:=c6) HW.out Hd.out Hbl.out Hnr.out hn (by rw[szl];exact Hs.out) (by rw[szl];exact hlt) ho hb)
      obtain⟨n1,n2,n3,n4,n5,n6⟩:=word_laid hWr (Nat.le_refl _) Hz2.out.2 3 0 k t
      have HL:=Lhd (And.intro n1 (And.intro n2 (And.intro n3 (And.intro n4 (And.intro n5 n6)))))
      clear hn hWr n1 n2 n3 n4 n5 n6
      rcases hdc with e1|e1
      all_goals
       go_wp2_with (fail)
       refine Hnm.out.mono ?_
       rintro e w' ⟨rfl,rfl⟩
       go_wp2_with (at_builtin;refine wpList_app (base:=w.heap.size) (xs:=ws.map wrow) (news:=[[.int .i64 3,.string t,.int .i64 0,.int .i64 k]]) rfl rfl tyRw rfl HL.out.1 rfl HL.out.2.1 (by simp) (by simp[Value.oneCell']) HL.out.2.2.1 HL.out.2.2.2.1 HL.out.2.2.2.2.1 ?_;intro A6 c6 w6 hown6 hbut6 hf6)
       have hWn:=Hmore.out w6 A6 c6 hown6 (HL.out.2.2.2.2.2 w6 hbut6)
       rw[Hkj.out] at hWn
       have HWn:=Lhd hWn
       clear hown6 hbut6 hf6 hWn
       go_wp2
       exact HI.out _ _ _ _ _ _ _ _ _ _ _ _ _ _ _ _ _ _ _ _ _ _ _ _ _ _ _ _ _ _ _ _ _ _ _ _ _ _ _ _ _ _ _ _ _ _ _ _ _ _ _ _ _ _ _ _ _ _ _ _ _ _ _ _ _ _ _ _ _ _ _ _ _ _ _ _ _ _ _ _ _ _ _ _ _ _ _ _ _ _ _ _ _ _ _ _ _ _ _ _ _ _ _ _ _ _ _ _ _ _ _ _ _ _ _ _ _ _ _ _ _ _ _ _ _ _ _ _ _ _ _ _ _ _ _ _ _ _ _ _ _ _ _ _ _ _ _ _ _ _ _ _ _ _ _ _ _ _ _ _ _ _ _ _ _ _ _ _ _ _ _ _ _ _ _ _ _ _ _ _ _ _ _ _ _ _ _ _ _ _ _ _ _ _ _ _ _ _ _ _ _ _ _ ⟨j,ws++[⟨3,t,0,k⟩],A6,c6,Hkl.out,hjs,rfl,by simp,HWn.out⟩
     | false =>
      have hn:=Hnx.out
      rw[Hpl.out.2 rfl] at hn
      have HM:=Lhd (words_none HW.out Hd.out Hbl.out Hnr.out hn)
      have Hb4:=Lhd hWr.b
      clear hn hWr
      rcases hdc with e1|e1
      all_goals
       go_wp2_with (fail)
       refine Hnm.out.mono ?_
       rintro e w' ⟨rfl,rfl⟩
       go_wp2
       try go_ret2
       exact HR.out _ _ ⟨by rw[HM.out];rfl,Hb4.out⟩
  ·have He:=Lhd (hend (fun h=>absurd h (by omega)))
   clear hend
   go_upto_region 32 with (fail)
   obtain⟨t,Ht⟩:∃ t,Hid (t=s.extract k j):=⟨_,rfl⟩
   rw[← Ht.out]
   obtain⟨htl,htz,h0t,hth⟩:=part_text s hjs Hpart.out He.out t Ht.out
   have Hth:=Lhd hth
   clear hth
   have Htl:=Lhd htl
   have Htz:=Lhd htz
   clear htl
   obtain⟨w1,Hw1⟩:∃ w1,Hid (w1=wr.alloc (.cells #[.int .i64 3,.string t,.int .i64 0,.int .i64 k] 130)):=⟨_,rfl⟩
   have Hb1:=Lhd (show Below wr.heap.size wr w1 by rw[Hw1.out];exact(Below.refl _ _).alloc (Nat.le_refl _) _)
   have Hk1:=Lhd (show IsBlk w1 wr.heap.size 130 #[.int .i64 3,.string t,.int .i64 0,.int .i64 k] by rw[Hw1.out];exact IsBlk.laid _ _ _)
   have Hz1:=Lhd (show w1.heap.size=wr.heap.size+1 by rw[Hw1.out];simp)
   go_upto_region 33 with (fail)
   rw[← Hw1.out]
   have Hnm:=Lhd (namedRef_any t w1 (by unfold okS;have:=Hs.out;omega))
   have Hkj:=Lhd (show k+t.data.toList.length=j by rw[szl,htz];omega)
   have Hz2:=Lhd (And.intro (Nat.le_refl wr.heap.size) (show k≤1000000 by have:=Hs.out;omega))
   have Hkl:=Lhd (show k<j from He.out.1)
   have hstr:str t.data.toList=t:=rfl
   have Htm:=Lhd (show t.size≤1000000 by have:=Hs.out;omega)
   clear htz
   cases hd:dgB s[k] with
   | true =>
    have hdc:48≤s[k].toNat∧s[k].toNat≤57:=by simpa [dgB] using hd
    obtain⟨e1,e2⟩:=hdc
    have ht0:t[0]=s[k]:=by
     have h5:=drop_at t 0 h0t
     have h6:=Hth.out
     rw[List.drop_zero] at h5
     rw[h5] at h6
     exact Option.some.inj h6
    have Hrp:=Lhd (refParse_any t w1 h0t (by rw[ht0];exact hd) Htm.out)
    have Hdh:=Lhd (show t.data.toList.head?.any dgB=true by rw[Hth.out];exact hd)
    clear hd ht0 hstr
    go_wp2_with (fail)
    refine Hnm.out.mono ?_
    rintro e w' ⟨rfl,rfl⟩
    go_wp2_with (fail)
    refine Hrp.out.mono ?_
    rintro e w2 ⟨⟨v,er,rfl,hN⟩,hb2⟩
    have hk2:=Hk1.out.as_was (hb2.block _ Hk1.out.lt)
    have hb12:=Hb1.out.trans (hb2.mono Hb1.out.size)
    obtain⟨c0,c1,c2,c3,clt⟩:=cells4 hk2
    have hfz:=hk2.frozen
    have Hpl:=Lhd (plain_num Htl.out Hdh.out hN)
    obtain⟨w3,Hw3⟩:∃ w3,Hid (w3=((((w2.setCell ⟨wr.heap.size,0,none⟩ (.int .i64 1)).setCell ⟨wr.heap.size,1,none⟩ (.string t)).setCell ⟨wr.heap.size,2,none⟩ (.int .i64 v)).setCell ⟨wr.heap.size,3,none⟩ (.int .i64 k))):=⟨_,rfl⟩
    have Hk3:=Lhd (show IsBlk w3 wr.heap.size 130 #[.int .i64 1,.string t,.int .i64 v,.int .i64 k] by rw[Hw3.out];exact(((hk2.stored 0 (.int .i64 1)).stored 1 (.string t)).stored 2 (.int .i64 v)).stored 3 (.int .i64 k))
    have Hb3:=Lhd (show Below wr.heap.size wr w3 by rw[Hw3.out];exact(((hb12.setCell (p:=⟨_,0,none⟩) (Nat.le_refl _) _).setCell (p:=⟨_,1,none⟩) (Nat.le_refl _) _).setCell (p:=⟨_,2,none⟩) (Nat.le_refl _) _).setCell (p:=⟨_,3,none⟩) (Nat.le_refl _) _)
    clear hN hb2 hk2 hb12
    go_upto_region 37 with (fail)
    rw[← Hw3.out]
    clear c0 c1 c2 c3 clt hfz
    have hWr:=HW.out.below Hb3.out (Nat.le_refl _)
    rcases Classical.em (er=0) with her|her
    ·have b5:(er==0)=true:=by rw[beq_iff_eq];exact her
     have hn:=Hnx.out
     rw[Hpl.out.1 her] at hn
     have Hmore:=Lhd (fun (w6:World) (A6:Option Addr) (c6:Nat) ho hb=>words_more (w6:=w6) (A6:=A6) (c6:=c6) HW.out Hd.out Hbl.out Hnr.out hn (by rw[szl];exact Hs.out) (by rw[szl];exact hlt) ho hb)
     obtain⟨n1,n2,n3,n4,n5,n6⟩:=word_laid hWr (Nat.le_refl _) Hz2.out.2 1 v k t
     have HL:=Lhd (And.intro n1 (And.intro n2 (And.intro n3 (And.intro n4 (And.intro n5 n6)))))
     obtain⟨c0,c1,c2,c3,clt⟩:=cells4 Hk3.out
     have hfz:=Hk3.out.frozen
     clear hn hWr n1 n2 n3 n4 n5 n6 her
     go_wp2_with (at_builtin;refine wpList_app (base:=w.heap.size) (xs:=ws.map wrow) (news:=[[.int .i64 1,.string t,.int .i64 v,.int .i64 k]]) rfl rfl tyRw rfl HL.out.1 rfl HL.out.2.1 (by simp) (by simp[Value.oneCell']) HL.out.2.2.1 HL.out.2.2.2.1 HL.out.2.2.2.2.1 ?_;intro A6 c6 w6 hown6 hbut6 hf6)
     have hWn:=Hmore.out w6 A6 c6 hown6 (HL.out.2.2.2.2.2 w6 hbut6)
     rw[Hkj.out] at hWn
     have HWn:=Lhd hWn
     clear hown6 hbut6 hf6 hWn
     go_wp2
     exact HI.out _ _ _ _ _ _ _ _ _ _ _ _ _ _ _ _ _ _ _ _ _ _ _ _ _ _ _ _ _ _ _ _ _ _ _ _ _ _ _ _ _ _ _ _ _ _ _ _ _ _ _ _ _ _ _ _ _ _ _ _ _ _ _ _ _ _ _ _ _ _ _ _ _ _ _ _ _ _ _ _ _ _ _ _ _ _ _ _ _ _ _ _ _ _ _ _ _ _ _ _ _ _ _ _ _ _ _ _ _ _ _ _ _ _ _ _ _ _ _ _ _ _ _ _ _ _ _ _ _ _ _ _ _ _ _ _ _ _ _ _ _ _ _ _ _ _ _ _ _ _ _ _ _ _ _ _ _ _ _ _ _ _ _ _ _ _ _ _ _ _ _ _ _ _ _ _ _ _ _ _ _ _ _ _ _ _ _ _ _ _ _ _ _ _ _ _ _ _ _ _ _ _ _ ⟨j,ws++[⟨1,t,v,k⟩],A6,c6,Hkl.out,hjs,rfl,by simp,HWn.out⟩
    ·have b5:(er==0)=false:=by rw[beq_eq_false_iff_ne];exact her
     have hn:=Hnx.out
     rw[Hpl.out.2 her] at hn
     have HM:=Lhd (words_none HW.out Hd.out Hbl.out Hnr.out hn)
     have Hb4:=Lhd hWr.b
     clear hn her hWr
     go_wp2
     try go_ret2
     exact HR.out _ _ ⟨by rw[HM.out];rfl,Hb4.out⟩
   | false =>
    have hdc:s[k].toNat<48∨57<s[k].toNat:=by
     rcases Nat.lt_or_ge s[k].toNat 48 with h|h
     ·exact .inl h
     ·right
      have h2:¬ (48≤s[k].toNat∧s[k].toNat≤57):=fun h3=>by
       have h4:dgB s[k]=true:=by simp[dgB,h3]
       rw[hd] at h4;cases h4
      omega
    have hpl:=plain_name Htl.out (show t.data.toList.head?.any dgB=false by rw[Hth.out];exact hd)
    rw[hstr] at hpl
    have Hpl:=Lhd hpl
    obtain⟨c0,c1,c2,c3,clt⟩:=cells4 Hk1.out
    have hfz:=Hk1.out.frozen
    have hWr:=HW.out.below Hb1.out (Nat.le_refl _)
    clear hd hpl hstr
    obtain⟨q,hq⟩:∃ q,namedB t=q:=⟨_,rfl⟩
    rw[hq] at Hpl Hnm
    clear hq
    cases q with
    | true =>
     have hn:=Hnx.out
     rw[Hpl.out.1 rfl] at hn
     have Hmore:=Lhd (fun (w6:World) (A6:Option Addr) (c6:Nat) ho hb=>words_more (w6:=w6) (A6:=A6) (c6:=c6) HW.out Hd.out Hbl.out Hnr.out hn (by rw[szl];exact Hs.out) (by rw[szl];exact hlt) ho hb)
     obtain⟨n1,n2,n3,n4,n5,n6⟩:=word_laid hWr (Nat.le_refl _) Hz2.out.2 3 0 k t
     have HL:=Lhd (And.intro n1 (And.intro n2 (And.intro n3 (And.intro n4 (And.intro n5 n6)))))
     clear hn hWr n1 n2 n3 n4 n5 n6
     rcases hdc with e1|e1
     all_goals
      go_wp2_with (fail)
      refine Hnm.out.mono ?_
      rintro e w' ⟨rfl,rfl⟩
      go_wp2_with (at_builtin;refine wpList_app (base:=w.heap.size) (xs:=ws.map wrow) (news:=[[.int .i64 3,.string t,.int .i64 0,.int .i64 k]]) rfl rfl tyRw rfl HL.out.1 rfl HL.out.2.1 (by simp) (by simp[Value.oneCell']) HL.out.2.2.1 HL.out.2.2.2.1 HL.out.2.2.2.2.1 ?_;intro A6 c6 w6 hown6 hbut6 hf6)
      have hWn:=Hmore.out w6 A6 c6 hown6 (HL.out.2.2.2.2.2 w6 hbut6)
      rw[Hkj.out] at hWn
      have HWn:=Lhd hWn
      clear hown6 hbut6 hf6 hWn
      go_wp2
      exact HI.out _ _ _ _ _ _ _ _ _ _ _ _ _ _ _ _ _ _ _ _ _ _ _ _ _ _ _ _ _ _ _ _ _ _ _ _ _ _ _ _ _ _ _ _ _ _ _ _ _ _ _ _ _ _ _ _ _ _ _ _ _ _ _ _ _ _ _ _ _ _ _ _ _ _ _ _ _ _ _ _ _ _ _ _ _ _ _ _ _ _ _ _ _ _ _ _ _ _ _ _ _ _ _ _ _ _ _ _ _ _ _ _ _ _ _ _ _ _ _ _ _ _ _ _ _ _ _ _ _ _ _ _ _ _ _ _ _ _ _ _ _ _ _ _ _ _ _ _ _ _ _ _ _ _ _ _ _ _ _ _ _ _ _ _ _ _ _ _ _ _ _ _ _ _ _ _ _ _ _ _ _ _ _ _ _ _ _ _ _ _ _ _ _ _ _ _ _ _ _ _ _ _ _ ⟨j,ws++[⟨3,t,0,k⟩],A6,c6,Hkl.out,hjs,rfl,by simp,HWn.out⟩
    | false =>
     have hn:=Hnx.out
     rw[Hpl.out.2 rfl] at hn
     have HM:=Lhd (words_none HW.out Hd.out Hbl.out Hnr.out hn)
     have Hb4:=Lhd hWr.b
     clear hn hWr
     rcases hdc with e1|e1
     all_goals
      go_wp2_with (fail)
      refine Hnm.out.mono ?_
      rintro e w' ⟨rfl,rfl⟩
      go_wp2
      try go_ret2
      exact HR.out _ _ ⟨by rw[HM.out];rfl,Hb4.out⟩
end Go.Proofs.YtdgapmnojmhllaaGreatDoor

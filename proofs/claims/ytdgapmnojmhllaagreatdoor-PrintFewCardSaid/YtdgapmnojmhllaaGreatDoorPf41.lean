/- Parts of this proof, one behind the other: RgU3, RgU4, RgA, RgB. -/
import Derived.Test.YtdgapmnojmhllaaGreatDoorPf38
import Derived.Test.YtdgapmnojmhllaaGreatDoorPf39
import Derived.Test.YtdgapmnojmhllaaGreatDoorPf40
import Derived.Test.YtdgapmnojmhllaaGreatDoorPf37
import Derived.Test.YtdgapmnojmhllaaGreatDoorPf24
import Derived.Deep.RegionHeld3
import Derived.StillTailTactics
set_option maxRecDepth 1000000
set_option maxHeartbeats 40000000
namespace Go.Proofs.YtdgapmnojmhllaaGreatDoor
open Go.RowKit Go.Afx
theorem words_sign (s:ByteArray) (w wr:World) (m:Nat ⊕ List Wd) (k:Nat) (ws:List Wd) (A:Option Addr) (c:Nat) {x1 x2 x3 x6 x7 x8 x9 x10 x11 x12 x13 x14 x15 x16 x17 x18 x19 x20 x21 x22 x23 x24 x25 x26 x27 x28 x29 x30 x31 x32 x33 x34 x35 x36 x37 x38 x39 x40 x41 x42 x43 x44 x45 x46 x47 x48 x49 x50 x51 x52 x53 x54 x55 x56 x57 x58 x59 x60 x61 x62 x63 x64 x65 x66 x67 x68 x69 x70 x71 x72 x73 x74 x75 x76 x77 x78 x79 x80 x81 x82 x83 x84 x85 x86 x87 x88 x89 x90 x91 x92 x93 x94 x95 x96 x97 x98 x99 x100 x101 x102 x103 x104 x105 x106 x107 x108 x109 x110 x111 x112 x113 x114 x115 x116 x117 x118 x119 x120 x121 x122 x123 x124 x125 x126 x127 x128 x129 x130 x131 x132 x133 x134 x135 x136 x137 x138 x139 x140 x141 x142 x143 x144 x145 x146 x147 x148 x149 x150 x151 x152 x153 x154 x155 x156 x157 x158 x159 x160 x161 x162 x163 x164 x165 x166 x167 x168 x169 x170 x171 x172 x173 x174 x175 x176 x177 x178 x179 x180 x181 x182 x183 x184 x185 x186 x187 x188 x189 x190 x191 x192 x193 x194 x195 x196 x197 x198 x199 x200 x201 x202 x203 x204 x205 x206:Value} {I:Act→World→Prop} {R:Ending→World→Prop} (hs:s.size≤1000000)
  (hW:WordsAt s.data.toList m w.heap.size w k ws A c wr) (hk:k≤s.size) (hlt:k<s.size) (hblank:wsB s[k]=false) (hnr:¬ (s[k].toNat=47∧(s.data.toList.drop (k+1)).head?=some 47)) (hquo:¬ s[k]=39) (hpart:lexB s[k]=false)
  (hR:∀ x w',RefWords s.size w.heap.size m x w'∧Below w.heap.size w w'→R x w')
  (hI:∀ (y4 y5 y6 y7 y8 y9 y10 y11 y12 y13 y14 y15 y16 y17 y18 y19 y20 y21 y22 y23 y24 y25 y26 y27 y28 y29 y30 y31 y32 y33 y34 y35 y36 y37 y38 y39 y40 y41 y42 y43 y44 y45 y46 y47 y48 y49 y50 y51 y52 y53 y54 y55 y56 y57 y58 y59 y60 y61 y62 y63 y64 y65 y66 y67 y68 y69 y70 y71 y72 y73 y74 y75 y76 y77 y78 y79 y80 y81 y82 y83 y84 y85 y86 y87 y88 y89 y90 y91 y92 y93 y94 y95 y96 y97 y98 y99 y100 y101 y102 y103 y104 y105 y106 y107 y108 y109 y110 y111 y112 y113 y114 y115 y116 y117 y118 y119 y120 y121 y122 y123 y124 y125 y126 y127 y128 y129 y130 y131 y132 y133 y134 y135 y136 y137 y138 y139 y140 y141 y142 y143 y144 y145 y146 y147 y148 y149 y150 y151 y152 y153 y154 y155 y156 y157 y158 y159 y160 y161 y162 y163 y164 y165 y166 y167 y168 y169 y170 y171 y172 y173 y174 y175 y176 y177 y178 y179 y180 y181 y182 y183 y184 y185 y186 y187 y188 y189 y190 y191 y192 y193 y194 y195 y196 y197 y198 y199 y200 y201 y202 y203 y204 y205:Value) (W:World),(∃ (k':Nat) (ws':List Wd) (A':Option Addr) (c':Nat),k<k'∧k'≤s.size∧y5=.int .i64 k'∧y4=.slice A' ws'.length c'∧WordsAt s.data.toList m w.heap.size w k' ws' A' c' W)→I ⟨#[.string s,x1,x2,x3,y4,y5,y6,y7,y8,y9,y10,y11,y12,y13,y14,y15,y16,y17,y18,y19,y20,y21,y22,y23,y24,y25,y26,y27,y28,y29,y30,y31,y32,y33,y34,y35,y36,y37,y38,y39,y40,y41,y42,y43,y44,y45,y46,y47,y48,y49,y50,y51,y52,y53,y54,y55,y56,y57,y58,y59,y60,y61,y62,y63,y64,y65,y66,y67,y68,y69,y70,y71,y72,y73,y74,y75,y76,y77,y78,y79,y80,y81,y82,y83,y84,y85,y86,y87,y88,y89,y90,y91,y92,y93,y94,y95,y96,y97,y98,y99,y100,y101,y102,y103,y104,y105,y106,y107,y108,y109,y110,y111,y112,y113,y114,y115,y116,y117,y118,y119,y120,y121,y122,y123,y124,y125,y126,y127,y128,y129,y130,y131,y132,y133,y134,y135,y136,y137,y138,y139,y140,y141,y142,y143,y144,y145,y146,y147,y148,y149,y150,y151,y152,y153,y154,y155,y156,y157,y158,y159,y160,y161,y162,y163,y164,y165,y166,y167,y168,y169,y170,y171,y172,y173,y174,y175,y176,y177,y178,y179,y180,y181,y182,y183,y184,y185,y186,y187,y188,y189,y190,y191,y192,y193,y194,y195,y196,y197,y198,y199,y200,y201,y202,y203,y204,y205,x206],[]⟩ W) :
  Code.wp Tryz.prog wordsLoop (Exit.then I (bodyPost Tryz.prog Tryz.f26 R)) ⟨#[.string s,x1,x2,x3,.slice A ws.length c,.int .i64 k,x6,x7,x8,x9,x10,x11,x12,x13,x14,x15,x16,x17,x18,x19,x20,x21,x22,x23,x24,x25,x26,x27,x28,x29,x30,x31,x32,x33,x34,x35,x36,x37,x38,x39,x40,x41,x42,x43,x44,x45,x46,x47,x48,x49,x50,x51,x52,x53,x54,x55,x56,x57,x58,x59,x60,x61,x62,x63,x64,x65,x66,x67,x68,x69,x70,x71,x72,x73,x74,x75,x76,x77,x78,x79,x80,x81,x82,x83,x84,x85,x86,x87,x88,x89,x90,x91,x92,x93,x94,x95,x96,x97,x98,x99,x100,x101,x102,x103,x104,x105,x106,x107,x108,x109,x110,x111,x112,x113,x114,x115,x116,x117,x118,x119,x120,x121,x122,x123,x124,x125,x126,x127,x128,x129,x130,x131,x132,x133,x134,x135,x136,x137,x138,x139,x140,x141,x142,x143,x144,x145,x146,x147,x148,x149,x150,x151,x152,x153,x154,x155,x156,x157,x158,x159,x160,x161,x162,x163,x164,x165,x166,x167,x168,x169,x170,x171,x172,x173,x174,x175,x176,x177,x178,x179,x180,x181,x182,x183,x184,x185,x186,x187,x188,x189,x190,x191,x192,x193,x194,x195,x196,x197,x198,x199,x200,x201,x202,x203,x204,x205,x206],[]⟩ wr:=by
 conv=>arg 2;whnf
 have HI:=Lhd hI
 have HR:=Lhd hR
 have HW:=Lhd hW
 have Hs:=Lhd hs
 have Hbl:=Lhd hblank
 clear hI hR hW
 have hd:=drop_at s k hlt
 have Hd:=Lhd hd
 have hi0:(0:Int)≤(k:Int):=by omega
 have hi1:(k:Int)<(s.size:Int):=by omega
 clear hd
 have hq:((s[k].toNat:Int)==32)=false∧((s[k].toNat:Int)==9)=false∧((s[k].toNat:Int)==10)=false:=by
  rw[wsB_eq] at hblank
  simpa [Bool.or_eq_false_iff,and_assoc] using hblank
 obtain⟨q0,q1,q2⟩:=hq
 clear hblank
 have hrem:¬ (s[k]=47∧∃ h:k+1<s.size,s[k+1]=47):=by
  rintro⟨e1,h,e2⟩
  exact hnr ⟨by rw[e1];rfl,by rw[drop_at s (k+1) h,e2];rfl⟩
 have hwq:(((s[k].toNat:Int)==47)=false)∨(((s[k].toNat:Int)==47)=true∧decide ((k:Int)+1<(s.size:Int))=false)∨(((s[k].toNat:Int)==47)=true∧decide ((k:Int)+1<(s.size:Int))=true∧∃ h:k+1<s.size,((s[k+1].toNat:Int)==47)=false):=by
  by_cases e1:s[k]=47
  ·right
   have e1':((s[k].toNat:Int)==47)=true:=by rw[e1];rfl
   rcases Nat.lt_or_ge (k+1) s.size with h|h
   ·right
    refine⟨e1',by simp;omega,h,?_⟩
    rw[beq_eq_false_iff_ne]
    exact fun e=>hrem ⟨e1,h,UInt8.toNat_inj.1 (by show s[k+1].toNat=47;omega)⟩
   ·left
    exact⟨e1',by simp;omega⟩
  ·left
   rw[beq_eq_false_iff_ne]
   exact fun e=>e1 (UInt8.toNat_inj.1 (by show s[k].toNat=47;omega))
 have Hnr:=Lhd hnr
 have i5:(0:Int)≤(k:Int)+1:=by omega
 have i6:((k:Int)+1).toNat=k+1:=by omega
 clear hnr hrem
 have Hz:=Lhd (And.intro (Nat.le_refl w.heap.size) (show k≤1000000 by have:=Hs.out;omega))
 have q3:((s[k].toNat:Int)==39)=false:=by
  rw[beq_eq_false_iff_ne]
  exact fun e=>hquo (UInt8.toNat_inj.1 (by show s[k].toNat=39;omega))
 have hnx:nextX (s.data.toList.drop k)=signX (s.data.toList.drop k):=by
  rw[Hd.out]
  unfold nextX
  rw[if_neg (by simp[hpart]),if_neg (by
   have:¬ s[k].toNat=39:=fun e=>hquo (UInt8.toNat_inj.1 e)
   simp[this])]
 rw[sign_eq] at hnx
 have hsg:=lexSign_any (s.extract k s.size) wr (ext_lt s k hlt) (by have:=ext_le s k;have:=Hs.out;omega)
 rw[ext_list] at hsg
 have hpt:=refPart_any s[k] wr
 rw[hpart] at hpt
 have Hpt:=Lhd hpt
 by_cases hg:sgF (s.data.toList.drop k)=[]
 ·rw[if_pos hg] at hnx
  rw[hg] at hsg
  have HM:=Lhd (words_none HW.out Hd.out Hbl.out Hnr.out hnx)
  have Hsg:Hid (Calls Tryz.prog 63 #[.string (s.extract k s.size)] wr fun e w'=>e=.returned (.string ⟨#[]⟩)∧Below wr.heap.size wr w'):=Lhd hsg
  have HB:=Lhd HW.out.b
  clear hg hnx hsg hpt hpart hquo
  rcases hwq with q4|⟨q4,q5⟩|⟨q4,q5,h1,q6⟩
  all_goals
   go_wp2_with (fail)
   refine Hpt.out.mono ?_
   rintro e w' ⟨rfl,rfl⟩
   go_wp2_with (fail)
   refine Hsg.out.mono ?_
   rintro e w2 ⟨rfl,hb2⟩
   have Hb2:=Lhd (HB.out.trans (hb2.mono HB.out.size))
   clear hb2
   go_wp2
   try go_ret2
   exact HR.out _ _ ⟨by rw[HM.out];rfl,Hb2.out⟩
 ·rw [if_neg hg] at hnx
  have hne:(str (sgF (s.data.toList.drop k))).toList.isEmpty=false:=by
   cases hsl:sgF (s.data.toList.drop k) with
   | nil=>exact absurd hsl hg
   | cons a r =>
    rw[← noS_nil]
    exact decide_eq_false fun e=>by
     have h1:(str (a::r)).size=0:=by rw[e];rfl
     have h2:(str (a::r)).size=r.length+1:=rfl
     omega
  have hsz:(str (sgF (s.data.toList.drop k))).size=(sgF (s.data.toList.drop k)).length:=rfl
  have hle:=(next_len hnx).2
  rw[List.length_drop,szl] at hle
  have hge1:=(next_len hnx).1
  simp only at hle hge1
  have Hmore:=Lhd (fun (w6:World) (A6:Option Addr) (c6:Nat) ho hb=>words_more (w6:=w6) (A6:=A6) (c6:=c6) HW.out Hd.out Hbl.out Hnr.out hnx (by rw[szl];exact Hs.out) (by rw[szl];exact hlt) ho hb)
  generalize sgF (s.data.toList.drop k)=sg at *
  have Hsg:=Lhd hsg
  generalize hst:str sg=T at *
  have hsz2:(T.size:Int)=sg.length:=by omega
  have Hle:=Lhd (And.intro hle (And.intro hge1 hsz))
  have hT0:T.size≤1000000:=by have:=Hs.out;omega
  clear hg hnx hsg hpt hpart hquo hst hle hge1 hsz hsz2
  rcases hwq with q4|⟨q4,q5⟩|⟨q4,q5,h1,q6⟩
  all_goals
   go_wp2_with (fail)
   refine Hpt.out.mono ?_
   rintro e w' ⟨rfl,rfl⟩
   go_wp2_with (fail)
   refine Hsg.out.mono ?_
   rintro e w2 ⟨rfl,hb2⟩
   have hW2:=HW.out.below hb2 (Nat.le_refl _)
   obtain⟨n1,n2,n3,n4,n5,n6⟩:=word_laid hW2 (Nat.le_refl _) Hz.out.2 0 0 k T
   have HL:=Lhd (And.intro n1 (And.intro n2 (And.intro n3 (And.intro n4 (And.intro n5 n6)))))
   clear hb2 hW2 n1 n2 n3 n4 n5 n6
   go_wp2_with (at_builtin;refine wpList_app (base:=w.heap.size) (xs:=ws.map wrow) (news:=[[.int .i64 0,.string T,.int .i64 0,.int .i64 k]]) rfl rfl tyRw rfl HL.out.1 rfl HL.out.2.1 (by simp) (by simp[Value.oneCell']) HL.out.2.2.1 HL.out.2.2.2.1 HL.out.2.2.2.2.1 ?_;intro A6 c6 w6 hown6 hbut6 hf6)
   have hWn:=Hmore.out w6 A6 c6 hown6 (HL.out.2.2.2.2.2 w6 hbut6)
   have HWn:=Lhd hWn
   clear hown6 hbut6 hf6 hWn
   go_wp2
   exact HI.out _ _ _ _ _ _ _ _ _ _ _ _ _ _ _ _ _ _ _ _ _ _ _ _ _ _ _ _ _ _ _ _ _ _ _ _ _ _ _ _ _ _ _ _ _ _ _ _ _ _ _ _ _ _ _ _ _ _ _ _ _ _ _ _ _ _ _ _ _ _ _ _ _ _ _ _ _ _ _ _ _ _ _ _ _ _ _ _ _ _ _ _ _ _ _ _ _ _ _ _ _ _ _ _ _ _ _ _ _ _ _ _ _ _ _ _ _ _ _ _ _ _ _ _ _ _ _ _ _ _ _ _ _ _ _ _ _ _ _ _ _ _ _ _ _ _ _ _ _ _ _ _ _ _ _ _ _ _ _ _ _ _ _ _ _ _ _ _ _ _ _ _ _ _ _ _ _ _ _ _ _ _ _ _ _ _ _ _ _ _ _ _ _ _ _ _ _ _ _ _ _ _ _ ⟨k+sg.length,ws++[⟨0,T,0,k⟩],A6,c6,by have:=Hle.out;omega,by have:=Hle.out;omega,by first|go_num|(rw[Hle.out.2.2];go_num),by simp,HWn.out⟩
theorem within_then {P:Program} {f:Func} {R:Ending→World→Prop} {I K:Act→World→Prop} {n:Nat} (e:Exit) (a:Act) (w:World) (h:Exit.then I (bodyPost P f R) e a w):Exit.then I (Exit.inBlock n (Exit.then K (bodyPost P f R))) e a w:=by
 cases e<;>first|exact h|exact False.elim h
theorem refWords_any (s:ByteArray) (w:World) (hs:s.size≤1000000) :
  Calls Tryz.prog 26 #[.string s] w fun x w'=>RefWords s.size w.heap.size (lexL s.data.toList) x w'∧Below w.heap.size w w':=by
 rw[lexA_all]
 obtain⟨m,Hm⟩:∃ m,Hid (m=lexA 0 s.data.toList):=⟨_,rfl⟩
 rw[← Hm.out]
 have Hs:=Lhd hs
 have hs0:s.size≤1000000:=hs
 go_enter Tryz.func26,Tryz.ntmps26
 go_wp2
 go_loopw [4,5] (fun u4 u5 wr=>∃ (k:Nat) (ws:List Wd) (A:Option Addr) (c:Nat),k≤s.size∧u5=.int .i64 k∧u4=.slice A ws.length c∧WordsAt s.data.toList m w.heap.size w k ws A c wr) (fun _ u5 _=>s.size-(intOf u5).toNat)
 case atStart=>exact⟨0,[],none,0,Nat.zero_le _,rfl,rfl,⟨World.ownsRow_nil _ _ _ _,by simp,Nat.le_refl _,by rw[Hm.out,appX_nil];rfl,Below.refl _ _⟩⟩
 case round =>
  obtain⟨k,ws,A,c,hk,rfl,rfl,hW⟩:=hrel
  have HW:=Lhd hW
  clear hW
  rcases Nat.lt_or_ge k s.size with hlt|hge
  ·have hd:=drop_at s k hlt
   have Hd:=Lhd hd
   have hi0:(0:Int)≤(k:Int):=by omega
   have hi1:(k:Int)<(s.size:Int):=by omega
   clear hd
   by_cases hblank:wsB s[k]=true
   ·have HN:=Lhd (words_blank HW.out Hd.out rfl hblank)
    have hq:(((s[k].toNat:Int)==32)=true)∨(((s[k].toNat:Int)==32)=false∧((s[k].toNat:Int)==9)=true)∨(((s[k].toNat:Int)==32)=false∧((s[k].toNat:Int)==9)=false∧((s[k].toNat:Int)==10)=true):=by
     rw[wsB_eq] at hblank
     cases h1:((s[k].toNat:Int)==32)<;>cases h2:((s[k].toNat:Int)==9)<;>cases h3:((s[k].toNat:Int)==10)<;>simp_all
    clear hblank
    rcases hq with q0|⟨q0,q1⟩|⟨q0,q1,q2⟩
    all_goals
     go_wp2
     go_roundw
     case rel=>exact⟨k+1,ws,A,c,by omega,by go_num,rfl,HN.out⟩
     case measure=>simp[intOf];omega
   ·have hblank:wsB s[k]=false:=by simpa using hblank
    have hq:((s[k].toNat:Int)==32)=false∧((s[k].toNat:Int)==9)=false∧((s[k].toNat:Int)==10)=false:=by
     rw[wsB_eq] at hblank
     simpa [Bool.or_eq_false_iff,and_assoc] using hblank
    obtain⟨q0,q1,q2⟩:=hq
    by_cases hrem:s[k]=47∧∃ h:k+1<s.size,s[k+1]=47
    ·obtain⟨e1,h1,e2⟩:=hrem
     have HR:=Lhd (fun j (hj:j=k+remL (s.data.toList.drop k))=>words_remark HW.out (show s.data.toList.drop k=47::47::s.data.toList.drop (k+2) by rw[Hd.out,e1,drop_at s (k+1) h1,e2]) j hj)
     have q3:((s[k].toNat:Int)==47)=true:=by rw[e1];rfl
     have q4:((s[k+1].toNat:Int)==47)=true:=by rw[e2];rfl
     have q5:decide ((k:Int)+1<(s.size:Int))=true:=by simp;omega
     have i5:(0:Int)≤(k:Int)+1:=by omega
     have i6:((k:Int)+1).toNat=k+1:=by omega
     have Hpos:=Lhd (show 1≤remL (s.data.toList.drop k) from by
      rw[Hd.out,e1]
      unfold remL
      rw[List.takeWhile_cons,if_pos (by decide),List.length_cons]
      omega)
     clear e1 e2
     go_wp2
     go_loop [5] (fun u5=>∃ j:Nat,k≤j∧j≤s.size∧u5=.int .i64 j∧Hid (j≤k+remL (s.data.toList.drop k))) (fun u5=>s.size-(intOf u5).toNat)
     case atStart=>exact⟨k,Nat.le_refl _,hk,rfl,Lhd (Nat.le_add_right _ _)⟩
     case round =>
      obtain⟨j,hkj,hjs,rfl,HJ⟩:=hrel
      have HRun:=Lhd (rem_run s hkj hjs HJ.out)
      rcases Nat.lt_or_ge j s.size with hjlt|hjge
      ·have j0:(0:Int)≤(j:Int):=by omega
       have j1:(j:Int)<(s.size:Int):=by omega
       by_cases h10:s[j]=10
       ·have q:((s[j].toNat:Int) !=10)=false:=by rw[h10];rfl
        have hje:=HRun.out.2 fun _=>h10
        have HN:=Lhd (And.intro (HR.out j hje) (show k<j by have:=Hpos.out;omega))
        clear h10 hje
        go_wp2
        go_roundw
        case rel=>exact⟨j,ws,A,c,hjs,rfl,rfl,HN.out.1⟩
        case measure=>(have:=HN.out.2;simp[intOf];omega)
       ·have q:((s[j].toNat:Int) !=10)=true:=by
         simp
         exact fun e=>h10 (UInt8.toNat_inj.1 (by show s[j].toNat=10;omega))
        have HJ2:=Lhd (HRun.out.1 hjlt h10)
        clear h10
        go_wp2
        go_round
        case rel=>exact⟨j+1,by omega,by omega,by go_num,HJ2⟩
        case measure=>simp[intOf];omega
      ·obtain rfl:j=s.size:=by omega
       have hje:=HRun.out.2 fun h=>absurd h (Nat.lt_irrefl _)
       have HN:=Lhd (And.intro (HR.out _ hje) (show k<s.size by have:=Hpos.out;omega))
       clear hje
       go_wp2
       go_roundw
       case rel=>exact⟨s.size,ws,A,c,Nat.le_refl _,rfl,rfl,HN.out.1⟩
       case measure=>(have:=HN.out.2;simp[intOf];omega)
    ·have hnr:¬ (s[k].toNat=47∧(s.data.toList.drop (k+1)).head?=some 47):=by
      rintro⟨e1,e2⟩
      rcases Nat.lt_or_ge (k+1) s.size with h|h
      ·rw[drop_at s (k+1) h] at e2
       exact hrem ⟨UInt8.toNat_inj.1 e1,h,Option.some.inj e2⟩
      ·rw[List.drop_eq_nil_of_le (by rw[szl];omega)] at e2;cases e2
     by_cases hquo:s[k]=39
     ·refine Code.wp_mono within_then (words_quote s w _ m k ws A c hs0 HW.out hk hlt hblank hnr hquo (fun _ _ h=>h) ?_)
      intro y4 y5 y6 y7 y8 y9 y10 y11 y12 y13 y14 y15 y16 y17 y18 y19 y20 y21 y22 y23 y24 y25 y26 y27 y28 y29 y30 y31 y32 y33 y34 y35 y36 y37 y38 y39 y40 y41 y42 y43 y44 y45 y46 y47 y48 y49 y50 y51 y52 y53 y54 y55 y56 y57 y58 y59 y60 y61 y62 y63 y64 y65 y66 y67 y68 y69 y70 y71 y72 y73 y74 y75 y76 y77 y78 y79 y80 y81 y82 y83 y84 y85 y86 y87 y88 y89 y90 y91 y92 y93 y94 y95 y96 y97 y98 y99 y100 y101 y102 y103 y104 y105 y106 y107 y108 y109 y110 y111 y112 y113 y114 y115 y116 y117 y118 y119 y120 y121 y122 y123 y124 y125 y126 y127 y128 y129 y130 y131 y132 y133 y134 y135 y136 y137 y138 y139 y140 y141 y142 y143 y144 y145 y146 y147 y148 y149 y150 y151 y152 y153 y154 y155 y156 y157 y158 y159 y160 y161 y162 y163 y164 y165 y166 y167 y168 y169 y170 y171 y172 y173 y174 y175 y176 y177 y178 y179 y180 y181 y182 y183 y184 y185 y186 y187 y188 y189 y190 y191 y192 y193 y194 y195 y196 y197 y198 y199 y200 y201 y202 y203 y204 y205 W ⟨k',ws',A',c',h1,h2,e5,e4,hW'⟩
      subst e5 e4
      have HW':=Lhd hW'
      clear hW'
      go_roundw
      case rel=>exact⟨_,_,_,_,_,_,_,_,_,_,_,_,_,_,_,_,_,_,_,_,_,_,_,_,_,_,_,_,_,_,_,_,_,_,_,_,_,_,_,_,_,_,_,_,_,_,_,_,_,_,_,_,_,_,_,_,_,_,_,_,_,_,_,_,_,_,_,_,_,_,_,_,_,_,_,_,_,_,_,_,_,_,_,_,_,_,_,_,_,_,_,_,_,_,_,_,_,_,_,_,_,_,_,_,_,_,_,_,_,_,_,_,_,_,_,_,_,_,_,_,_,_,_,_,_,_,_,_,_,_,_,_,_,_,_,_,_,_,_,_,_,_,_,_,_,_,_,_,_,_,_,_,_,_,_,_,_,_,_,_,_,_,_,_,_,_,_,_,_,_,_,_,_,_,_,_,_,_,_,_,_,_,_,_,_,_,_,_,_,_,_,_,_,_,_,_,_,_,_,_,_,_,_,_,⟨k',ws',A',c',h2,rfl,rfl,HW'.out⟩,rfl⟩
      case measure=>simp[intOf];omega
     ·cases hpart:lexB s[k] with
      | true =>
       refine Code.wp_mono within_then (words_part s w _ m k ws A c hs0 HW.out hk hlt hblank hnr hpart (fun _ _ h=>h) ?_)
       intro y4 y5 y6 y7 y8 y9 y10 y11 y12 y13 y14 y15 y16 y17 y18 y19 y20 y21 y22 y23 y24 y25 y26 y27 y28 y29 y30 y31 y32 y33 y34 y35 y36 y37 y38 y39 y40 y41 y42 y43 y44 y45 y46 y47 y48 y49 y50 y51 y52 y53 y54 y55 y56 y57 y58 y59 y60 y61 y62 y63 y64 y65 y66 y67 y68 y69 y70 y71 y72 y73 y74 y75 y76 y77 y78 y79 y80 y81 y82 y83 y84 y85 y86 y87 y88 y89 y90 y91 y92 y93 y94 y95 y96 y97 y98 y99 y100 y101 y102 y103 y104 y105 y106 y107 y108 y109 y110 y111 y112 y113 y114 y115 y116 y117 y118 y119 y120 y121 y122 y123 y124 y125 y126 y127 y128 y129 y130 y131 y132 y133 y134 y135 y136 y137 y138 y139 y140 y141 y142 y143 y144 y145 y146 y147 y148 y149 y150 y151 y152 y153 y154 y155 y156 y157 y158 y159 y160 y161 y162 y163 y164 y165 y166 y167 y168 y169 y170 y171 y172 y173 y174 y175 y176 y177 y178 y179 y180 y181 y182 y183 y184 y185 y186 y187 y188 y189 y190 y191 y192 y193 y194 y195 y196 y197 y198 y199 y200 y201 y202 y203 y204 y205 W ⟨k',ws',A',c',h1,h2,e5,e4,hW'⟩
       subst e5 e4
       have HW':=Lhd hW'
       clear hW'
       go_roundw
       case rel=>exact⟨_,_,_,_,_,_,_,_,_,_,_,_,_,_,_,_,_,_,_,_,_,_,_,_,_,_,_,_,_,_,_,_,_,_,_,_,_,_,_,_,_,_,_,_,_,_,_,_,_,_,_,_,_,_,_,_,_,_,_,_,_,_,_,_,_,_,_,_,_,_,_,_,_,_,_,_,_,_,_,_,_,_,_,_,_,_,_,_,_,_,_,_,_,_,_,_,_,_,_,_,_,_,_,_,_,_,_,_,_,_,_,_,_,_,_,_,_,_,_,_,_,_,_,_,_,_,_,_,_,_,_,_,_,_,_,_,_,_,_,_,_,_,_,_,_,_,_,_,_,_,_,_,_,_,_,_,_,_,_,_,_,_,_,_,_,_,_,_,_,_,_,_,_,_,_,_,_,_,_,_,_,_,_,_,_,_,_,_,_,_,_,_,_,_,_,_,_,_,_,_,_,_,_,_,⟨k',ws',A',c',h2,rfl,rfl,HW'.out⟩,rfl⟩
       case measure=>simp[intOf];omega
      | false =>
       refine Code.wp_mono within_then (words_sign s w _ m k ws A c hs0 HW.out hk hlt hblank hnr hquo hpart (fun _ _ h=>h) ?_)
       intro y4 y5 y6 y7 y8 y9 y10 y11 y12 y13 y14 y15 y16 y17 y18 y19 y20 y21 y22 y23 y24 y25 y26 y27 y28 y29 y30 y31 y32 y33 y34 y35 y36 y37 y38 y39 y40 y41 y42 y43 y44 y45 y46 y47 y48 y49 y50 y51 y52 y53 y54 y55 y56 y57 y58 y59 y60 y61 y62 y63 y64 y65 y66 y67 y68 y69 y70 y71 y72 y73 y74 y75 y76 y77 y78 y79 y80 y81 y82 y83 y84 y85 y86 y87 y88 y89 y90 y91 y92 y93 y94 y95 y96 y97 y98 y99 y100 y101 y102 y103 y104 y105 y106 y107 y108 y109 y110 y111 y112 y113 y114 y115 y116 y117 y118 y119 y120 y121 y122 y123 y124 y125 y126 y127 y128 y129 y130 y131 y132 y133 y134 y135 y136 y137 y138 y139 y140 y141 y142 y143 y144 y145 y146 y147 y148 y149 y150 y151 y152 y153 y154 y155 y156 y157 y158 y159 y160 y161 y162 y163 y164 y165 y166 y167 y168 y169 y170 y171 y172 y173 y174 y175 y176 y177 y178 y179 y180 y181 y182 y183 y184 y185 y186 y187 y188 y189 y190 y191 y192 y193 y194 y195 y196 y197 y198 y199 y200 y201 y202 y203 y204 y205 W ⟨k',ws',A',c',h1,h2,e5,e4,hW'⟩
       subst e5 e4
       have HW':=Lhd hW'
       clear hW'
       go_roundw
       case rel=>exact⟨_,_,_,_,_,_,_,_,_,_,_,_,_,_,_,_,_,_,_,_,_,_,_,_,_,_,_,_,_,_,_,_,_,_,_,_,_,_,_,_,_,_,_,_,_,_,_,_,_,_,_,_,_,_,_,_,_,_,_,_,_,_,_,_,_,_,_,_,_,_,_,_,_,_,_,_,_,_,_,_,_,_,_,_,_,_,_,_,_,_,_,_,_,_,_,_,_,_,_,_,_,_,_,_,_,_,_,_,_,_,_,_,_,_,_,_,_,_,_,_,_,_,_,_,_,_,_,_,_,_,_,_,_,_,_,_,_,_,_,_,_,_,_,_,_,_,_,_,_,_,_,_,_,_,_,_,_,_,_,_,_,_,_,_,_,_,_,_,_,_,_,_,_,_,_,_,_,_,_,_,_,_,_,_,_,_,_,_,_,_,_,_,_,_,_,_,_,_,_,_,_,_,_,_,⟨k',ws',A',c',h2,rfl,rfl,HW'.out⟩,rfl⟩
       case measure=>simp[intOf];omega
  ·obtain rfl:k=s.size:=by omega
   have HM:=Lhd (show m=.inr ws from by
    rw[HW.out.eq,List.drop_eq_nil_of_le (by rw[szl];exact Nat.le_refl _),lexA_nil]
    show Sum.inr (ws++[])=_
    rw[List.append_nil])
   go_wp2
   go_ret2
   refine⟨?_,HW.out.b⟩
   rw[HM.out]
   exact⟨A,c,rfl,HW.out.own,HW.out.ok,HW.out.few⟩
structure DAt (g gw:Nat) (W:Wds) (s:PSt) (w:World):Prop where
 ex:∃ A n c,IsBlk w g 83 #[.slice A n c,.int .i64 s.at_,.int .i64 s.deep,.bool s.over,.bool s.bad]∧LsAt (fun b=>b=gw) w 4 WRow A n c W.l
 le:s.at_≤W.l.length
 max:W.l.length≤1000000000000
 ne:gw≠g
 wl:gw<w.heap.size
theorem cells5 {w:World} {g:Nat} {T:TypeId} {v0 v1 v2 v3 v4:Value} (h:IsBlk w g T #[v0,v1,v2,v3,v4]):w.cell? ⟨g,0,none⟩=some v0∧w.cell? ⟨g,1,none⟩=some v1∧w.cell? ⟨g,2,none⟩=some v2∧w.cell? ⟨g,3,none⟩=some v3∧w.cell? ⟨g,4,none⟩=some v4∧g<w.heap.size:=by
 have h0:=h.cell 0;have h1:=h.cell 1;have h2:=h.cell 2;have h3:=h.cell 3;have h4:=h.cell 4
 simp at h0 h1 h2 h3 h4
 exact⟨h0,h1,h2,h3,h4,h.lt⟩
section
variable {g gw:Nat} {W:Wds} {s s':PSt} {w w':World}
theorem DAt.lt (h:DAt g gw W s w):g<w.heap.size:=by
 obtain⟨⟨A,n,c,hk,_⟩,_⟩:=h
 exact hk.lt
theorem DAt.below (h:DAt g gw W s w) (hb:Below w.heap.size w w'):DAt g gw W s w':=by
 obtain⟨⟨A,n,c,hk,hl⟩,h1,h2,h3,h4⟩:=h
 exact⟨⟨A,n,c,hk.as_was (hb.block _ hk.lt),hl.below hb⟩,h1,h2,h3,Nat.lt_of_lt_of_le h4 hb.size⟩
theorem DAt.cell (h:DAt g gw W s w) (k:Nat) (v:Value) (hc:∀ A n c,(#[.slice A n c,.int .i64 s.at_,.int .i64 s.deep,.bool s.over,.bool s.bad]:Array Value).setIfInBounds k v=#[.slice A n c,.int .i64 s'.at_,.int .i64 s'.deep,.bool s'.over,.bool s'.bad]) (hle:s'.at_≤W.l.length):DAt g gw W s' (w.setCell ⟨g,k,none⟩ v):=by
 obtain⟨⟨A,n,c,hk,hl⟩,h1,h2,h3,h4⟩:=h
 refine⟨⟨A,n,c,by rw[← hc];exact hk.stored k v,hl.kept (Kept.of_but ((But.refl (fun j=>j=g) w).setCell (p:=⟨g,k,none⟩) (.inl rfl) _) fun j hj e=>h3 (hj▸e))⟩,hle,h2,h3,by simpa using h4⟩
theorem but_cell (h:But (fun k=>k=g) w w') (k:Nat) (v:Value):But (fun k=>k=g) w (w'.setCell ⟨g,k,none⟩ v):=h.setCell (p:=⟨g,k,none⟩) (.inl rfl) v
end
theorem isP_end {W:Wds} {s:PSt} (h:W.l.length≤s.at_) (t:ByteArray):isP W s t=false:=by
 unfold isP
 rw[look_end h]
 simp[Wd.says]
theorem dIs_any (g gw:Nat) (W:Wds) (s:PSt) (t:ByteArray) (w:World) (h:DAt g gw W s w) :
  Calls Tryz.prog 108 #[.pointer (some ⟨g,0,none⟩),.string t] w fun e w'=>e=.returned (.bool (!s.bad&&isP W s t))∧Below w.heap.size w w':=by
 have hend:=isP_end (W:=W) (s:=s) (t:=t)
 obtain⟨⟨A,m,c,hk,hl⟩,h1,h2,h3,h4⟩:=h
 have hm:=hl.len
 obtain⟨c0,c1,c2,c3,c4,hg⟩:=cells5 hk
 cases hbad:s.bad with
 | true =>
  rw[hbad] at c4
  simp only[Bool.not_true,Bool.false_and]
  clear hbad hk hl hm h1 h2 h3 h4 hend
  go_enter Tryz.func108,Tryz.ntmps108
  go_wp2
  go_quiet (fail)
  go_wp2
  go_ret
  exact⟨rfl,below_drewN (Below.refl _ _) _⟩
 | false =>
  rw[hbad] at c4
  simp only[Bool.not_false,Bool.true_and]
  rcases Nat.lt_or_ge s.at_ m with hlt|hge
  ·obtain⟨b,o,r,x,rfl,hb,hbg,hx,hrl,⟨rfl,hok⟩,hc⟩:=hl.get hlt
   have d0:w.cell? ⟨b,o+s.at_*4,none⟩=some (.int .i64 x.kind):=by simpa using hc 0 _ rfl
   have d1:=hc 1 (.string x.text) rfl
   have d2:=hc 2 (.int .i64 x.n) rfl
   have d3:=hc 3 (.int .i64 x.at_) rfl
   have hv:isP W s t=x.says t:=by unfold isP;rw[look_in hx]
   rw[hv]
   have hs:=fun W=>refSays_any x t W
   generalize x.says t=v at *
   have Hs:=Lhd hs
   unfold wrow at Hs
   have hd:decide (s.at_<m)=true:=by simp;omega
   have h0:(0:Int)≤(s.at_:Int):=by omega
   clear hbad hk hl hm h1 h2 h3 h4 hend hc hx hrl hok hv hs hbg
   generalize s.at_=a at *
   go_enter Tryz.func108,Tryz.ntmps108
   go_wp2
   go_still_tail 29,(by kernel_rfl)
   change wpList _ _ _ _ _ w.drew
   go_wp2_with (fail)
   refine(Hs.out _).mono ?_
   rintro e w2 ⟨rfl,hb2⟩
   have Hb2:=Lhd ((show Below w.heap.size w w.drew from (Below.refl _ _).drew).trans hb2)
   clear hb2
   go_wp2
   go_ret
   exact⟨rfl,Hb2.out⟩
  ·have hd:decide (s.at_<m)=false:=by simp;omega
   rw[hend (by omega)]
   clear hbad hk hl hm h1 h2 h3 h4 hend
   go_enter Tryz.func108,Tryz.ntmps108
   go_wp2
   go_quiet (fail)
   go_wp2
   go_ret
   exact⟨rfl,below_drewN (Below.refl _ _) _⟩
open Go.RowKit Go.Afx
theorem look_kind_end {W:Wds} {s:PSt} (h:W.l.length≤s.at_):(W.look s.at_).kind=4:=by rw[look_end h]
theorem dKind_quiet (g gw:Nat) (W:Wds) (s:PSt) (k:Int) (w:World) (h:DAt g gw W s w) (hk4:k≠4) :
  Calls Tryz.prog 109 #[.pointer (some ⟨g,0,none⟩),.int .i64 k] w fun e w'=>e=.returned (.bool (!s.bad&&((W.look s.at_).kind==k)))∧∃ k,w'=w.drewN k:=by
 have hend:=look_kind_end (W:=W) (s:=s)
 obtain⟨⟨A,m,c,hk,hl⟩,h1,h2,h3,h4⟩:=h
 have hm:=hl.len
 obtain⟨c0,c1,c2,c3,c4,hg⟩:=cells5 hk
 cases hbad:s.bad with
 | true =>
  rw[hbad] at c4
  simp only[Bool.not_true,Bool.false_and]
  clear hbad hk hl hm h1 h2 h3 h4 hend
  go_enter Tryz.func109,Tryz.ntmps109
  go_wp2
  go_quiet (fail)
  go_wp2
  go_ret
  exact⟨rfl,_,rfl⟩
 | false =>
  rw[hbad] at c4
  simp only[Bool.not_false,Bool.true_and]
  rcases Nat.lt_or_ge s.at_ m with hlt|hge
  ·obtain⟨b,o,r,x,rfl,hb,hbg,hx,hrl,⟨rfl,hok⟩,hc⟩:=hl.get hlt
   have d0:w.cell? ⟨b,o+s.at_*4,none⟩=some (.int .i64 x.kind):=by simpa using hc 0 _ rfl
   rw[look_in hx]
   have hd:decide (s.at_<m)=true:=by simp;omega
   have h0:(0:Int)≤(s.at_:Int):=by omega
   generalize x.kind=y at *
   clear hbad hk hl hm h1 h2 h3 h4 hend hc hx hrl hok hbg
   generalize s.at_=a at *
   go_enter Tryz.func109,Tryz.ntmps109
   go_wp2
   go_quiet (fail)
   go_wp2
   go_ret
   exact⟨rfl,_,rfl⟩
  ·have hd:decide (s.at_<m)=false:=by simp;omega
   rw[hend (by omega),show ((4:Int)==k)=false by rw[beq_eq_false_iff_ne];exact fun e=>hk4 e.symm]
   clear hbad hk hl hm h1 h2 h3 h4 hend hk4
   go_enter Tryz.func109,Tryz.ntmps109
   go_wp2
   go_quiet (fail)
   go_wp2
   go_ret
   exact⟨rfl,_,rfl⟩
theorem dKind_any (g gw:Nat) (W:Wds) (s:PSt) (k:Int) (w:World) (h:DAt g gw W s w) (hk4:k≠4) :
  Calls Tryz.prog 109 #[.pointer (some ⟨g,0,none⟩),.int .i64 k] w fun e w'=>e=.returned (.bool (!s.bad&&((W.look s.at_).kind==k)))∧Below w.heap.size w w' :=
 (dKind_quiet g gw W s k w h hk4).mono fun _ _ ⟨h1,n,h2⟩=>⟨h1,by rw[h2];exact below_drewN (Below.refl _ _) n⟩
section
variable {g gw:Nat} {W:Wds} {s:PSt} {w w':World}
theorem DAt.on_ (h:DAt g gw W s w) (hlt:s.at_<W.l.length):DAt g gw W s.on (w.setCell ⟨g,1,none⟩ (.int .i64 ((s.at_+1:Nat):Int))):=h.cell (s':=s.on) 1 _ (fun _ _ _=>rfl) hlt
theorem DAt.fail_ (h:DAt g gw W s w):DAt g gw W s.fail (w.setCell ⟨g,4,none⟩ (.bool true)):=h.cell (s':=s.fail) 4 _ (fun _ _ _=>rfl) h.le
theorem DAt.deep_ (h:DAt g gw W s w) (d:Int):DAt g gw W { s with deep:=d } (w.setCell ⟨g,2,none⟩ (.int .i64 d)):=h.cell (s':={ s with deep:=d }) 2 _ (fun _ _ _=>rfl) h.le
theorem DAt.over_ (h:DAt g gw W s w) (b:Bool):DAt g gw W { s with over:=b } (w.setCell ⟨g,3,none⟩ (.bool b)):=h.cell (s':={ s with over:=b }) 3 _ (fun _ _ _=>rfl) h.le
theorem DAt.cells (h:DAt g gw W s w):∃ A n c,w.cell? ⟨g,0,none⟩=some (.slice A n c)∧w.cell? ⟨g,1,none⟩=some (.int .i64 s.at_)∧w.cell? ⟨g,2,none⟩=some (.int .i64 s.deep)∧w.cell? ⟨g,3,none⟩=some (.bool s.over)∧w.cell? ⟨g,4,none⟩=some (.bool s.bad)∧g<w.heap.size∧(∀ k,w.frozen? ⟨g,k,none⟩=false):=by
 obtain⟨⟨A,n,c,hk,_⟩,_⟩:=h
 obtain⟨c0,c1,c2,c3,c4,hg⟩:=cells5 hk
 exact⟨A,n,c,c0,c1,c2,c3,c4,hg,hk.frozen⟩
theorem at_small (h:DAt g gw W s w):s.at_≤1000000000000:=Nat.le_trans h.le h.max
end
theorem may_split (W:Wds) (t:ByteArray) (s:PSt):(!s.bad&&isP W s t)=(mayP W t s).1:=by
 unfold mayP
 split
 ·rename_i h;exact h
 ·rename_i h;simpa using h
theorem dMay_any (g gw:Nat) (W:Wds) (s:PSt) (t:ByteArray) (w:World) (h:DAt g gw W s w) :
  Calls Tryz.prog 64 #[.pointer (some ⟨g,0,none⟩),.string t] w fun e w'=>e=.returned (.bool (mayP W t s).1)∧DAt g gw W (mayP W t s).2 w'∧But (fun k=>k=g) w w':=by
 have hi:=dIs_any g gw W s t w h
 have hb:=fun w2 (hb:Below w.heap.size w w2)=>h.below hb
 have hsm:=at_small h
 rw[may_split] at hi
 rcases may_cases W t s with hc|⟨hc,_,hlt⟩
 ·rw[hc] at hi ⊢
  have Hi:=Lhd hi
  have Hb:=Lhd hb
  clear hi hb hc h
  go_enter Tryz.func64,Tryz.ntmps64
  go_wp2_with (fail)
  refine Hi.out.mono ?_
  rintro e w2 ⟨rfl,hb2⟩
  have H2:=Lhd (And.intro (Hb.out w2 hb2) (But.of_below (S:=fun k=>k=g) hb2))
  clear hb2
  go_wp2
  go_ret
  exact⟨rfl,H2.out⟩
 ·rw[hc] at hi ⊢
  have Hi:=Lhd hi
  have Hb:=Lhd hb
  have Hlt:=Lhd hlt
  clear hi hb hc h hlt
  go_enter Tryz.func64,Tryz.ntmps64
  go_wp2_with (fail)
  refine Hi.out.mono ?_
  rintro e w2 ⟨rfl,hb2⟩
  have h2:=Hb.out w2 hb2
  obtain⟨A,n,c,c0,c1,c2,c3,c4,hg,hf⟩:=h2.cells
  have H2:=Lhd (And.intro (h2.on_ Hlt.out) (but_cell (But.of_below (S:=fun k=>k=g) hb2) 1 (.int .i64 ((s.at_+1:Nat):Int))))
  clear hb2 h2
  go_wp2
  go_ret
  exact⟨rfl,H2.out⟩
theorem dTake_any (g gw:Nat) (W:Wds) (s:PSt) (t:ByteArray) (w:World) (h:DAt g gw W s w) :
  Calls Tryz.prog 111 #[.pointer (some ⟨g,0,none⟩),.string t] w fun e w'=>e=.returned (.tuple #[])∧DAt g gw W (mustP W [t] s) w'∧But (fun k=>k=g) w w':=by
 have hi:=dIs_any g gw W s t w h
 have hb:=fun w2 (hb:Below w.heap.size w w2)=>h.below hb
 have hsm:=at_small h
 rw[may_split] at hi
 unfold mustP mustP
 rcases may_cases W t s with hc|⟨hc,_,hlt⟩
 ·rw[hc] at hi ⊢
  rw[if_neg Bool.false_ne_true]
  have Hi:=Lhd hi
  have Hb:=Lhd hb
  clear hi hb hc h
  go_enter Tryz.func111,Tryz.ntmps111
  go_wp2_with (fail)
  refine Hi.out.mono ?_
  rintro e w2 ⟨rfl,hb2⟩
  have h2:=Hb.out w2 hb2
  obtain⟨A,n,c,c0,c1,c2,c3,c4,hg,hf⟩:=h2.cells
  have H2:=Lhd (And.intro h2.fail_ (but_cell (But.of_below (S:=fun k=>k=g) hb2) 4 (.bool true)))
  clear hb2 h2
  go_wp2
  go_end0
  exact⟨rfl,H2.out⟩
 ·rw[hc] at hi ⊢
  rw[if_pos rfl]
  have Hi:=Lhd hi
  have Hb:=Lhd hb
  have Hlt:=Lhd hlt
  clear hi hb hc h hlt
  go_enter Tryz.func111,Tryz.ntmps111
  go_wp2_with (fail)
  refine Hi.out.mono ?_
  rintro e w2 ⟨rfl,hb2⟩
  have h2:=Hb.out w2 hb2
  obtain⟨A,n,c,c0,c1,c2,c3,c4,hg,hf⟩:=h2.cells
  have H2:=Lhd (And.intro (h2.on_ Hlt.out) (but_cell (But.of_below (S:=fun k=>k=g) hb2) 1 (.int .i64 ((s.at_+1:Nat):Int))))
  clear hb2 h2
  go_wp2
  go_end0
  exact⟨rfl,H2.out⟩
theorem dEnter_any (g gw:Nat) (W:Wds) (s:PSt) (w:World) (h:DAt g gw W s w) :
  Calls Tryz.prog 65 #[.pointer (some ⟨g,0,none⟩)] w fun e w'=>e=.returned (.tuple #[])∧DAt g gw W (enterP s) w'∧But (fun k=>k=g) w w':=by
 obtain⟨A,n,c,c0,c1,c2,c3,c4,hg,hf⟩:=h.cells
 have h1:DAt g gw W (upP s) _:=h.deep_ (wrap64 (s.deep+1))
 have hb:=but_cell (But.refl (fun k=>k=g) w) 2 (.int .i64 (wrap64 (s.deep+1)))
 have H1:=Lhd (And.intro h1 hb)
 have H2:=Lhd (And.intro (h1.over_ true).fail_ (but_cell (but_cell hb 3 (.bool true)) 4 (.bool true)))
 clear h h1 hb
 unfold enterP
 have e1:(upP s).deep=wrap64 (s.deep+1):=rfl
 rw[e1]
 clear e1
 rcases Classical.em (60<wrap64 (s.deep+1)) with hd|hd
 ·have q1:decide ((60:Int)<wrap64 (s.deep+1))=true:=by simpa using hd
  cases hbad:s.bad with
  | true =>
   rw[hbad] at c4
   rw[q1]
   simp only[Bool.not_true,Bool.and_false,Bool.false_eq_true,if_false]
   clear hbad
   go_enter Tryz.func65,Tryz.ntmps65
   go_wp2
   go_end0
   exact⟨rfl,H1.out⟩
  | false =>
   rw[hbad] at c4
   rw[q1]
   simp only[Bool.not_false,Bool.and_true,if_true]
   clear hbad
   go_enter Tryz.func65,Tryz.ntmps65
   go_wp2
   go_end0
   exact⟨rfl,H2.out⟩
 ·have q1:decide ((60:Int)<wrap64 (s.deep+1))=false:=by simpa using hd
  rw[q1]
  simp only[Bool.false_and,Bool.false_eq_true,if_false]
  go_enter Tryz.func65,Tryz.ntmps65
  go_wp2
  go_end0
  exact⟨rfl,H1.out⟩
end Go.Proofs.YtdgapmnojmhllaaGreatDoor

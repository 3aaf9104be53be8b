/- Parts of this proof, one behind the other: RgU1. -/
import Derived.Test.YtdgapmnojmhllaaGreatDoorPf38
set_option maxRecDepth 1000000
set_option maxHeartbeats 40000000
namespace Go.Proofs.YtdgapmnojmhllaaGreatDoor
open Go.RowKit Go.Afx
theorem words_quote (s:ByteArray) (w wr:World) (m:Nat ⊕ List Wd) (k:Nat) (ws:List Wd) (A:Option Addr) (c:Nat) {x1 x2 x3 x6 x7 x8 x9 x10 x11 x12 x13 x14 x15 x16 x17 x18 x19 x20 x21 x22 x23 x24 x25 x26 x27 x28 x29 x30 x31 x32 x33 x34 x35 x36 x37 x38 x39 x40 x41 x42 x43 x44 x45 x46 x47 x48 x49 x50 x51 x52 x53 x54 x55 x56 x57 x58 x59 x60 x61 x62 x63 x64 x65 x66 x67 x68 x69 x70 x71 x72 x73 x74 x75 x76 x77 x78 x79 x80 x81 x82 x83 x84 x85 x86 x87 x88 x89 x90 x91 x92 x93 x94 x95 x96 x97 x98 x99 x100 x101 x102 x103 x104 x105 x106 x107 x108 x109 x110 x111 x112 x113 x114 x115 x116 x117 x118 x119 x120 x121 x122 x123 x124 x125 x126 x127 x128 x129 x130 x131 x132 x133 x134 x135 x136 x137 x138 x139 x140 x141 x142 x143 x144 x145 x146 x147 x148 x149 x150 x151 x152 x153 x154 x155 x156 x157 x158 x159 x160 x161 x162 x163 x164 x165 x166 x167 x168 x169 x170 x171 x172 x173 x174 x175 x176 x177 x178 x179 x180 x181 x182 x183 x184 x185 x186 x187 x188 x189 x190 x191 x192 x193 x194 x195 x196 x197 x198 x199 x200 x201 x202 x203 x204 x205 x206:Value} {I:Act→World→Prop} {R:Ending→World→Prop} (hs:s.size≤1000000)
  (hW:WordsAt s.data.toList m w.heap.size w k ws A c wr) (hk:k≤s.size) (hlt:k<s.size) (hblank:wsB s[k]=false) (hnr:¬ (s[k].toNat=47∧(s.data.toList.drop (k+1)).head?=some 47)) (hquo:s[k]=39)
  (hR:∀ x w',RefWords s.size w.heap.size m x w'∧Below w.heap.size w w'→R x w')
  (hI:∀ (y4 y5 y6 y7 y8 y9 y10 y11 y12 y13 y14 y15 y16 y17 y18 y19 y20 y21 y22 y23 y24 y25 y26 y27 y28 y29 y30 y31 y32 y33 y34 y35 y36 y37 y38 y39 y40 y41 y42 y43 y44 y45 y46 y47 y48 y49 y50 y51 y52 y53 y54 y55 y56 y57 y58 y59 y60 y61 y62 y63 y64 y65 y66 y67 y68 y69 y70 y71 y72 y73 y74 y75 y76 y77 y78 y79 y80 y81 y82 y83 y84 y85 y86 y87 y88 y89 y90 y91 y92 y93 y94 y95 y96 y97 y98 y99 y100 y101 y102 y103 y104 y105 y106 y107 y108 y109 y110 y111 y112 y113 y114 y115 y116 y117 y118 y119 y120 y121 y122 y123 y124 y125 y126 y127 y128 y129 y130 y131 y132 y133 y134 y135 y136 y137 y138 y139 y140 y141 y142 y143 y144 y145 y146 y147 y148 y149 y150 y151 y152 y153 y154 y155 y156 y157 y158 y159 y160 y161 y162 y163 y164 y165 y166 y167 y168 y169 y170 y171 y172 y173 y174 y175 y176 y177 y178 y179 y180 y181 y182 y183 y184 y185 y186 y187 y188 y189 y190 y191 y192 y193 y194 y195 y196 y197 y198 y199 y200 y201 y202 y203 y204 y205:Value) (W:World),(∃ (k':Nat) (ws':List Wd) (A':Option Addr) (c':Nat),k<k'∧k'≤s.size∧y5=.int .i64 k'∧y4=.slice A' ws'.length c'∧WordsAt s.data.toList m w.heap.size w k' ws' A' c' W)→I ⟨#[.string s,x1,x2,x3,y4,y5,y6,y7,y8,y9,y10,y11,y12,y13,y14,y15,y16,y17,y18,y19,y20,y21,y22,y23,y24,y25,y26,y27,y28,y29,y30,y31,y32,y33,y34,y35,y36,y37,y38,y39,y40,y41,y42,y43,y44,y45,y46,y47,y48,y49,y50,y51,y52,y53,y54,y55,y56,y57,y58,y59,y60,y61,y62,y63,y64,y65,y66,y67,y68,y69,y70,y71,y72,y73,y74,y75,y76,y77,y78,y79,y80,y81,y82,y83,y84,y85,y86,y87,y88,y89,y90,y91,y92,y93,y94,y95,y96,y97,y98,y99,y100,y101,y102,y103,y104,y105,y106,y107,y108,y109,y110,y111,y112,y113,y114,y115,y116,y117,y118,y119,y120,y121,y122,y123,y124,y125,y126,y127,y128,y129,y130,y131,y132,y133,y134,y135,y136,y137,y138,y139,y140,y141,y142,y143,y144,y145,y146,y147,y148,y149,y150,y151,y152,y153,y154,y155,y156,y157,y158,y159,y160,y161,y162,y163,y164,y165,y166,y167,y168,y169,y170,y171,y172,y173,y174,y175,y176,y177,y178,y179,y180,y181,y182,y183,y184,y185,y186,y187,y188,y189,y190,y191,y192,y193,y194,y195,y196,y197,y198,y199,y200,y201,y202,y203,y204,y205,x206],[]⟩ W) :
  Code.wp Tryz.prog wordsLoop (Exit.then I (bodyPost Tryz.prog Tryz.f26 R)) ⟨#[.string s,x1,x2,x3,.slice A ws.length c,.int .i64 k,x6,x7,x8,x9,x10,x11,x12,x13,x14,x15,x16,x17,x18,x19,x20,x21,x22,x23,x24,x25,x26,x27,x28,x29,x30,x31,x32,x33,x34,x35,x36,x37,x38,x39,x40,x41,x42,x43,x44,x45,x46,x47,x48,x49,x50,x51,x52,x53,x54,x55,x56,x57,x58,x59,x60,x61,x62,x63,x64,x65,x66,x67,x68,x69,x70,x71,x72,x73,x74,x75,x76,x77,x78,x79,x80,x81,x82,x83,x84,x85,x86,x87,x88,x89,x90,x91,x92,x93,x94,x95,x96,x97,x98,x99,x100,x101,x102,x103,x104,x105,x106,x107,x108,x109,x110,x111,x112,x113,x114,x115,x116,x117,x118,x119,x120,x121,x122,x123,x124,x125,x126,x127,x128,x129,x130,x131,x132,x133,x134,x135,x136,x137,x138,x139,x140,x141,x142,x143,x144,x145,x146,x147,x148,x149,x150,x151,x152,x153,x154,x155,x156,x157,x158,x159,x160,x161,x162,x163,x164,x165,x166,x167,x168,x169,x170,x171,x172,x173,x174,x175,x176,x177,x178,x179,x180,x181,x182,x183,x184,x185,x186,x187,x188,x189,x190,x191,x192,x193,x194,x195,x196,x197,x198,x199,x200,x201,x202,x203,x204,x205,x206],[]⟩ wr:=by
 conv=>arg 2;whnf
 have HI:=Lhd hI
 have HR:=Lhd hR
 have HW:=Lhd hW
 have Hs:=Lhd hs
 have Hbl:=Lhd hblank
 clear hI hR hW
 have hd:=drop_at s k hlt
 have Hd:=Lhd hd
 have hi0:(0:Int)≤(k:Int):=by omega
 have hi1:(k:Int)<(s.size:Int):=by omega
 clear hd
 have hq:((s[k].toNat:Int)==32)=false∧((s[k].toNat:Int)==9)=false∧((s[k].toNat:Int)==10)=false:=by
  rw[wsB_eq] at hblank
  simpa [Bool.or_eq_false_iff,and_assoc] using hblank
 obtain⟨q0,q1,q2⟩:=hq
 clear hblank
 have hrem:¬ (s[k]=47∧∃ h:k+1<s.size,s[k+1]=47):=by
  rintro⟨e1,h,e2⟩
  exact hnr ⟨by rw[e1];rfl,by rw[drop_at s (k+1) h,e2];rfl⟩
 have hwq:(((s[k].toNat:Int)==47)=false)∨(((s[k].toNat:Int)==47)=true∧decide ((k:Int)+1<(s.size:Int))=false)∨(((s[k].toNat:Int)==47)=true∧decide ((k:Int)+1<(s.size:Int))=true∧∃ h:k+1<s.size,((s[k+1].toNat:Int)==47)=false):=by
  by_cases e1:s[k]=47
  ·right
   have e1':((s[k].toNat:Int)==47)=true:=by rw[e1];rfl
   rcases Nat.lt_or_ge (k+1) s.size with h|h
   ·right
    refine⟨e1',by simp;omega,h,?_⟩
    rw[beq_eq_false_iff_ne]
    exact fun e=>hrem ⟨e1,h,UInt8.toNat_inj.1 (by show s[k+1].toNat=47;omega)⟩
   ·left
    exact⟨e1',by simp;omega⟩
  ·left
   rw[beq_eq_false_iff_ne]
   exact fun e=>e1 (UInt8.toNat_inj.1 (by show s[k].toNat=47;omega))
 have Hnr:=Lhd hnr
 have i5:(0:Int)≤(k:Int)+1:=by omega
 have i6:((k:Int)+1).toNat=k+1:=by omega
 clear hnr hrem
 have Hz:=Lhd (And.intro (Nat.le_refl w.heap.size) (show k≤1000000 by have:=Hs.out;omega))
 have q3:((s[k].toNat:Int)==39)=true:=by rw[hquo];rfl
 have hnx:nextX (s.data.toList.drop k)=quoR (quo (s.data.toList.drop (k+1)) [] 1):=by
  rw[Hd.out,← quotedX_cons s[k]]
  unfold nextX
  rw[if_neg (by rw[hquo];show ¬ lexB 39=true;decide),if_pos (by rw[hquo];rfl)]
 obtain⟨mq,Hmq⟩:∃ mq,Hid (mq=quo (s.data.toList.drop (k+1)) [] 1):=⟨_,rfl⟩
 rw[← Hmq.out] at hnx
 have Hnx:=Lhd hnx
 have hq47:((s[k].toNat:Int)==47)=false:=by rw[hquo];rfl
 clear hnx hquo hwq
 have Hlt:=Lhd (And.intro hk hlt)
 obtain⟨wo,Hwo⟩:∃ wo,Hid (wr=wo):=⟨_,rfl⟩
 rw[Hwo.out] at HW ⊢
 clear Hwo
 go_wp2
 go_loopw [7,8] (fun u7 u8 wr=>∃ (i:Nat) (l:List UInt8) (A2:Option Addr) (c2:Nat),k+1≤i∧i≤s.size∧u8=.int .i64 i∧u7=.slice A2 l.length c2∧wr.ownsRow wo.heap.size 5 1 (.slice A2 l.length c2) l.length (l.map u8v).flatten∧l.length≤i∧Hid (mq=quo (s.data.toList.drop i) l (i-k))∧Below wo.heap.size wo wr) (fun _ u8 _=>s.size-(intOf u8).toNat)
 case atStart=>exact⟨k+1,[],none,0,Nat.le_refl _,hlt,by go_num,rfl,World.ownsRow_nil _ _ _ _,Nat.zero_le _,Lhd (by rw[Hmq.out,show k+1-k=1 by omega]),Below.refl _ _⟩
 case round =>
  obtain⟨i,l,A2,c2,hki,his,rfl,rfl,hown,hll,HQ,hb⟩:=hrel
  have Hown:=Lhd hown
  have Hb:=Lhd hb
  have HB:=Lhd (HW.out.b.trans (hb.mono HW.out.b.size))
  have hcvo:=conv_own hown
  clear hown hb q3 q0 q1 q2
  rcases Nat.lt_or_ge i s.size with hilt|hige
  ·have hid:=drop_at s i hilt
   obtain⟨r1,r2,r3⟩:=quo_at (c:=s[i]) (r:=s.data.toList.drop (i+1)) (acc:=l) (i:=i-k)
   rw[← hid,← HQ.out] at r1 r2 r3
   have j0:(0:Int)≤(i:Int):=by omega
   have j1:(i:Int)<(s.size:Int):=by omega
   have j2:(0:Int)≤(i:Int)+1:=by omega
   have j3:((i:Int)+1).toNat=i+1:=by omega
   have hex:∀ c:UInt8,RowsAt (wr.alloc (.cells #[.int .u8 (c.toNat:Int)] 5)) 1 (some ⟨wr.heap.size,0,none⟩) 1 1 [u8v c]:=fun c=>RowsAt.lit' _ _ 1 rfl rfl (by simp) rfl (by unfold maxLen;omega)
   have Hex:=Lhd hex
   have Hal:=Lhd (fun c:UInt8=>(Below.refl wr.heap.size wr).alloc (Nat.le_refl _) (.cells #[.int .u8 (c.toNat:Int)] 5))
   have Hmx:=Lhd (And.intro (show l.length+1≤maxLen by unfold maxLen;omega) (show (l.length+1)*1≤140737488355328 by omega))
   have Hr1:=Lhd r1
   have Hr2:=Lhd r2
   have Hr3:=Lhd r3
   have Hll:=Lhd hll
   have hdd:List.drop 1 (s.data.toList.drop (i+1))=s.data.toList.drop (i+2):=by rw[List.drop_drop]
   have Hdd:=Lhd hdd
   clear r1 r2 r3 hid hex hll hdd
   by_cases e10:s[i]=10
   ·have b1:((s[i].toNat:Int) !=10)=false:=by rw[e10];rfl
    have b2:((s[i].toNat:Int)==10)=true:=by rw[e10];rfl
    have b3:decide (s.size≤i)=false:=by simp;omega
    have hm:=Hr1.out (by rw[e10];rfl)
    have hn:=Hnx.out
    rw[hm] at hn
    have HM:=Lhd (words_none HW.out Hd.out Hbl.out Hnr.out hn)
    clear e10 hm hn hcvo
    go_wp2
    try go_ret2
    exact HR.out _ _ ⟨by rw[HM.out];rfl,HB.out⟩
   ·have b1:((s[i].toNat:Int) !=10)=true:=by
     simp
     exact fun e=>e10 (UInt8.toNat_inj.1 (by show s[i].toNat=10;omega))
    have b1':((s[i].toNat:Int)==10)=false:=by
     rw[beq_eq_false_iff_ne]
     exact fun e=>e10 (UInt8.toNat_inj.1 (by show s[i].toNat=10;omega))
    have n10:s[i].toNat≠10:=fun e=>e10 (UInt8.toNat_inj.1 e)
    by_cases e39:s[i]=39
    ·have b2:((s[i].toNat:Int) !=39)=false:=by rw[e39];rfl
     have b2':((s[i].toNat:Int)==39)=true:=by rw[e39];rfl
     obtain⟨r4,r5⟩:=Hr3.out (by rw[e39];rfl)
     by_cases e3:∃ h:i+1<s.size,s[i+1]=39
     ·obtain⟨h3,e3⟩:=e3
      have b3:((s[i+1].toNat:Int)==39)=true:=by rw[e3];rfl
      have b4:decide ((i:Int)+1<(s.size:Int))=true:=by simp;omega
      have hm:=r4 (by rw[drop_at s (i+1) h3,e3];rfl)
      rw[Hdd.out,show i-k+2=i+2-k by omega] at hm
      have hm':mq=quo (s.data.toList.drop (i+2)) (l++[s[i]]) (i+2-k):=by rw[e39];exact hm
      have HF2:=Lhd hm'
      clear e10 e3 r4 r5 hm hcvo n10 hm' e39
      have Hown2:=Lhd (own_below Hown.out (Hal.out s[i]))
      go_wp2_with (at_builtin;refine wpList_app (base:=wo.heap.size) (xs:=l.map u8v) (news:=[u8v s[i]]) rfl rfl tyU8 rfl Hown2.out rfl (Hex.out _) (by simp) (by simp[Value.oneCell']) Hmx.out.1 Hmx.out.2 (by (have:=Hb.out.size;simp;omega)) ?_;intro A6 c6 w6 hown6 hbut6 hf6)
      rw[u8_push] at hown6
      have hb6:=(Hb.out.trans ((Hal.out s[i]).mono Hb.out.size)).trans (own_turned Hown2.out hbut6 (by have:=Hb.out.size;simp;omega))
      have H6:=Lhd (And.intro hown6 hb6)
      clear hown6 hbut6 hf6 hb6
      go_wp2
      go_roundw
      case rel=>exact⟨i+2,l++[s[i]],A6,c6,by omega,by omega,by go_num,by simp,by simpa using H6.out.1,by have:=Hll.out;simp;omega,HF2,H6.out.2⟩
      case measure=>simp[intOf];omega
     ·have hm:=r5 (fun e=>e3 (by
       rcases Nat.lt_or_ge (i+1) s.size with h|h
       ·rw[drop_at s (i+1) h] at e
        exact⟨h,Option.some.inj e⟩
       ·rw[List.drop_eq_nil_of_le (by rw[szl];exact h)] at e;cases e))
      have hn:=Hnx.out
      rw[hm] at hn
      simp only[quoR] at hn
      have b0:decide (s.size≤i)=false:=by simp;omega
      have hnx3:decide ((i:Int)+1<(s.size:Int))=false∨(decide ((i:Int)+1<(s.size:Int))=true∧∃ h:i+1<s.size,((s[i+1].toNat:Int)==39)=false):=by
       rcases Nat.lt_or_ge (i+1) s.size with h|h
       ·right
        refine⟨by simp;omega,h,?_⟩
        rw[beq_eq_false_iff_ne]
        exact fun e=>e3 ⟨h,UInt8.toNat_inj.1 (by show s[i+1].toNat=39;omega)⟩
       ·left
        simp;omega
      clear e10 e39 e3 r4 r5 hm n10
      by_cases h200:l.length≤200
      ·rw[if_pos h200] at hn
       have d200:decide ((200:Int)<(l.length:Int))=false:=by simp;omega
       have Hmore:=Lhd (fun (w6:World) (A6:Option Addr) (c6:Nat) ho hb=>words_more (w6:=w6) (A6:=A6) (c6:=c6) HW.out Hd.out Hbl.out Hnr.out hn (by rw[szl];exact Hs.out) (by rw[szl];exact hlt) ho hb)
       have hWr:=HW.out.below Hb.out (Nat.le_refl _)
       obtain⟨n1,n2,n3,n4,n5,n6⟩:=word_laid hWr (Nat.le_refl _) Hz.out.2 2 0 k (str l)
       have HL:=Lhd (And.intro n1 (And.intro n2 (And.intro n3 (And.intro n4 (And.intro n5 n6)))))
       have Hki:=Lhd (show k+(i-k+1)=i+1 by omega)
       clear hn hWr n1 n2 n3 n4 n5 n6 h200
       rcases hnx3 with b3|⟨b3,h1,b4⟩
       all_goals
        go_wp2_with (at_builtin;refine wpList_app (base:=w.heap.size) (xs:=ws.map wrow) (news:=[[.int .i64 2,.string (str l),.int .i64 0,.int .i64 k]]) rfl rfl tyRw rfl HL.out.1 rfl HL.out.2.1 (by simp) (by simp[Value.oneCell']) HL.out.2.2.1 HL.out.2.2.2.1 HL.out.2.2.2.2.1 ?_;intro A6 c6 w6 hown6 hbut6 hf6)
        have hWn:=Hmore.out w6 A6 c6 hown6 (HL.out.2.2.2.2.2 w6 hbut6)
        rw[Hki.out] at hWn
        have HWn:=Lhd hWn
        clear hown6 hbut6 hf6 hWn hcvo
        go_wp2
        exact HI.out _ _ _ _ _ _ _ _ _ _ _ _ _ _ _ _ _ _ _ _ _ _ _ _ _ _ _ _ _ _ _ _ _ _ _ _ _ _ _ _ _ _ _ _ _ _ _ _ _ _ _ _ _ _ _ _ _ _ _ _ _ _ _ _ _ _ _ _ _ _ _ _ _ _ _ _ _ _ _ _ _ _ _ _ _ _ _ _ _ _ _ _ _ _ _ _ _ _ _ _ _ _ _ _ _ _ _ _ _ _ _ _ _ _ _ _ _ _ _ _ _ _ _ _ _ _ _ _ _ _ _ _ _ _ _ _ _ _ _ _ _ _ _ _ _ _ _ _ _ _ _ _ _ _ _ _ _ _ _ _ _ _ _ _ _ _ _ _ _ _ _ _ _ _ _ _ _ _ _ _ _ _ _ _ _ _ _ _ _ _ _ _ _ _ _ _ _ _ _ _ _ _ _ ⟨i+1,ws++[⟨2,str l,0,k⟩],A6,c6,by omega,by omega,by go_num,by simp,HWn.out⟩
      ·rw[if_neg h200] at hn
       have d200:decide ((200:Int)<(l.length:Int))=true:=by simp;omega
       have HM:=Lhd (words_none HW.out Hd.out Hbl.out Hnr.out hn)
       clear hn hcvo h200
       rcases hnx3 with b3|⟨b3,h1,b4⟩
       all_goals
        go_wp2
        try go_ret2
        exact HR.out _ _ ⟨by rw[HM.out];rfl,HB.out⟩
    ·have b2:((s[i].toNat:Int) !=39)=true:=by
      simp
      exact fun e=>e39 (UInt8.toNat_inj.1 (by show s[i].toNat=39;omega))
     have b2':((s[i].toNat:Int)==39)=false:=by
      rw[beq_eq_false_iff_ne]
      exact fun e=>e39 (UInt8.toNat_inj.1 (by show s[i].toNat=39;omega))
     have hm:=Hr2.out n10 (fun e=>e39 (UInt8.toNat_inj.1 e))
     rw[show i-k+1=i+1-k by omega] at hm
     have HF2:=Lhd hm
     have Hown2:=Lhd (own_below Hown.out (Hal.out s[i]))
     clear e10 e39 hm hcvo n10
     go_wp2_with (at_builtin;refine wpList_app (base:=wo.heap.size) (xs:=l.map u8v) (news:=[u8v s[i]]) rfl rfl tyU8 rfl Hown2.out rfl (Hex.out _) (by simp) (by simp[Value.oneCell']) Hmx.out.1 Hmx.out.2 (by (have:=Hb.out.size;simp;omega)) ?_;intro A6 c6 w6 hown6 hbut6 hf6)
     rw[u8_push] at hown6
     have hb6:=(Hb.out.trans ((Hal.out s[i]).mono Hb.out.size)).trans (own_turned Hown2.out hbut6 (by have:=Hb.out.size;simp;omega))
     have H6:=Lhd (And.intro hown6 hb6)
     clear hown6 hbut6 hf6 hb6
     go_wp2
     go_roundw
     case rel=>exact⟨i+1,l++[s[i]],A6,c6,by omega,by omega,by go_num,by simp,by simpa using H6.out.1,by have:=Hll.out;simp;omega,HF2,H6.out.2⟩
     case measure=>simp[intOf];omega
  ·obtain rfl:i=s.size:=by omega
   have hm:mq=none:=by
    rw[HQ.out,List.drop_eq_nil_of_le (by rw[szl];exact Nat.le_refl _)]
    rfl
   have hn:=Hnx.out
   rw[hm] at hn
   have HM:=Lhd (words_none HW.out Hd.out Hbl.out Hnr.out hn)
   clear hm hn hcvo
   go_wp2
   try go_ret2
   exact HR.out _ _ ⟨by rw[HM.out];rfl,HB.out⟩
end Go.Proofs.YtdgapmnojmhllaaGreatDoor

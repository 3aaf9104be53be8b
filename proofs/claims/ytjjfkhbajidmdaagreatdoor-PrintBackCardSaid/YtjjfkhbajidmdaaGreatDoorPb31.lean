/- Parts of this proof, one behind the other: ParR, ParS, ParT, ParN1. -/
import Derived.Test.YtjjfkhbajidmdaaGreatDoorPb30
set_option maxRecDepth 1000000
set_option maxHeartbeats 40000000
namespace Go.Proofs.YtjjfkhbajidmdaaGreatDoor
open Go.RowKit Go.Afx
theorem abu {w1 w4 w5:World} {g5 D g:Nat} {bx:Ex} {A9:Option Addr} {m9 c9:Nat} {v:Value} (hx:aC (Fr w4) D w5 [.int .i64 bx.op,.int .i64 bx.n,.string bx.s,.string bx.name,.string bx.src,.slice A9 m9 c9] bx) (h14:w1.heap.size≤w4.heap.size) (h45:w4.heap.size≤w5.heap.size) (hg5:g5<w4.heap.size) (hg:g=w5.heap.size) :
  aO (Fr w1) D ((w5.setCell ⟨g5,5,none⟩ v).alloc (.cells #[.int .i64 bx.op,.int .i64 bx.n,.string bx.s,.string bx.name,.string bx.src,.slice A9 m9 c9] 55)) (some ⟨g,0,none⟩) 1 1 [bx]:=by
 have hb:=(But.refl (fun k=>k=g5) w5).setCell (p:=⟨g5,5,none⟩) (.inl rfl) v
 have hx2:=hx.kept (Kept.aN hb fun k (hk:w4.heap.size≤k) e=>by omega)
 have hsz:(w5.setCell ⟨g5,5,none⟩ v).heap.size=w5.heap.size:=by simp[World.setCell]
 have h:=xO (F:=Fr w1) (d:=D) (n:=1) (g:=g) (w:=w5.setCell ⟨g5,5,none⟩ v) 55 [[.int .i64 bx.op,.int .i64 bx.n,.string bx.s,.string bx.name,.string bx.src,.slice A9 m9 c9]] [bx] (by rw[hsz];exact hg) (show w1.heap.size≤g by omega) rfl (by omega) rfl (fun k r x h1 h2=>by
  rcases k with _|k
  ·simp at h1 h2
   subst h1 h2
   exact aC.conv (fun k (hk:w4.heap.size≤k)=>by show w1.heap.size≤k;omega) (Kept.refl _ _) D (Nat.le_refl _) hx2
  ·simp at h1)
 simpa using h
theorem Ur (W:aV) (op:Int) (s:au):iF W op s=(.mk op (aS W s).1 nil0 0 [] [(aZ W (ak W [str [61]] (aS W s).2)).1] [] [],(aZ W (ak W [str [61]] (aS W s).2)).2):=rfl
theorem QI (gp gc gw:Nat) (W:aV) (op:Int) (s:au) (w:World) (h:aW gp gc gw W s w) (h0:0≤op) (h1:op≤100) :
  Calls Tryz.prog 147 #[.pointer (some ⟨gp,0,none⟩),.int .i64 op] w (vG gp gc gw W (iF W op s).2 (iF W op s).1 w):=by
 have hz:=And.intro h.lt.1 (And.intro h.lt.2 h.wl)
 obtain⟨w1,Hw1⟩:∃ w1,Hid (w1=w.alloc (.cells oV 49)):=⟨_,rfl⟩
 have hb1:Below w.heap.size w w1:=by rw[Hw1.out];exact(Below.refl _ _).alloc (Nat.le_refl _) _
 have hk4:af w1 w.heap.size 49 oV:=by rw[Hw1.out];exact af.laid _ _ _
 have hsz:w1.heap.size=w.heap.size+1:=by rw[Hw1.out];simp
 have hn1:=lD gp gc gw W s w1 (h.below hb1)
 have hok:=jW h s
 have hfin:=Ur W op s
 generalize iF W op s=fin at *
 generalize aS W s=a at *
 obtain⟨na,sa⟩:=a
 have hmu:=fun g w2 (hW:aW gp gc gw W sa w2) (hg:g=w2.heap.size)=>dR gp gc gw g W sa (str [61]) w2 hW hg
 simp only at hfin hok hn1
 generalize ak W [str [61]] sa=sm at *
 simp only[str] at hmu
 have hex:=fun w2 (hW:aW gp gc gw W sm w2)=>rZ gp gc gw W sm w2 hW
 generalize aZ W sm=b at *
 obtain⟨bx,sb⟩:=b
 simp only at hfin hex
 have bn:=ae hfin
 have Hn1:=ae hn1
 have zG:=ae hok
 have Xu:=ae hmu
 have Hex:=ae hex
 have jM:=ae hsz
 have Hb1:=ae hb1
 have tK:=ae hk4
 have Hz:=ae hz
 have Hop:=ae (And.intro h0 h1)
 clear hfin hn1 hok hmu hex hsz hb1 hk4 hz h0 h1 h
 go_enter Tryz.func147,Tryz.ntmps147
 go_upto_region 1 with (fail)
 rw[← Hw1.out]
 go_wp2_with (fail)
 refine Hn1.out.mono ?_
 rintro e w2 ⟨rfl,hP,hB⟩
 have hal:=(Below.refl w2.heap.size w2).alloc (Nat.le_refl _) (.cells #[.int .i64 op,.string na,.string ⟨#[]⟩,.int .i64 0,.slice none 0 0,.slice none 0 0,.slice none 0 0,.slice none 0 0] 49)
 have hk5:af (w2.alloc (.cells #[.int .i64 op,.string na,.string ⟨#[]⟩,.int .i64 0,.slice none 0 0,.slice none 0 0,.slice none 0 0,.slice none 0 0] 49)) w2.heap.size 49 #[.int .i64 op,.string na,.string ⟨#[]⟩,.int .i64 0,.slice none 0 0,.slice none 0 0,.slice none 0 0,.slice none 0 0]:=af.laid _ _ _
 obtain⟨w3,KT⟩:∃ w3,Hid (w3=w2.alloc (.cells #[.int .i64 op,.string na,.string ⟨#[]⟩,.int .i64 0,.slice none 0 0,.slice none 0 0,.slice none 0 0,.slice none 0 0] 49)):=⟨_,rfl⟩
 have hz3:w2.heap.size+1=w3.heap.size:=by rw[KT.out];simp
 have hz2:w.heap.size<w2.heap.size:=by have:=hB.size;have:=jM.out;omega
 have H3:=ae (And.intro (hP.below hal) (And.intro (hB.trans' (But.of_below hal)) (And.intro hk5 (And.intro hz3 hz2))))
 rw[← KT.out] at H3
 clear hP hB hal hk5 hz3 hz2
 go_wp2_with (fail)
 rw[← KT.out]
 refine(Xu.out _ _ H3.out.1 H3.out.2.2.2.1).mono ?_
 rintro e w4 ⟨rfl,hP,hB⟩
 have H4:=ae (And.intro hP hB)
 clear hP hB
 go_wp2_with (fail)
 refine(Hex.out _ H4.out.1).mono ?_
 rintro e w5 ⟨row,D,rfl,hx,hP,hB⟩
 obtain⟨A9,m9,c9,rfl⟩:=bP hx
 have ael:=H4.out.2.trans' hB
 have aem:=ah H3.out.2.2.1 ael (by have:=Hz.out;have:=H3.out.2.2.2.2;omega)
 have ahY:=ah tK.out (H3.out.2.1.trans' ael) (by have:=Hz.out;omega)
 obtain⟨x0,x1,x2,x3,x4,x5,x6,x7,xl⟩:=bW aem
 have f5:=aem.frozen
 go_upto_region 4 with (fail)
 have hz5:w1.heap.size≤w4.heap.size∧w4.heap.size≤w5.heap.size∧w2.heap.size<w4.heap.size:=by have:=H3.out.2.1.size;have:=H4.out.2.size;have:=hB.size;have:=H3.out.2.2.2.1;omega
 have hl6:=abu (w1:=w1) (v:=.slice (some ⟨w5.heap.size,0,none⟩) 1 1) hx hz5.1 hz5.2.1 hz5.2.2 rfl
 have hz:=Hz.out
 have hz2:=H3.out.2.2.2.2
 have hb6:=(But.refl (fun k=>k=w2.heap.size) w5).setCell (p:=⟨w2.heap.size,5,none⟩) (.inl rfl) (.slice (some ⟨w5.heap.size,0,none⟩) 1 1)
 have Uh:=hP.elsewhere hb6 (by omega)
 have oQ:af (w5.setCell ⟨w2.heap.size,5,none⟩ (.slice (some ⟨w5.heap.size,0,none⟩) 1 1)) w2.heap.size 49 #[.int .i64 op,.string na,.string ⟨#[]⟩,.int .i64 0,.slice none 0 0,.slice (some ⟨w5.heap.size,0,none⟩) 1 1,.slice none 0 0,.slice none 0 0]:=aem.stored 5 (.slice (some ⟨w5.heap.size,0,none⟩) 1 1)
 have Js:=ahY.ag (hb6.block _ ahY.lt (by omega))
 have vS:=((But.of_below Hb1.out).trans' (H3.out.2.1.trans' ael)).trans hb6 (fun i hi=>.inr (by omega))
 have hal:=fun (W2:World)=>(Below.refl W2.heap.size W2).alloc (Nat.le_refl _) (.cells #[.int .i64 bx.op,.int .i64 bx.n,.string bx.s,.string bx.name,.string bx.src,.slice A9 m9 c9] 55)
 have Ir:=Uh.below (hal _)
 have EO:=oQ.ag ((hal _).block _ oQ.lt)
 have vW:=Js.ag ((hal _).block _ Js.lt)
 have uz:=vS.trans' (But.of_below (hal _))
 obtain⟨w6,Hw6⟩:∃ w6,Hid (w6=(w5.setCell ⟨w2.heap.size,5,none⟩ (.slice (some ⟨w5.heap.size,0,none⟩) 1 1)).alloc (.cells #[.int .i64 bx.op,.int .i64 bx.n,.string bx.s,.string bx.name,.string bx.src,.slice A9 m9 c9] 55)):=⟨_,rfl⟩
 rw[← Hw6.out] at hl6 Ir EO vW uz ⊢
 have hst:=D6 (n:=0) Hop.out.1 Hop.out.2 xu zG.out lT (ai.nil_ (Fr w1) w6 1 dL) hl6 (gK (Fr w1) D w6) (gK (Fr w1) D w6)
 have H:=ae (mQ (x:=.mk op na nil0 0 [] [bx] [] []) (w3:=w1) hst Ir uz vW (Nat.le_refl _) (by have:=jM.out;omega) Hz.out)
 clear x0 x1 x2 x3 x4 x5 x6 x7 xl f5
 obtain⟨x0,x1,x2,x3,x4,x5,x6,x7,xl⟩:=bW EO
 obtain⟨y0,y1,y2,y3,y4,y5,y6,y7,yl⟩:=bW vW
 have f4:=vW.frozen
 clear hx hP hB ael aem ahY hz5 hl6 hz hz2 hb6 Uh oQ Js vS hal Ir EO vW uz hst
 go_wp2
 rw[nC]
 refine bodyPost_ret (vI Tryz.results147 rfl H.out.1 rfl) rfl ?_
 rw[bn.out]
 exact H.out.2
theorem abv (W:aV) (op:Int) (s:au):oU W op s=(.mk op nil0 (aS W s).1 0 [] (fG W (aG (ak W [str [40]] (aS W s).2))).1 [] [],dw (ak W [str [41]] (fG W (aG (ak W [str [40]] (aS W s).2))).2)):=rfl
theorem XA (gp gc gw:Nat) (W:aV) (op:Int) (s:au) (w:World) (h:aW gp gc gw W s w) (h0:0≤op) (h1:op≤100) :
  Calls Tryz.prog 148 #[.pointer (some ⟨gp,0,none⟩),.int .i64 op] w (vG gp gc gw W (oU W op s).2 (oU W op s).1 w):=by
 have hz:=And.intro h.lt.1 (And.intro h.lt.2 h.wl)
 obtain⟨w1,Hw1⟩:∃ w1,Hid (w1=w.alloc (.cells oV 49)):=⟨_,rfl⟩
 have hb1:Below w.heap.size w w1:=by rw[Hw1.out];exact(Below.refl _ _).alloc (Nat.le_refl _) _
 have hk4:af w1 w.heap.size 49 oV:=by rw[Hw1.out];exact af.laid _ _ _
 have hsz:w1.heap.size=w.heap.size+1:=by rw[Hw1.out];simp
 have hn1:=lD gp gc gw W s w1 (h.below hb1)
 have hok:=jW h s
 have hfin:=abv W op s
 generalize oU W op s=fin at *
 generalize aS W s=a at *
 obtain⟨na,sa⟩:=a
 have hmu:=fun g w2 (hW:aW gp gc gw W sa w2) (hg:g=w2.heap.size)=>dR gp gc gw g W sa (str [40]) w2 hW hg
 simp only at hfin hok hn1
 generalize ak W [str [40]] sa=sm at *
 simp only[str] at hmu
 have hen:=fun w2 (hW:aW gp gc gw W sm w2)=>kX gp gc gw W sm w2 hW
 have hex:=fun w2 (hW:aW gp gc gw W (aG sm) w2)=>Jp gp gc gw W (aG sm) w2 hW
 generalize fG W (aG sm)=b at *
 obtain⟨xs,sb⟩:=b
 have hmu2:=fun g w2 (hW:aW gp gc gw W sb w2) (hg:g=w2.heap.size)=>dR gp gc gw g W sb (str [41]) w2 hW hg
 simp only at hfin hex
 generalize ak W [str [41]] sb=sn at *
 simp only[str] at hmu2
 have hlv:=fun w2 (hW:aW gp gc gw W sn w2)=>kW gp gc gw W sn w2 hW
 have bn:=ae hfin
 have Hn1:=ae hn1
 have zG:=ae hok
 have Xu:=ae hmu
 have Hen:=ae hen
 have Hex:=ae hex
 have ahP:=ae hmu2
 have Hlv:=ae hlv
 have jM:=ae hsz
 have Hb1:=ae hb1
 have tK:=ae hk4
 have Hz:=ae hz
 have Hop:=ae (And.intro h0 h1)
 clear hfin hn1 hok hmu hen hex hmu2 hlv hsz hb1 hk4 hz h0 h1 h
 go_enter Tryz.func148,Tryz.ntmps148
 go_upto_region 1 with (fail)
 rw[← Hw1.out]
 go_wp2_with (fail)
 refine Hn1.out.mono ?_
 rintro e w2 ⟨rfl,hP,hB⟩
 have hal:=(Below.refl w2.heap.size w2).alloc (Nat.le_refl _) (.cells #[.int .i64 op,.string ⟨#[]⟩,.string na,.int .i64 0,.slice none 0 0,.slice none 0 0,.slice none 0 0,.slice none 0 0] 49)
 have hk5:af (w2.alloc (.cells #[.int .i64 op,.string ⟨#[]⟩,.string na,.int .i64 0,.slice none 0 0,.slice none 0 0,.slice none 0 0,.slice none 0 0] 49)) w2.heap.size 49 #[.int .i64 op,.string ⟨#[]⟩,.string na,.int .i64 0,.slice none 0 0,.slice none 0 0,.slice none 0 0,.slice none 0 0]:=af.laid _ _ _
 obtain⟨w3,KT⟩:∃ w3,Hid (w3=w2.alloc (.cells #[.int .i64 op,.string ⟨#[]⟩,.string na,.int .i64 0,.slice none 0 0,.slice none 0 0,.slice none 0 0,.slice none 0 0] 49)):=⟨_,rfl⟩
 have hz3:w2.heap.size+1=w3.heap.size:=by rw[KT.out];simp
 have hz2:w.heap.size<w2.heap.size:=by have:=hB.size;have:=jM.out;omega
 have H3:=ae (And.intro (hP.below hal) (And.intro (hB.trans' (But.of_below hal)) (And.intro hk5 (And.intro hz3 hz2))))
 rw[← KT.out] at H3
 clear hP hB hal hk5 hz3 hz2
 go_wp2_with (fail)
 rw[← KT.out]
 refine(Xu.out _ _ H3.out.1 H3.out.2.2.2.1).mono ?_
 rintro e w4 ⟨rfl,hP,hB⟩
 have H4:=ae (And.intro hP hB)
 clear hP hB
 go_wp2_with (fail)
 refine(Hen.out _ H4.out.1).mono ?_
 rintro e w5 ⟨rfl,hP,hB⟩
 have H5:=ae (And.intro hP (H4.out.2.trans' hB))
 clear hP hB
 go_wp2_with (fail)
 refine(Hex.out _ H5.out.1).mono ?_
 rintro e w6 ⟨A,n,c,D,rfl,hx,hP,hB⟩
 have aen:=H5.out.2.trans' hB
 have hz:=Hz.out
 have hz2:=H3.out.2.2.2.2
 have oQ:=ah H3.out.2.2.1 aen (by omega)
 have Js:=ah tK.out (H3.out.2.1.trans' aen) (by omega)
 obtain⟨x0,x1,x2,x3,x4,x5,x6,x7,xl⟩:=bW oQ
 have f5:=oQ.frozen
 have hb7:=(But.refl (fun k=>k=w2.heap.size) w6).setCell (p:=⟨w2.heap.size,5,none⟩) (.inl rfl) (.slice A n c)
 have Ir:=hP.elsewhere hb7 (by omega)
 have EO:af (w6.setCell ⟨w2.heap.size,5,none⟩ (.slice A n c)) w2.heap.size 49 #[.int .i64 op,.string ⟨#[]⟩,.string na,.int .i64 0,.slice none 0 0,.slice A n c,.slice none 0 0,.slice none 0 0]:=oQ.stored 5 (.slice A n c)
 have vW:=Js.ag (hb7.block _ Js.lt (by omega))
 have uz:=((But.of_below Hb1.out).trans' (H3.out.2.1.trans' aen)).trans hb7 (fun i hi=>.inr (by omega))
 have hs5:w3.heap.size≤w5.heap.size:=H5.out.2.size
 have hs3:=H3.out.2.2.2.1
 have hx7:=aO.kept hx (Kept.aN hb7 fun k (hk:w5.heap.size≤k) e=>by omega)
 have hsw:(w6.setCell ⟨w2.heap.size,5,none⟩ (.slice A n c)).heap.size=w6.heap.size:=by simp[World.setCell]
 obtain⟨w7,XB⟩:∃ w7,Hid (w7=w6.setCell ⟨w2.heap.size,5,none⟩ (.slice A n c)):=⟨_,rfl⟩
 rw[← XB.out] at Ir EO vW uz hx7 hsw
 have hs1:=jM.out
 have H7:=ae (And.intro Ir (And.intro uz (And.intro vW (And.intro EO (And.intro hx7 (And.intro hsw.symm (show w1.heap.size≤w5.heap.size by omega)))))))
 clear hx hP hB aen hz hz2 oQ Js hb7 Ir EO vW uz hs5 hs3 hx7 hsw hs1
 go_wp2_with (fail)
 rw[← XB.out]
 refine(ahP.out _ _ H7.out.1 H7.out.2.2.2.2.2.1).mono ?_
 rintro e w8 ⟨rfl,hP,hB⟩
 have H8:=ae (And.intro hP hB)
 clear hP hB x0 x1 x2 x3 x4 x5 x6 x7 xl f5
 go_wp2_with (fail)
 refine(Hlv.out _ H8.out.1).mono ?_
 rintro e w9 ⟨rfl,hP,hB⟩
 have abw:=H8.out.2.trans' hB
 have hz:=Hz.out
 have hz2:=H3.out.2.2.2.2
 have hz5:=H7.out.2.2.2.2.2.2
 have hs1:=jM.out
 have ak2:=ah H7.out.2.2.2.1 abw (by omega)
 have QJ:=ah H7.out.2.2.1 abw (by omega)
 obtain⟨x0,x1,x2,x3,x4,x5,x6,x7,xl⟩:=bW ak2
 obtain⟨y0,y1,y2,y3,y4,y5,y6,y7,yl⟩:=bW QJ
 have f4:=QJ.frozen
 have hl9:=aO.conv (F':=Fr w1) (fun k (hk:w5.heap.size≤k)=>by show w1.heap.size≤k;omega) (fK abw (fun k (hk:w5.heap.size≤k)=>by omega)) (Nat.le_refl D) H7.out.2.2.2.2.1
 have hst:=D6 (n:=0) Hop.out.1 Hop.out.2 xu lT zG.out (ai.nil_ (Fr w1) w9 1 dL) hl9 (gK (Fr w1) D w9) (gK (Fr w1) D w9)
 have H:=ae (mQ (x:=.mk op nil0 na 0 [] xs [] []) (w3:=w1) hst hP (H7.out.2.1.trans' abw) QJ (Nat.le_refl _) (by omega) Hz.out)
 clear hP hB abw hz hz2 hz5 hs1 ak2 QJ hl9 hst
 go_wp2
 rw[nC]
 refine bodyPost_ret (vI Tryz.results148 rfl H.out.1 rfl) rfl ?_
 rw[bn.out]
 exact H.out.2
theorem EP (W:aV) (s:au):kE W s=(min (mP W (if (W.look s.at_).kind=1∧(W.look s.at_).n=0 then s.fail else s)).1 1001,(mP W (if (W.look s.at_).kind=1∧(W.look s.at_).n=0 then s.fail else s)).2):=rfl
theorem Us (gp gc gw:Nat) (W:aV) (s:au) (w:World) (h:aW gp gc gw W s w) :
  Calls Tryz.prog 125 #[.pointer (some ⟨gp,0,none⟩)] w fun e w'=>e=.returned (.int .i64 (kE W s).1)∧aW gp gc gw W (kE W s).2 w'∧But (fV gp gc) w w':=by
 obtain⟨c0,c1,c2,c3,hg⟩:=cells4 h.blk
 have hwd:=uH _ gc s.at_ W w h.cu
 have hfin:=EP W s
 generalize kE W s=fin at *
 generalize hx:W.look s.at_=x at *
 obtain⟨xk,xs,xn,xa⟩:=x
 unfold iO at hwd
 simp only at hfin
 have MN:=ae hwd
 have Hf:=ae (fun s' w2 (hW:aW gp gc gw W s' w2)=>lC gp gc gw W s' w2 hW)
 have um:=ae (fun s' w2 (hW:aW gp gc gw W s' w2)=>wV gp gc gw W s' w2 hW)
 have Hh:=ae h
 have bn:=ae hfin
 clear hwd hfin hx h
 rcases Classical.em (xk=1∧xn=0) with hc|hc
 ·obtain⟨rfl,rfl⟩:=hc
  have hf:=bn.out
  rw[if_pos ⟨rfl,rfl⟩] at hf
  have HF:=ae hf
  clear hf bn
  go_enter Tryz.func125,Tryz.ntmps125
  go_wp2_with (fail)
  refine MN.out.mono ?_
  rintro e w2 ⟨rfl,hb2⟩
  have hb3:=hb2.alloc hb2.size (.cells #[.int .i64 1,.string xs,.int .i64 0,.int .i64 xa] 101)
  have H3:=ae (And.intro (Hh.out.below hb3) (But.of_below (S:=fV gp gc) hb3))
  clear hb2 hb3
  go_wp2_with (fail)
  refine(Hf.out _ _ H3.out.1).mono ?_
  rintro e w4 ⟨rfl,hP,hB⟩
  have H4:=ae (And.intro hP (H3.out.2.trans' hB))
  clear hP hB
  have hn:=um.out _ _ H4.out.1
  generalize mP W s.fail=r at *
  obtain⟨rn,rs⟩:=r
  simp only at hn HF
  have Hn:=ae hn
  clear hn
  go_wp2_with (fail)
  refine Hn.out.mono ?_
  rintro e w5 ⟨rfl,hP,hB⟩
  have H5:=ae (And.intro hP (H4.out.2.trans' hB))
  clear hP hB
  go_wp2
  all_goals
   go_ret
   rw[HF.out]
   refine⟨Am ?_,H5.out.1,H5.out.2⟩
   simp only
   omega
 ·rcases Classical.em (xk=1) with h1|h1
  ·have q1:(xk==1)=true:=by simpa using h1
   have q2:(xn==0)=false:=by
    rcases Classical.em (xn=0) with h2|h2
    ·exact absurd ⟨h1,h2⟩ hc
    ·simpa using h2
   clear h1
   have hf:=bn.out
   rw[if_neg hc] at hf
   have HF:=ae hf
   clear hf bn hc
   have hn:=fun w2 (hW:aW gp gc gw W s w2)=>um.out s w2 hW
   generalize mP W s=r at *
   obtain⟨rn,rs⟩:=r
   simp only at hn HF
   have Hn:=ae hn
   clear hn
   go_enter Tryz.func125,Tryz.ntmps125
   go_wp2_with (fail)
   refine MN.out.mono ?_
   rintro e w2 ⟨rfl,hb2⟩
   have hb3:=hb2.alloc hb2.size (.cells #[.int .i64 xk,.string xs,.int .i64 xn,.int .i64 xa] 101)
   have H3:=ae (And.intro (Hh.out.below hb3) (But.of_below (S:=fV gp gc) hb3))
   clear hb2 hb3
   go_wp2_with (fail)
   refine(Hn.out _ H3.out.1).mono ?_
   rintro e w5 ⟨rfl,hP,hB⟩
   have H5:=ae (And.intro hP (H3.out.2.trans' hB))
   clear hP hB
   go_wp2
   all_goals
    go_ret
    rw[HF.out]
    refine⟨Am ?_,H5.out.1,H5.out.2⟩
    simp only
    omega
  ·have q1:(xk==1)=false:=by simpa using h1
   clear h1
   have hf:=bn.out
   rw[if_neg hc] at hf
   have HF:=ae hf
   clear hf bn hc
   have hn:=fun w2 (hW:aW gp gc gw W s w2)=>um.out s w2 hW
   generalize mP W s=r at *
   obtain⟨rn,rs⟩:=r
   simp only at hn HF
   have Hn:=ae hn
   clear hn
   go_enter Tryz.func125,Tryz.ntmps125
   go_wp2_with (fail)
   refine MN.out.mono ?_
   rintro e w2 ⟨rfl,hb2⟩
   have hb3:=hb2.alloc hb2.size (.cells #[.int .i64 xk,.string xs,.int .i64 xn,.int .i64 xa] 101)
   have H3:=ae (And.intro (Hh.out.below hb3) (But.of_below (S:=fV gp gc) hb3))
   clear hb2 hb3
   go_wp2_with (fail)
   refine(Hn.out _ H3.out.1).mono ?_
   rintro e w5 ⟨rfl,hP,hB⟩
   have H5:=ae (And.intro hP (H3.out.2.trans' hB))
   clear hP hB
   go_wp2
   all_goals
    go_ret
    rw[HF.out]
    refine⟨Am ?_,H5.out.1,H5.out.2⟩
    simp only
    omega
structure uN (n0:Nat) (X:Nat→Prop) (w:World) (A:Option Addr) (c:Nat) (rows:List (List Value)) (D:Nat) (xs:List Ex):Prop where
 own:w.ownsRow n0 55 6 (.slice A xs.length c) xs.length rows.flatten
 len:rows.length=xs.length
 at_:∀ (k:Nat) (r:List Value) (x:Ex),rows[k]?=some r→xs[k]?=some x→r.length=6∧aC (fun b=>n0≤b∧A.map (·.block)≠some b∧¬ X b) D w r x
 off:∀ b,X b→A.map (·.block)≠some b
theorem uN.low {n0:Nat} {X:Nat→Prop} {w:World} {A:Option Addr} {c:Nat} {rows:List (List Value)} {D:Nat} {xs:List Ex} (h:uN n0 X w A c rows D xs):∀ k,A.map (·.block)=some k→n0≤k∧k<w.heap.size:=by
 intro k hk
 cases A with
 | none=>cases hk
 | some a =>
  have e:a.block=k:=by simpa using hk
  subst e
  exact h.own.lt a.block rfl
theorem uN.wid {n0:Nat} {X:Nat→Prop} {w:World} {A:Option Addr} {c:Nat} {rows:List (List Value)} {D:Nat} {xs:List Ex} (h:uN n0 X w A c rows D xs):∀ r∈rows,r.length=6:=by
 intro r hr
 obtain⟨k,hk,rfl⟩:=List.mem_iff_getElem.1 hr
 exact(h.at_ k _ _ (List.getElem?_eq_getElem hk) (List.getElem?_eq_getElem (by have:=h.len;omega))).1
theorem uN.keep {n0:Nat} {X X':Nat→Prop} {w w':World} {A:Option Addr} {c:Nat} {rows:List (List Value)} {D:Nat} {xs:List Ex} {S:Nat→Prop} (h:uN n0 X w A c rows D xs) (hb:But S w w') (hS:∀ k,S k→k<n0∨X k) (hX:∀ k,X' k→X k∨w.heap.size≤k):uN n0 X' w' A c rows D xs:=by
 refine⟨eP h.own hb (fun g hg hs=>?_),h.len,fun k r x hr hx=>⟨(h.at_ k r x hr hx).1,?_⟩,fun b hb2 e=>?_⟩
 ·obtain⟨A',c',e1,hnc⟩:=ownsRow_form h.own
  have h1:=h.own.lt g hg
  rcases hS g hs with h2|h2
  ·omega
  ·refine h.off g h2 ?_
   cases A with
   | none=>cases hg
   | some a=>exact hg
 ·have h1:=aC.turn (F':=fun b=>(n0≤b∧A.map (·.block)≠some b∧¬ X' b)∧¬ X b) (fun k hk hf=>⟨⟨hf.1,hf.2.1,fun hx'=>by rcases hX k hx' with e|e;exact hf.2.2 e;omega⟩,hf.2.2⟩) (Kept.refl _ _) D (Nat.le_refl _) (h.at_ k r x hr hx).2
  exact aC.conv (fun _ h=>h.1) (Kept.aN hb fun b hb2 hs=>by rcases hS b hs with e|e;have:=hb2.1.1;omega;exact hb2.2 e) D (Nat.le_refl _) h1
 ·rcases hX b hb2 with e2|e2
  ·exact h.off b e2 e
  ·have:=(h.low b e).2;omega
structure Nc (gp gc gw n0:Nat) (X:Nat→Prop) (W:aV) (s':au) (w:World) (A:Option Addr) (xs:List Ex) (x:Ex) (rows:List (List Value)) (row:List Value) (D:Nat) (A6:Option Addr) (c6:Nat) (W6:World):Prop where
 p:aW gp gc gw W s' W6
 own:W6.ownsRow n0 55 6 (.slice A6 (xs.length+1) c6) (xs.length+1) (rows++[sD]).flatten
 old:∀ (k:Nat) (r:List Value) (y:Ex),rows[k]?=some r→xs[k]?=some y→r.length=6∧aC (fun b=>n0≤b∧A6.map (·.block)≠some b∧¬ X b) D W6 r y
 ahT:aC (fun b=>n0≤b∧A6.map (·.block)≠some b∧¬ X b) D W6 row x
 off:∀ b,X b→A6.map (·.block)≠some b
 fr:∀ k,A6.map (·.block)=some k→A.map (·.block)=some k∨w.heap.size≤k
 but:But (fun k=>k=gp∨k=gc∨A.map (·.block)=some k) w W6
theorem Nc.of {gp gc gw n0:Nat} {X:Nat→Prop} {W:aV} {s':au} {w Wc w5 w6:World} {A:Option Addr} {c D D5:Nat} {rows:List (List Value)} {xs:List Ex} {x:Ex} {row:List Value} (h:uN n0 X w A c rows D xs) (hg:gp<n0∧gc<n0∧gw<n0) (hn:n0≤w.heap.size) (hX:∀ k,X k→k<w.heap.size) (hB:But (fV gp gc) w w5) (hx:aC (Fr w) D5 w5 row x) (hP:aW gp gc gw W s' w5)
  (hal:Below w5.heap.size w5 Wc) {A6:Option Addr} {c6:Nat} (hown:w6.ownsRow n0 55 6 (.slice A6 (xs.length+1) c6) (xs.length+1) (rows++[sD]).flatten)
  (fE:But (fun k=>A.map (·.block)=some k) Wc w6) (hf:∀ a2,A6=some a2→A=some a2∨Wc.heap.size≤a2.block):Nc gp gc gw n0 X W s' w A xs x rows row (max D D5) A6 c6 w6:=by
 have h':uN n0 X w5 A c rows D xs:=h.keep hB (fun k hk=>by rcases hk with e|e<;>subst e<;>omega) (fun k hk=>.inl hk)
 have hlow:=h.low
 have hs:=hB.size
 have hsz:=hal.size
 have hfr:∀ b,A6.map (·.block)=some b→A.map (·.block)=some b∨w5.heap.size≤b:=fun b h2=>by
  cases A6 with
  | none=>cases h2
  | some a6 =>
   have e:a6.block=b:=by simpa using h2
   rcases hf a6 rfl with e2|e2
   ·exact .inl (by rw[e2];simpa using e)
   ·exact .inr (by omega)
 have hne:∀ b,b<w5.heap.size→A.map (·.block)≠some b→A6.map (·.block)≠some b:=fun b hb h1 h2=>by
  rcases hfr b h2 with e|e
  ·exact h1 e
  ·omega
 refine⟨(hP.below hal).off fE fun k hk=>?_,hown,fun k r y hr hy=>⟨(h'.at_ k r y hr hy).1,?_⟩,?_,fun b hb=>hne b (by have:=hX b hb;omega) (h.off b hb),fun k hk=>(hfr k hk).imp id (fun e=>by omega),(hB.mono fun i hi=>.inl (by rcases hi with e|e;exact .inl e;exact .inr (.inl e))).trans (But.of_below hal |>.trans fE (fun i hi=>.inl hi)) fun i hi=>.inl (.inr (.inr hi))⟩
 ·have:=hlow k hk;omega
 ·have h1:=aC.turn (F':=fun b=>(n0≤b∧A6.map (·.block)≠some b∧¬ X b)∧A.map (·.block)≠some b) (fun k hk hf=>⟨⟨hf.1,hne k hk hf.2.1,hf.2.2⟩,hf.2.1⟩) (Kept.of_below hal) D (Nat.le_max_left D D5) (h'.at_ k r y hr hy).2
  exact aC.conv (fun _ h=>h.1) (Kept.aN fE fun b hb hk=>hb.2 hk) _ (Nat.le_refl _) h1
 ·have h1:=aC.turn (F':=fun b=>(n0≤b∧A6.map (·.block)≠some b∧¬ X b)∧A.map (·.block)≠some b) (fun k hk (hf:w.heap.size≤k)=>⟨⟨by omega,hne k hk (fun e=>by have:=(hlow k e).2;omega),fun e=>by have:=hX k e;omega⟩,fun e=>by have:=(hlow k e).2;omega⟩) (Kept.of_below hal) D5 (Nat.le_max_right D D5) hx
  exact aC.conv (fun _ h=>h.1) (Kept.aN fE fun b hb hk=>hb.2 hk) _ (Nat.le_refl _) h1
theorem uN.grown {gp gc gw gl n0 j:Nat} {X:Nat→Prop} {W:aV} {s':au} {w w6:World} {A:Option Addr} {xs:List Ex} {x:Ex} {rows:List (List Value)} {D g6 c6:Nat} {A5:Option Addr} {m5 c5:Nat} {T:TypeId} {cs:Array Value}
  (hG:Nc gp gc gw n0 X W s' w A xs x rows [.int .i64 x.op,.int .i64 x.n,.string x.s,.string x.name,.string x.src,.slice A5 m5 c5] D (some ⟨g6,0,none⟩) c6 w6) (hk:af w6 gl T cs) (hg:gp<n0∧gc<n0∧gw<n0∧gl≠gp∧gl≠gc∧gl≠gw∧gl<n0) (hw:∀ r∈rows,r.length=6) (hl:rows.length=xs.length) (h6:n0≤g6) :
  aW gp gc gw W s' ((jU w6 g6 (xs.length*6) (.int .i64 x.op) (.int .i64 x.n) (.string x.s) (.string x.name) (.string x.src) (.slice A5 m5 c5)).setCell ⟨gl,j,none⟩ (.slice (some ⟨g6,0,none⟩) (xs.length+1) c6)) ∧
  (∃ rows',uN n0 X ((jU w6 g6 (xs.length*6) (.int .i64 x.op) (.int .i64 x.n) (.string x.s) (.string x.name) (.string x.src) (.slice A5 m5 c5)).setCell ⟨gl,j,none⟩ (.slice (some ⟨g6,0,none⟩) (xs.length+1) c6)) (some ⟨g6,0,none⟩) c6 rows' D (xs++[x])) ∧
  af ((jU w6 g6 (xs.length*6) (.int .i64 x.op) (.int .i64 x.n) (.string x.s) (.string x.name) (.string x.src) (.slice A5 m5 c5)).setCell ⟨gl,j,none⟩ (.slice (some ⟨g6,0,none⟩) (xs.length+1) c6)) gl T (cs.setIfInBounds j (.slice (some ⟨g6,0,none⟩) (xs.length+1) c6)) ∧
  But (fun k=>k=gp∨k=gc∨k=gl∨A.map (·.block)=some k) w ((jU w6 g6 (xs.length*6) (.int .i64 x.op) (.int .i64 x.n) (.string x.s) (.string x.name) (.string x.src) (.slice A5 m5 c5)).setCell ⟨gl,j,none⟩ (.slice (some ⟨g6,0,none⟩) (xs.length+1) c6)):=by
 have hb1:=Jm w6 g6 (xs.length*6) (.int .i64 x.op) (.int .i64 x.n) (.string x.s) (.string x.name) (.string x.src) (.slice A5 m5 c5)
 have ho1:=QC (.int .i64 x.op) (.int .i64 x.n) (.string x.s) (.string x.name) (.string x.src) (.slice A5 m5 c5) hG.own hw hl
 have hp1:=hG.p.off hb1 (fun k hk=>by omega)
 have hk1:=hk.ag (hb1.block _ hk.lt (by omega))
 have abq:∀ (k:Nat) (r:List Value) (y:Ex),rows[k]?=some r→xs[k]?=some y→r.length=6∧aC (fun b=>n0≤b∧(some (⟨g6,0,none⟩:Addr)).map (·.block)≠some b∧¬ X b) D (jU w6 g6 (xs.length*6) (.int .i64 x.op) (.int .i64 x.n) (.string x.s) (.string x.name) (.string x.src) (.slice A5 m5 c5)) r y:=fun k r y h1 h2=>⟨(hG.old k r y h1 h2).1,(hG.old k r y h1 h2).2.kept (Kept.aN hb1 fun b hb e=>hb.2.1 (by simp[e]))⟩
 have IE:=hG.ahT.kept (Kept.aN hb1 fun b hb e=>hb.2.1 (by simp[e]))
 have hfr:=hG.fr g6 rfl
 generalize jU w6 g6 (xs.length*6) (.int .i64 x.op) (.int .i64 x.n) (.string x.s) (.string x.name) (.string x.src) (.slice A5 m5 c5)=w7 at *
 have hb2:=(But.refl (fun k=>k=gl) w7).setCell (p:=⟨gl,j,none⟩) (.inl rfl) (.slice (some ⟨g6,0,none⟩) (xs.length+1) c6)
 have hk2:=hk1.stored j (.slice (some ⟨g6,0,none⟩) (xs.length+1) c6)
 have hlen:(xs++[x]).length=xs.length+1:=by simp
 refine⟨hp1.off hb2 (fun k hk=>by omega),⟨rows++[[.int .i64 x.op,.int .i64 x.n,.string x.s,.string x.name,.string x.src,.slice A5 m5 c5]],⟨by rw[hlen];exact eP ho1 hb2 (fun g hg3 e=>by have:=(ho1.lt g hg3).1;omega),by simp[hl],fun k r y hr hy=>?_,hG.off⟩⟩,hk2,?_⟩
 ·rcases Nat.lt_trichotomy k xs.length with h|h|h
  ·rw[List.getElem?_append_left (by omega)] at hr hy
   obtain⟨h1,h2⟩:=abq k r y hr hy
   exact⟨h1,h2.kept (Kept.aN hb2 fun b hb e=>by have:=hb.1;omega)⟩
  ·subst h
   rw[List.getElem?_append_right (by omega)] at hr hy
   rw[hl] at hr
   simp at hr hy
   subst hr hy
   exact⟨rfl,IE.kept (Kept.aN hb2 fun b hb e=>by have:=hb.1;omega)⟩
  ·rw[List.getElem?_eq_none (by simp;omega)] at hy
   cases hy
 ·exact((hG.but.mono (fun i hi=>.inl (by rcases hi with e|e|e;exact .inl e;exact .inr (.inl e);exact .inr (.inr (.inr e))))).trans hb1 (fun i hi=>by subst hi;rcases hfr with e|e;exact .inl (.inr (.inr (.inr e)));exact .inr e)).trans hb2 (fun i hi=>.inl (.inr (.inr (.inl hi))))
theorem XC {w:World} {g6 gl o j:Nat} {v0 v1 v2 v3 v4 v5 u:Value} (h:g6≠gl) :
  (((((((w.setCell ⟨gl,j,none⟩ u).setCell ⟨g6,o,none⟩ v0).setCell ⟨g6,o+1,none⟩ v1).setCell ⟨g6,o+2,none⟩ v2).setCell ⟨g6,o+3,none⟩ v3).setCell ⟨g6,o+4,none⟩ v4).setCell ⟨g6,o+5,none⟩ v5) =
  (((((((w.setCell ⟨g6,o,none⟩ v0).setCell ⟨g6,o+1,none⟩ v1).setCell ⟨g6,o+2,none⟩ v2).setCell ⟨g6,o+3,none⟩ v3).setCell ⟨g6,o+4,none⟩ v4).setCell ⟨g6,o+5,none⟩ v5).setCell ⟨gl,j,none⟩ u):=by
 have k:∀ (W:World) (i:Nat) (v:Value),(W.setCell ⟨gl,j,none⟩ u).setCell ⟨g6,i,none⟩ v=(W.setCell ⟨g6,i,none⟩ v).setCell ⟨gl,j,none⟩ u:=fun W i v=>QE (fun e=>h e.symm)
 rw[k,k,k,k,k,k]
theorem ak3:kC Tryz.prog 47 9 1 16 (.string ByteArray.empty):=⟨Tryz.underlying47,by kernel_rfl,rfl,by decide⟩
abbrev pR (x:ByteArray):List Value:=[.string x]
structure dI (n0 gl:Nat) (w:World) (nm sc:ByteArray) (Ac:Option Addr) (cc:Nat) (A:Option Addr) (c:Nat) (rows:List (List Value)) (D:Nat) (ns:List ByteArray) (xs:List Ex):Prop where
 blk:af w gl 49 #[.int .i64 4,.string nm,.string sc,.int .i64 0,.slice Ac ns.length cc,.slice A xs.length c,.slice none 0 0,.slice none 0 0]
 QK:w.ownsRow n0 9 1 (.slice Ac ns.length cc) ns.length (ns.map pR).flatten
 okc:∀ x∈ns,okS x
 row:uN n0 (fun k=>Ac.map (·.block)=some k) w A c rows D xs
theorem dI.aeo {n0 gl:Nat} {w:World} {nm sc:ByteArray} {Ac:Option Addr} {cc:Nat} {A:Option Addr} {c:Nat} {rows:List (List Value)} {D:Nat} {ns:List ByteArray} {xs:List Ex} (h:dI n0 gl w nm sc Ac cc A c rows D ns xs):∀ k,Ac.map (·.block)=some k→n0≤k∧k<w.heap.size:=by
 intro k hk
 cases Ac with
 | none=>cases hk
 | some a =>
  have e:a.block=k:=by simpa using hk
  subst e
  exact h.QK.lt a.block rfl
theorem dI.pO {gp gc n0 gl:Nat} {w w5:World} {nm sc:ByteArray} {Ac:Option Addr} {cc:Nat} {A:Option Addr} {c:Nat} {rows:List (List Value)} {D:Nat} {ns:List ByteArray} {xs:List Ex} (h:dI n0 gl w nm sc Ac cc A c rows D ns xs) (hb:But (fV gp gc) w w5) (hg:gp<n0∧gc<n0∧gl≠gp∧gl≠gc):dI n0 gl w5 nm sc Ac cc A c rows D ns xs :=
 ⟨h.blk.ag (hb.block _ h.blk.lt (by rintro(e|e);exact hg.2.2.1 e;exact hg.2.2.2 e)),eP h.QK hb (fun g hg2 hs=>by have:=(h.QK.lt g hg2).1;rcases hs with e|e<;>omega),h.okc,h.row.keep hb (fun k hk=>by rcases hk with e|e<;>subst e<;>omega) (fun k hk=>.inl hk)⟩
theorem dI.named {n0 gl:Nat} {w Wc w6:World} {nm sc:ByteArray} {Ac:Option Addr} {cc:Nat} {A:Option Addr} {c:Nat} {rows:List (List Value)} {D:Nat} {ns:List ByteArray} {xs:List Ex} {x:ByteArray} (h:dI n0 gl w nm sc Ac cc A c rows D ns xs) (hx:okS x) (hgl:gl<n0) (hal:Below w.heap.size w Wc) {A6:Option Addr} {c6:Nat}
  (hown:w6.ownsRow n0 9 1 (.slice A6 (ns.length+1) c6) (ns.length+1) (ns.map pR++[pR x]).flatten) (fE:But (fun k=>Ac.map (·.block)=some k) Wc w6) (hf:∀ a2,A6=some a2→Ac=some a2∨Wc.heap.size≤a2.block) :
  ∃ a6,A6=some a6∧n0≤a6.block∧af w6 gl 49 #[.int .i64 4,.string nm,.string sc,.int .i64 0,.slice Ac ns.length cc,.slice A xs.length c,.slice none 0 0,.slice none 0 0] ∧
  dI n0 gl (w6.setCell ⟨gl,4,none⟩ (.slice A6 (ns.length+1) c6)) nm sc A6 c6 A c rows D (ns++[x]) xs:=by
 have hlow:=h.aeo
 have hsz:=hal.size
 have hk6:=(h.blk.ag (hal.block _ h.blk.lt)).ag (fE.block _ (h.blk.ag (hal.block _ h.blk.lt)).lt (fun e=>by have:=hlow gl e;omega))
 have hb2:=(But.refl (fun k=>k=gl) w6).setCell (p:=⟨gl,4,none⟩) (.inl rfl) (.slice A6 (ns.length+1) c6)
 obtain⟨g,cap,hv,hb,hg⟩:=hown.form (by omega)
 simp only[Value.slice.injEq] at hv
 obtain⟨rfl,_,_⟩:=hv
 have hr:=h.row.keep (S:=fun _=>False) (X':=fun k=>Ac.map (·.block)=some k) (But.of_below hal) (fun _ h=>h.elim) (fun k hk=>.inl hk)
 have hr2:=hr.keep (X':=fun k=>(some (⟨g,0,none⟩:Addr)).map (·.block)=some k) fE (fun k hk=>.inr hk) (fun k hk=>by
  have e:g=k:=by simpa using hk
  subst e
  rcases hf _ rfl with e2|e2
  ·exact .inl (by rw[e2];rfl)
  ·exact .inr e2)
 have hr3:=hr2.keep (X':=fun k=>(some (⟨g,0,none⟩:Addr)).map (·.block)=some k) hb2 (fun k hk=>by subst hk;exact .inl hgl) (fun k hk=>.inl hk)
 refine⟨_,rfl,hb,hk6,?_,?_,?_,hr3⟩
 ·have:=hk6.stored 4 (.slice (some ⟨g,0,none⟩) (ns.length+1) c6)
  simpa using this
 ·have e:(ns++[x]).length=ns.length+1:=by simp
  have e2:(ns++[x]).map pR=ns.map pR++[pR x]:=by simp
  rw[e,e2]
  exact eP hown hb2 (fun g2 hg2 e2=>by have:=(hown.lt g2 hg2).1;omega)
 ·intro y hy
  rcases List.mem_append.1 hy with hy|hy
  ·exact h.okc y hy
  ·simp only[List.mem_singleton] at hy;subst hy;exact hx
end Go.Proofs.YtjjfkhbajidmdaaGreatDoor

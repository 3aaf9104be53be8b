/- Parts of this proof, one behind the other: ParZ4, LexP. -/
import Derived.Test.YtjjfkhbajidmdaaGreatDoorPb36
import Derived.Test.YtjjfkhbajidmdaaGreatDoorPb29
set_option maxRecDepth 1000000
set_option maxHeartbeats 40000000
namespace Go.Proofs.YtjjfkhbajidmdaaGreatDoor
open Go.RowKit Go.Afx
theorem abO:(Tryz.prog.info? 30).map (·.size)=some 6:=by kernel_rfl
theorem ET {fn:Func} {p:Tmp} {tmps:Array Value} {w:World} {g:Nat} {t:TypeId} {cs:Array Value} (h:fn.results=#[.cell p 30]) (hp:tmps.getD p undef=.pointer (some ⟨g,0,none⟩)) (hk:af w g t cs) (hz:cs.size=6):(results fn tmps).run Tryz.prog w=.ok (.agg cs) w :=
 results_cell_row h tmps w g t cs (0,0) _ hp hk Tryz.underlying30 rfl (by rw[hz];exact abO)
theorem aey {gp gc gw:Nat} {W:aV} {s:au} {w:World} (h:aW gp gc gw W s w) (s':au):okS (oW W s').1.1∧okS (oW W s').1.2:=by
 unfold oW
 split
 ·exact⟨lT,jW h _⟩
 ·split
  ·exact⟨jW h _,lT⟩
  ·exact⟨lT,lT⟩
theorem aez {gp gc gw:Nat} {W:aV} {s:au} {w:World} (h:aW gp gc gw W s w) (s':au):okI (uM W s').1:=by
 rw[JE]
 split
 ·have h1:=aa7 h (ay W (str [102,117,101,108]) s').2
  generalize (mP W (ay W (str [102,117,101,108]) s').2).1=n at *
  obtain⟨h2,h3⟩:=h1
  constructor
  ·show _≤min n 2001;omega
  ·show min n 2001≤_;omega
 ·constructor<;>simp
theorem XL (gp gc gw:Nat) (W:aV) (hW:W.l.length≤1000000) (s:au) (w:World) (h:aW gp gc gw W s w):Calls Tryz.prog 21 #[.pointer (some ⟨gp,0,none⟩)] w (abM gp gc gw W (jT W s).2 (jT W s).1 w):=by
 have hz:=And.intro h.lt.1 (And.intro h.lt.2 h.wl)
 obtain⟨w1,Hw1⟩:∃ w1,Hid (w1=(w.alloc (.cells #[.pointer (some ⟨gp,0,none⟩)] 63)).alloc (.cells Ea 30)):=⟨_,rfl⟩
 have hb1:Below w.heap.size w w1:=by rw[Hw1.out];exact((Below.refl _ _).alloc (Nat.le_refl _) _).alloc (by simp) _
 have hkb:af w1 w.heap.size 63 #[.pointer (some ⟨gp,0,none⟩)]:=by rw[Hw1.out];exact(af.laid _ _ _).alloc _
 have hkr:af w1 (w.heap.size+1) 30 Ea:=by rw[Hw1.out];exact jr (by simp)
 have hsz:w1.heap.size=w.heap.size+2:=by rw[Hw1.out];simp
 have hm1:=dR gp gc gw w1.heap.size W s (str [112,114,111,99]) w1 (h.below hb1) rfl
 have hmo:=fun g (t:ByteArray) s' w2 (hW:aW gp gc gw W s' w2) (hg:g=w2.heap.size)=>dR gp gc gw g W s' t w2 hW hg
 have hma:=fun (t:ByteArray) s' w2 (hW:aW gp gc gw W s' w2)=>gX gp gc gw W s' t w2 hW
 have hna:=fun s' w2 (hW:aW gp gc gw W s' w2)=>lD gp gc gw W s' w2 hW
 rw[JF]
 generalize ak W [str [112,114,111,99]] s=sm at *
 simp only[str] at hm1
 have hn1:=fun w2 (hW:aW gp gc gw W sm w2)=>lD gp gc gw W sm w2 hW
 have XM:=jW h sm
 generalize aS W sm=a at *
 obtain⟨nm,sa⟩:=a
 simp only at hn1 XM ⊢
 have hm2:=fun g w2 (hW:aW gp gc gw W sa w2) (hg:g=w2.heap.size)=>dR gp gc gw g W sa (str [40]) w2 hW hg
 generalize ak W [str [40]] sa=sp at *
 simp only[str] at hm2
 have hen:=fun w2 (hW:aW gp gc gw W sp w2)=>kX gp gc gw W sp w2 hW
 generalize aG sp=se at *
 have his:=fun g w2 (hW:aW gp gc gw W se w2) (hg:g=w2.heap.size)=>V3 hW (str [41]) g hg
 have hhd:tZ W se=if jO W se (str [41]) then ([],se) else iE W (dO W) se:=rfl
 have hli:=fun gl gb n0 w2 (hW:aW gp gc gw W se w2)=>Nr gp gc gw gl gb n0 W se w2 nm hW
 generalize jO W se (str [41])=q at *
 simp only[str] at his
 generalize iE W (dO W) se=l1 at *
 generalize tZ W se=hd at *
 obtain⟨ps,sl⟩:=hd
 simp only at hhd ⊢
 have Vw:=fun g w2 (hW:aW gp gc gw W sl w2) (hg:g=w2.heap.size)=>dR gp gc gw g W sl (str [41]) w2 hW hg
 generalize ak W [str [41]] sl=sr at *
 simp only[str] at Vw
 have hle:=fun w2 (hW:aW gp gc gw W sr w2)=>kW gp gc gw W sr w2 hW
 generalize dw sr=s2 at *
 have hfr:oW W s2=if (ay W (str [111,110]) s2).1 then ((nil0,(aS W (ay W (str [111,110]) s2).2).1),(aS W (ay W (str [111,110]) s2).2).2) else if (ay W (str [102,114,111,109]) s2).1 then (((aS W (ay W (str [102,114,111,109]) s2).2).1,nil0),(aS W (ay W (str [102,114,111,109]) s2).2).2) else ((nil0,nil0),s2):=rfl
 have aeA:=aey h s2
 generalize oW W s2=fr at *
 obtain⟨⟨src,part⟩,s3⟩:=fr
 simp only at hfr aeA ⊢
 have hfu:=JE W s3
 have aia:=aez h s3
 generalize uM W s3=fu at *
 obtain⟨fu,s4⟩:=fu
 simp only at hfu aia ⊢
 have hbl:=fun w2 (hP:aW gp gc gw W s4 w2)=>QS gp gc gw W hW s4 w2 hP
 generalize zS W s4=b at *
 obtain⟨bl,sb⟩:=b
 simp only at hbl ⊢
 have Hz:=ae hz
 have Hb1:=ae hb1
 have Z4:=ae hkb
 have Hkr:=ae hkr
 have jM:=ae hsz
 have Hm1:=ae hm1
 have Hma:=ae hma
 have Hna:=ae hna
 have Hn1:=ae hn1
 have zG:=ae (And.intro XM (And.intro aeA.1 (And.intro aeA.2 aia)))
 have Hm2:=ae hm2
 have Hen:=ae hen
 have His:=ae his
 have Hhd:=ae hhd
 have Hli:=ae hli
 have Hm3:=ae Vw
 have Hle:=ae hle
 have Hfr:=ae hfr
 have Hfu:=ae hfu
 have Hbl:=ae hbl
 have d0:w1.cell? ⟨w.heap.size,0,none⟩=some (.pointer (some ⟨gp,0,none⟩)):=by have:=hkb.cell 0;simpa using this
 have dl:=hkb.lt
 have Hnu:=ae (fun s' w2 (hW:aW gp gc gw W s' w2)=>wV gp gc gw W s' w2 hW)
 clear hz hb1 hkb hkr hsz hm1 hma hna hn1 XM aeA aia hm2 hen his hhd hli Vw hle hfr hfu hbl hmo h hW
 go_enter Tryz.func21,Tryz.ntmps21
 go_upto_region 1 with (fail)
 rw[← Hw1.out]
 go_wp2_with (fail)
 refine Hm1.out.mono ?_
 rintro e w2 ⟨rfl,hP,hB⟩
 have hz:=Hz.out
 have hkb2:=ah Z4.out hB (by omega)
 have UB:=ah Hkr.out hB (by omega)
 have hs2:=hB.size
 clear d0 dl
 have d0:w2.cell? ⟨w.heap.size,0,none⟩=some (.pointer (some ⟨gp,0,none⟩)):=by have:=hkb2.cell 0;simpa using this
 have dl:=hkb2.lt
 have H2:=ae (And.intro hP (And.intro ((But.of_below Hb1.out).trans' hB) (And.intro hkb2 (And.intro UB hs2))))
 clear hP hB hkb2 UB hz hs2
 go_wp2_with (fail)
 refine(Hn1.out _ H2.out.1).mono ?_
 rintro e w3 ⟨rfl,hP,hB⟩
 have hz:=Hz.out
 have hs1:=jM.out
 have hs2:=H2.out.2.2.2.2
 have hs3:=hB.size
 have aeB:=ah H2.out.2.2.1 hB (by omega)
 have alh:=ah H2.out.2.2.2.1 hB (by omega)
 have hal:=(Below.refl w3.heap.size w3).alloc (Nat.le_refl _) (.cells #[.string nm,.string ⟨#[]⟩,.string ⟨#[]⟩,.int .i64 100,.slice none 0 0,.slice none 0 0] 30)
 have hT:J3 gp gc gw w.heap.size (w.heap.size+1) w3.heap.size W sa w (w3.alloc (.cells #[.string nm,.string ⟨#[]⟩,.string ⟨#[]⟩,.int .i64 100,.slice none 0 0,.slice none 0 0] 30)) nm ⟨#[]⟩ ⟨#[]⟩ 100 none 0 [] :=
  ⟨hP.below hal,(H2.out.2.1.trans' hB).trans' (But.of_below hal),aeB.alloc _,alh.alloc _,af.laid _ _ _,ai.nil_ _ _ _ _,by omega⟩
 obtain⟨gx,Hgx⟩:∃ gx,Hid (gx=w3.heap.size):=⟨_,rfl⟩
 obtain⟨w4,FK⟩:∃ w4,Hid (w4=w3.alloc (.cells #[.string nm,.string ⟨#[]⟩,.string ⟨#[]⟩,.int .i64 100,.slice none 0 0,.slice none 0 0] 30)):=⟨_,rfl⟩
 rw[← Hgx.out,← FK.out] at hT
 obtain⟨gr,Hgr⟩:∃ gr,Hid (gr=w.heap.size+1):=⟨_,rfl⟩
 rw[← Hgr.out] at hT
 clear d0 dl
 have d0:w3.cell? ⟨w.heap.size,0,none⟩=some (.pointer (some ⟨gp,0,none⟩)):=by have:=aeB.cell 0;simpa using this
 have dl:=aeB.lt
 have HT:=ae hT
 clear hP hB hz hs1 hs2 hs3 aeB alh hal hT
 go_upto_region 3 with (fail)
 rw[← FK.out,← Hgx.out]
 clear d0 dl
 have d0:w4.cell? ⟨w.heap.size,0,none⟩=some (.pointer (some ⟨gp,0,none⟩)):=by have:=HT.out.kb.cell 0;simpa using this
 have dl:=HT.out.kb.lt
 go_wp2_with (fail)
 refine(Hm2.out _ _ HT.out.p rfl).mono ?_
 rintro e w5 ⟨rfl,hP,hB⟩
 have HT5:=ae (HT.out.pO hP hB)
 clear hP hB d0 dl
 have d0:w5.cell? ⟨w.heap.size,0,none⟩=some (.pointer (some ⟨gp,0,none⟩)):=by have:=HT5.out.kb.cell 0;simpa using this
 have dl:=HT5.out.kb.lt
 go_wp2_with (fail)
 refine(Hen.out _ HT5.out.p).mono ?_
 rintro e w6 ⟨rfl,hP,hB⟩
 have HT6:=ae (HT5.out.pO hP hB)
 clear hP hB d0 dl
 have d0:w6.cell? ⟨w.heap.size,0,none⟩=some (.pointer (some ⟨gp,0,none⟩)):=by have:=HT6.out.kb.cell 0;simpa using this
 have dl:=HT6.out.kb.lt
 obtain⟨e0,e1,e2,e3,el⟩:=cells4 HT6.out.p.blk
 go_wp2_with (fail)
 refine(His.out _ _ HT6.out.p rfl).mono ?_
 rintro e w7 ⟨rfl,hP,hB⟩
 have VZ:=ae (HT6.out.pO hP (But.of_below hB))
 clear hP hB d0 dl e0 e1 e2 e3 el
 go_upto_if 21 with (fail)
 go_cut [] (fun wr=>∃ A c,J3 gp gc gw w.heap.size gr gx W sl w wr nm ⟨#[]⟩ ⟨#[]⟩ 100 A c ps)
 case first =>
  cases q with
  | true =>
   have hh:(ps,sl)=([],se):=Hhd.out
   simp only[Prod.mk.injEq] at hh
   obtain⟨rfl,rfl⟩:=hh
   go_wp2
   go_meet
   exact⟨none,0,VZ.out⟩
  | false =>
   have hh:(ps,sl)=l1:=Hhd.out
   subst hh
   have d0:w7.cell? ⟨w.heap.size,0,none⟩=some (.pointer (some ⟨gp,0,none⟩)):=by have:=VZ.out.kb.cell 0;simpa using this
   have dl:=VZ.out.kb.lt
   have hne:=VZ.out.ne
   have hgl:=VZ.out.kx.lt
   have hl:=Hli.out gx w.heap.size (gx+1) _ VZ.out.p ⟨VZ.out.kx,World.ownsRow_nil _ _ _ _,by simp⟩ VZ.out.kb (by omega) (by omega) (by omega)
   have Hl:=ae hl
   clear hne hgl hl
   go_wp2_with (fail)
   refine Hl.out.mono ?_
   rintro e w8 ⟨rfl,hP,⟨A,c,hL⟩,hB⟩
   have XH:=ae (VZ.out.listed hP hL hB)
   clear hP hL hB d0 dl
   go_wp2
   go_meet
   exact⟨A,c,XH.out⟩
 case rest =>
  obtain⟨A,c,hT⟩:=hcut
  have d0:wc.cell? ⟨w.heap.size,0,none⟩=some (.pointer (some ⟨gp,0,none⟩)):=by have:=hT.kb.cell 0;simpa using this
  have dl:=hT.kb.lt
  have XH:=ae hT
  clear hT
  go_wp2_with (fail)
  refine(Hm3.out _ _ XH.out.p rfl).mono ?_
  rintro e w9 ⟨rfl,hP,hB⟩
  have HT9:=ae (XH.out.pO hP hB)
  clear hP hB d0 dl
  have d0:w9.cell? ⟨w.heap.size,0,none⟩=some (.pointer (some ⟨gp,0,none⟩)):=by have:=HT9.out.kb.cell 0;simpa using this
  have dl:=HT9.out.kb.lt
  go_wp2_with (fail)
  refine(Hle.out _ HT9.out.p).mono ?_
  rintro e w10 ⟨rfl,hP,hB⟩
  have Np:=ae (HT9.out.pO hP hB)
  clear hP hB d0 dl
  have d0:w10.cell? ⟨w.heap.size,0,none⟩=some (.pointer (some ⟨gp,0,none⟩)):=by have:=Np.out.kb.cell 0;simpa using this
  have dl:=Np.out.kb.lt
  have hfr:=Hfr.out
  rcases bC W (str [111,110]) s2 with ho|⟨ho,_,_⟩
  ·have hm:=Hma.out (str [111,110]) s2 w10 Np.out.p
   rw[ho] at hm hfr
   simp only[Bool.false_eq_true,if_false] at hfr
   simp only[str] at hm
   have Hm:=ae hm
   clear hm ho
   go_wp2_with (fail)
   refine Hm.out.mono ?_
   rintro e tJ ⟨rfl,hP,hB⟩
   have zh:=ae (Np.out.pO hP hB)
   clear hP hB d0 dl
   have d0:tJ.cell? ⟨w.heap.size,0,none⟩=some (.pointer (some ⟨gp,0,none⟩)):=by have:=zh.out.kb.cell 0;simpa using this
   have dl:=zh.out.kb.lt
   rcases bC W (str [102,114,111,109]) s2 with hf|⟨hf,_,_⟩
   ·have hm:=Hma.out (str [102,114,111,109]) s2 tJ zh.out.p
    rw[hf] at hm hfr
    simp only[Bool.false_eq_true,if_false,Prod.mk.injEq] at hfr
    obtain⟨⟨rfl,rfl⟩,rfl⟩:=hfr
    simp only[str] at hm
    have Hm:=ae hm
    clear hm hf
    go_wp2_with (fail)
    refine Hm.out.mono ?_
    rintro e w12 ⟨rfl,hP,hB⟩
    have QT:=ae (zh.out.pO hP hB)
    clear hP hB d0 dl
    go_upto_region 13 with (fail)
    have hfu:=Hfu.out
    rcases bC W (str [102,117,101,108]) s3 with hc|⟨hc,_,_⟩
    ·have hm:=Hma.out (str [102,117,101,108]) s3 w12 QT.out.p
     rw[hc] at hm hfu
     simp only[Bool.false_eq_true,if_false,Prod.mk.injEq] at hfu
     obtain⟨rfl,rfl⟩:=hfu
     simp only[str] at hm
     have Hm:=ae hm
     clear hm hc
     have d0:w12.cell? ⟨w.heap.size,0,none⟩=some (.pointer (some ⟨gp,0,none⟩)):=by have:=QT.out.kb.cell 0;simpa using this
     have dl:=QT.out.kb.lt
     go_wp2_with (fail)
     refine Hm.out.mono ?_
     rintro e vX ⟨rfl,hP,hB⟩
     have lU:=ae (QT.out.pO hP hB)
     clear hP hB d0 dl
     have d0:vX.cell? ⟨w.heap.size,0,none⟩=some (.pointer (some ⟨gp,0,none⟩)):=by have:=lU.out.kb.cell 0;simpa using this
     have dl:=lU.out.kb.lt
     go_wp2_with (fail)
     refine(Hbl.out _ lU.out.p).mono ?_
     rintro e w30 ⟨Ab,nb,cb,D,rfl,hx,hP,hB⟩
     obtain⟨hx0,hx1,hr1,hr2,hg⟩:=lU.out.out zG.out hx hP hB
     rw[Hgr.out] at hr1 hr2 hg
     obtain⟨x0,x1,x2,x3,x4,x5,xl⟩:=aH hx0
     have fx:=hx0.frozen
     obtain⟨QU,xy⟩:∃ QU,Hid (QU=w30.setCell ⟨gx,5,none⟩ (.slice Ab nb cb)):=⟨_,rfl⟩
     have jd:=ae (And.intro hx1 (And.intro hr1 (And.intro hr2 hg)))
     clear hx hP hB hx0 hx1 hr1 hr2 hg d0 dl
     go_upto_region 16 with (fail)
     rw[← xy.out]
     clear x0 x1 x2 x3 x4 x5 xl fx
     rw[← xy.out] at jd
     obtain⟨x0,x1,x2,x3,x4,x5,xl⟩:=aH jd.out.1
     obtain⟨y0,y1,y2,y3,y4,y5,yl⟩:=aH jd.out.2.1
     have fy:=jd.out.2.1.frozen
     go_wp2
     rw[bJ]
     exact bodyPost_ret (ET Tryz.results21 rfl jd.out.2.2.1 rfl) rfl jd.out.2.2.2
    ·have hm:=Hma.out (str [102,117,101,108]) s3 w12 QT.out.p
     rw[hc] at hm hfu
     simp only[if_true] at hfu
     simp only[str] at hm
     have hn:=fun w2 (hW:aW gp gc gw W s3.on w2)=>Hnu.out s3.on w2 hW
     generalize mP W s3.on=r at *
     obtain⟨rn,rs⟩:=r
     simp only[Prod.mk.injEq] at hfu hn
     obtain⟨rfl,rfl⟩:=hfu
     have Hm:=ae hm
     have Hn:=ae hn
     clear hm hc hn
     have d0:w12.cell? ⟨w.heap.size,0,none⟩=some (.pointer (some ⟨gp,0,none⟩)):=by have:=QT.out.kb.cell 0;simpa using this
     have dl:=QT.out.kb.lt
     go_wp2_with (fail)
     refine Hm.out.mono ?_
     rintro e vX ⟨rfl,hP,hB⟩
     have lU:=ae (QT.out.pO hP hB)
     clear hP hB d0 dl
     have d0:vX.cell? ⟨w.heap.size,0,none⟩=some (.pointer (some ⟨gp,0,none⟩)):=by have:=lU.out.kb.cell 0;simpa using this
     have dl:=lU.out.kb.lt
     go_wp2_with (fail)
     refine(Hn.out _ lU.out.p).mono ?_
     rintro e uV ⟨rfl,hP,hB⟩
     have Eb:=lU.out.pO hP hB
     have JG:=Eb.abN (min rn 2001)
     obtain⟨x0,x1,x2,x3,x4,x5,xl⟩:=aH Eb.kx
     have fx:=Eb.kx.frozen
     obtain⟨Uw,QV⟩:∃ Uw,Hid (Uw=uV.setCell ⟨gx,3,none⟩ (.int .i64 (min rn 2001))):=⟨_,rfl⟩
     rw[← QV.out] at JG
     have Ec:=ae JG
     clear hP hB d0 dl Eb JG
     go_upto_region 15 with (fail)
     rw[← QV.out]
     clear x0 x1 x2 x3 x4 x5 xl fx
     have d0:Uw.cell? ⟨w.heap.size,0,none⟩=some (.pointer (some ⟨gp,0,none⟩)):=by have:=Ec.out.kb.cell 0;simpa using this
     have dl:=Ec.out.kb.lt
     go_wp2_with (fail)
     refine(Hbl.out _ Ec.out.p).mono ?_
     rintro e w30 ⟨Ab,nb,cb,D,rfl,hx,hP,hB⟩
     obtain⟨hx0,hx1,hr1,hr2,hg⟩:=Ec.out.out zG.out hx hP hB
     rw[Hgr.out] at hr1 hr2 hg
     obtain⟨x0,x1,x2,x3,x4,x5,xl⟩:=aH hx0
     have fx:=hx0.frozen
     obtain⟨QU,xy⟩:∃ QU,Hid (QU=w30.setCell ⟨gx,5,none⟩ (.slice Ab nb cb)):=⟨_,rfl⟩
     have jd:=ae (And.intro hx1 (And.intro hr1 (And.intro hr2 hg)))
     clear hx hP hB hx0 hx1 hr1 hr2 hg d0 dl
     go_upto_region 16 with (fail)
     rw[← xy.out]
     clear x0 x1 x2 x3 x4 x5 xl fx
     rw[← xy.out] at jd
     obtain⟨x0,x1,x2,x3,x4,x5,xl⟩:=aH jd.out.1
     obtain⟨y0,y1,y2,y3,y4,y5,yl⟩:=aH jd.out.2.1
     have fy:=jd.out.2.1.frozen
     go_wp2
     rw[bJ]
     exact bodyPost_ret (ET Tryz.results21 rfl jd.out.2.2.1 rfl) rfl jd.out.2.2.2
   ·have hm:=Hma.out (str [102,114,111,109]) s2 tJ zh.out.p
    rw[hf] at hm hfr
    simp only[if_true] at hfr
    simp only[str] at hm
    have hn:=fun w2 (hW:aW gp gc gw W s2.on w2)=>Hna.out s2.on w2 hW
    generalize aS W s2.on=r at *
    obtain⟨rn,rs⟩:=r
    simp only[Prod.mk.injEq] at hfr hn
    obtain⟨⟨rfl,rfl⟩,rfl⟩:=hfr
    have Hm:=ae hm
    have Hn:=ae hn
    clear hm hf hn
    go_wp2_with (fail)
    refine Hm.out.mono ?_
    rintro e tJ ⟨rfl,hP,hB⟩
    have zh:=ae (zh.out.pO hP hB)
    clear hP hB d0 dl
    have d0:tJ.cell? ⟨w.heap.size,0,none⟩=some (.pointer (some ⟨gp,0,none⟩)):=by have:=zh.out.kb.cell 0;simpa using this
    have dl:=zh.out.kb.lt
    go_wp2_with (fail)
    refine(Hn.out _ zh.out.p).mono ?_
    rintro e w12 ⟨rfl,hP,hB⟩
    have Ns:=zh.out.pO hP hB
    have UC:=Ns.TD src
    obtain⟨x0,x1,x2,x3,x4,x5,xl⟩:=aH Ns.kx
    have fx:=Ns.kx.frozen
    obtain⟨Sm,abQ⟩:∃ Sm,Hid (Sm=w12.setCell ⟨gx,1,none⟩ (.string src)):=⟨_,rfl⟩
    rw[← abQ.out] at UC
    have xA:=ae UC
    clear hP hB d0 dl Ns UC
    go_upto_region 13 with (fail)
    rw[← abQ.out]
    clear x0 x1 x2 x3 x4 x5 xl fx
    have hfu:=Hfu.out
    rcases bC W (str [102,117,101,108]) s3 with hc|⟨hc,_,_⟩
    ·have hm:=Hma.out (str [102,117,101,108]) s3 Sm xA.out.p
     rw[hc] at hm hfu
     simp only[Bool.false_eq_true,if_false,Prod.mk.injEq] at hfu
     obtain⟨rfl,rfl⟩:=hfu
     simp only[str] at hm
     have Hm:=ae hm
     clear hm hc
     have d0:Sm.cell? ⟨w.heap.size,0,none⟩=some (.pointer (some ⟨gp,0,none⟩)):=by have:=xA.out.kb.cell 0;simpa using this
     have dl:=xA.out.kb.lt
     go_wp2_with (fail)
     refine Hm.out.mono ?_
     rintro e vX ⟨rfl,hP,hB⟩
     have lU:=ae (xA.out.pO hP hB)
     clear hP hB d0 dl
     have d0:vX.cell? ⟨w.heap.size,0,none⟩=some (.pointer (some ⟨gp,0,none⟩)):=by have:=lU.out.kb.cell 0;simpa using this
     have dl:=lU.out.kb.lt
     go_wp2_with (fail)
     refine(Hbl.out _ lU.out.p).mono ?_
     rintro e w30 ⟨Ab,nb,cb,D,rfl,hx,hP,hB⟩
     obtain⟨hx0,hx1,hr1,hr2,hg⟩:=lU.out.out zG.out hx hP hB
     rw[Hgr.out] at hr1 hr2 hg
     obtain⟨x0,x1,x2,x3,x4,x5,xl⟩:=aH hx0
     have fx:=hx0.frozen
     obtain⟨QU,xy⟩:∃ QU,Hid (QU=w30.setCell ⟨gx,5,none⟩ (.slice Ab nb cb)):=⟨_,rfl⟩
     have jd:=ae (And.intro hx1 (And.intro hr1 (And.intro hr2 hg)))
     clear hx hP hB hx0 hx1 hr1 hr2 hg d0 dl
     go_upto_region 16 with (fail)
     rw[← xy.out]
     clear x0 x1 x2 x3 x4 x5 xl fx
     rw[← xy.out] at jd
     obtain⟨x0,x1,x2,x3,x4,x5,xl⟩:=aH jd.out.1
     obtain⟨y0,y1,y2,y3,y4,y5,yl⟩:=aH jd.out.2.1
     have fy:=jd.out.2.1.frozen
     go_wp2
     rw[bJ]
     exact bodyPost_ret (ET Tryz.results21 rfl jd.out.2.2.1 rfl) rfl jd.out.2.2.2
    ·have hm:=Hma.out (str [102,117,101,108]) s3 Sm xA.out.p
     rw[hc] at hm hfu
     simp only[if_true] at hfu
     simp only[str] at hm
     have hn:=fun w2 (hW:aW gp gc gw W s3.on w2)=>Hnu.out s3.on w2 hW
     generalize mP W s3.on=r at *
     obtain⟨rn,rs⟩:=r
     simp only[Prod.mk.injEq] at hfu hn
     obtain⟨rfl,rfl⟩:=hfu
     have Hm:=ae hm
     have Hn:=ae hn
     clear hm hc hn
     have d0:Sm.cell? ⟨w.heap.size,0,none⟩=some (.pointer (some ⟨gp,0,none⟩)):=by have:=xA.out.kb.cell 0;simpa using this
     have dl:=xA.out.kb.lt
     go_wp2_with (fail)
     refine Hm.out.mono ?_
     rintro e vX ⟨rfl,hP,hB⟩
     have lU:=ae (xA.out.pO hP hB)
     clear hP hB d0 dl
     have d0:vX.cell? ⟨w.heap.size,0,none⟩=some (.pointer (some ⟨gp,0,none⟩)):=by have:=lU.out.kb.cell 0;simpa using this
     have dl:=lU.out.kb.lt
     go_wp2_with (fail)
     refine(Hn.out _ lU.out.p).mono ?_
     rintro e uV ⟨rfl,hP,hB⟩
     have Eb:=lU.out.pO hP hB
     have JG:=Eb.abN (min rn 2001)
     obtain⟨x0,x1,x2,x3,x4,x5,xl⟩:=aH Eb.kx
     have fx:=Eb.kx.frozen
     obtain⟨Uw,QV⟩:∃ Uw,Hid (Uw=uV.setCell ⟨gx,3,none⟩ (.int .i64 (min rn 2001))):=⟨_,rfl⟩
     rw[← QV.out] at JG
     have Ec:=ae JG
     clear hP hB d0 dl Eb JG
     go_upto_region 15 with (fail)
     rw[← QV.out]
     clear x0 x1 x2 x3 x4 x5 xl fx
     have d0:Uw.cell? ⟨w.heap.size,0,none⟩=some (.pointer (some ⟨gp,0,none⟩)):=by have:=Ec.out.kb.cell 0;simpa using this
     have dl:=Ec.out.kb.lt
     go_wp2_with (fail)
     refine(Hbl.out _ Ec.out.p).mono ?_
     rintro e w30 ⟨Ab,nb,cb,D,rfl,hx,hP,hB⟩
     obtain⟨hx0,hx1,hr1,hr2,hg⟩:=Ec.out.out zG.out hx hP hB
     rw[Hgr.out] at hr1 hr2 hg
     obtain⟨x0,x1,x2,x3,x4,x5,xl⟩:=aH hx0
     have fx:=hx0.frozen
     obtain⟨QU,xy⟩:∃ QU,Hid (QU=w30.setCell ⟨gx,5,none⟩ (.slice Ab nb cb)):=⟨_,rfl⟩
     have jd:=ae (And.intro hx1 (And.intro hr1 (And.intro hr2 hg)))
     clear hx hP hB hx0 hx1 hr1 hr2 hg d0 dl
     go_upto_region 16 with (fail)
     rw[← xy.out]
     clear x0 x1 x2 x3 x4 x5 xl fx
     rw[← xy.out] at jd
     obtain⟨x0,x1,x2,x3,x4,x5,xl⟩:=aH jd.out.1
     obtain⟨y0,y1,y2,y3,y4,y5,yl⟩:=aH jd.out.2.1
     have fy:=jd.out.2.1.frozen
     go_wp2
     rw[bJ]
     exact bodyPost_ret (ET Tryz.results21 rfl jd.out.2.2.1 rfl) rfl jd.out.2.2.2
  ·have hm:=Hma.out (str [111,110]) s2 w10 Np.out.p
   rw[ho] at hm hfr
   simp only[if_true] at hfr
   simp only[str] at hm
   have hn:=fun w2 (hW:aW gp gc gw W s2.on w2)=>Hna.out s2.on w2 hW
   generalize aS W s2.on=r at *
   obtain⟨rn,rs⟩:=r
   simp only[Prod.mk.injEq] at hfr hn
   obtain⟨⟨rfl,rfl⟩,rfl⟩:=hfr
   have Hm:=ae hm
   have Hn:=ae hn
   clear hm ho hn
   go_wp2_with (fail)
   refine Hm.out.mono ?_
   rintro e tJ ⟨rfl,hP,hB⟩
   have zh:=ae (Np.out.pO hP hB)
   clear hP hB d0 dl
   have d0:tJ.cell? ⟨w.heap.size,0,none⟩=some (.pointer (some ⟨gp,0,none⟩)):=by have:=zh.out.kb.cell 0;simpa using this
   have dl:=zh.out.kb.lt
   go_wp2_with (fail)
   refine(Hn.out _ zh.out.p).mono ?_
   rintro e w12 ⟨rfl,hP,hB⟩
   have Ns:=zh.out.pO hP hB
   have UC:=Ns.aaX part
   obtain⟨x0,x1,x2,x3,x4,x5,xl⟩:=aH Ns.kx
   have fx:=Ns.kx.frozen
   obtain⟨Sm,abQ⟩:∃ Sm,Hid (Sm=w12.setCell ⟨gx,2,none⟩ (.string part)):=⟨_,rfl⟩
   rw[← abQ.out] at UC
   have xA:=ae UC
   clear hP hB d0 dl Ns UC
   go_upto_region 13 with (fail)
   rw[← abQ.out]
   clear x0 x1 x2 x3 x4 x5 xl fx
   have hfu:=Hfu.out
   rcases bC W (str [102,117,101,108]) s3 with hc|⟨hc,_,_⟩
   ·have hm:=Hma.out (str [102,117,101,108]) s3 Sm xA.out.p
    rw[hc] at hm hfu
    simp only[Bool.false_eq_true,if_false,Prod.mk.injEq] at hfu
    obtain⟨rfl,rfl⟩:=hfu
    simp only[str] at hm
    have Hm:=ae hm
    clear hm hc
    have d0:Sm.cell? ⟨w.heap.size,0,none⟩=some (.pointer (some ⟨gp,0,none⟩)):=by have:=xA.out.kb.cell 0;simpa using this
    have dl:=xA.out.kb.lt
    go_wp2_with (fail)
    refine Hm.out.mono ?_
    rintro e vX ⟨rfl,hP,hB⟩
    have lU:=ae (xA.out.pO hP hB)
    clear hP hB d0 dl
    have d0:vX.cell? ⟨w.heap.size,0,none⟩=some (.pointer (some ⟨gp,0,none⟩)):=by have:=lU.out.kb.cell 0;simpa using this
    have dl:=lU.out.kb.lt
    go_wp2_with (fail)
    refine(Hbl.out _ lU.out.p).mono ?_
    rintro e w30 ⟨Ab,nb,cb,D,rfl,hx,hP,hB⟩
    obtain⟨hx0,hx1,hr1,hr2,hg⟩:=lU.out.out zG.out hx hP hB
    rw[Hgr.out] at hr1 hr2 hg
    obtain⟨x0,x1,x2,x3,x4,x5,xl⟩:=aH hx0
    have fx:=hx0.frozen
    obtain⟨QU,xy⟩:∃ QU,Hid (QU=w30.setCell ⟨gx,5,none⟩ (.slice Ab nb cb)):=⟨_,rfl⟩
    have jd:=ae (And.intro hx1 (And.intro hr1 (And.intro hr2 hg)))
    clear hx hP hB hx0 hx1 hr1 hr2 hg d0 dl
    go_upto_region 16 with (fail)
    rw[← xy.out]
    clear x0 x1 x2 x3 x4 x5 xl fx
    rw[← xy.out] at jd
    obtain⟨x0,x1,x2,x3,x4,x5,xl⟩:=aH jd.out.1
    obtain⟨y0,y1,y2,y3,y4,y5,yl⟩:=aH jd.out.2.1
    have fy:=jd.out.2.1.frozen
    go_wp2
    rw[bJ]
    exact bodyPost_ret (ET Tryz.results21 rfl jd.out.2.2.1 rfl) rfl jd.out.2.2.2
   ·have hm:=Hma.out (str [102,117,101,108]) s3 Sm xA.out.p
    rw[hc] at hm hfu
    simp only[if_true] at hfu
    simp only[str] at hm
    have hn:=fun w2 (hW:aW gp gc gw W s3.on w2)=>Hnu.out s3.on w2 hW
    generalize mP W s3.on=r at *
    obtain⟨rn,rs⟩:=r
    simp only[Prod.mk.injEq] at hfu hn
    obtain⟨rfl,rfl⟩:=hfu
    have Hm:=ae hm
    have Hn:=ae hn
    clear hm hc hn
    have d0:Sm.cell? ⟨w.heap.size,0,none⟩=some (.pointer (some ⟨gp,0,none⟩)):=by have:=xA.out.kb.cell 0;simpa using this
    have dl:=xA.out.kb.lt
    go_wp2_with (fail)
    refine Hm.out.mono ?_
    rintro e vX ⟨rfl,hP,hB⟩
    have lU:=ae (xA.out.pO hP hB)
    clear hP hB d0 dl
    have d0:vX.cell? ⟨w.heap.size,0,none⟩=some (.pointer (some ⟨gp,0,none⟩)):=by have:=lU.out.kb.cell 0;simpa using this
    have dl:=lU.out.kb.lt
    go_wp2_with (fail)
    refine(Hn.out _ lU.out.p).mono ?_
    rintro e uV ⟨rfl,hP,hB⟩
    have Eb:=lU.out.pO hP hB
    have JG:=Eb.abN (min rn 2001)
    obtain⟨x0,x1,x2,x3,x4,x5,xl⟩:=aH Eb.kx
    have fx:=Eb.kx.frozen
    obtain⟨Uw,QV⟩:∃ Uw,Hid (Uw=uV.setCell ⟨gx,3,none⟩ (.int .i64 (min rn 2001))):=⟨_,rfl⟩
    rw[← QV.out] at JG
    have Ec:=ae JG
    clear hP hB d0 dl Eb JG
    go_upto_region 15 with (fail)
    rw[← QV.out]
    clear x0 x1 x2 x3 x4 x5 xl fx
    have d0:Uw.cell? ⟨w.heap.size,0,none⟩=some (.pointer (some ⟨gp,0,none⟩)):=by have:=Ec.out.kb.cell 0;simpa using this
    have dl:=Ec.out.kb.lt
    go_wp2_with (fail)
    refine(Hbl.out _ Ec.out.p).mono ?_
    rintro e w30 ⟨Ab,nb,cb,D,rfl,hx,hP,hB⟩
    obtain⟨hx0,hx1,hr1,hr2,hg⟩:=Ec.out.out zG.out hx hP hB
    rw[Hgr.out] at hr1 hr2 hg
    obtain⟨x0,x1,x2,x3,x4,x5,xl⟩:=aH hx0
    have fx:=hx0.frozen
    obtain⟨QU,xy⟩:∃ QU,Hid (QU=w30.setCell ⟨gx,5,none⟩ (.slice Ab nb cb)):=⟨_,rfl⟩
    have jd:=ae (And.intro hx1 (And.intro hr1 (And.intro hr2 hg)))
    clear hx hP hB hx0 hx1 hr1 hr2 hg d0 dl
    go_upto_region 16 with (fail)
    rw[← xy.out]
    clear x0 x1 x2 x3 x4 x5 xl fx
    rw[← xy.out] at jd
    obtain⟨x0,x1,x2,x3,x4,x5,xl⟩:=aH jd.out.1
    obtain⟨y0,y1,y2,y3,y4,y5,yl⟩:=aH jd.out.2.1
    have fy:=jd.out.2.1.frozen
    go_wp2
    rw[bJ]
    exact bodyPost_ret (ET Tryz.results21 rfl jd.out.2.2.1 rfl) rfl jd.out.2.2.2
end Go.Proofs.YtjjfkhbajidmdaaGreatDoor
namespace Go.Afx
open Go.RowKit
def lexB (c:UInt8):Bool:=(decide (97≤c.toNat)&&decide (c.toNat≤122))||(decide (65≤c.toNat)&&decide (c.toNat≤90))||(decide (48≤c.toNat)&&decide (c.toNat≤57))||decide (c.toNat=95)
def QW (c:UInt8):Bool:=decide (c.toNat=32)||decide (c.toNat=9)||decide (c.toNat=10)
def wB (c:UInt8):Bool:=decide (48≤c.toNat)&&decide (c.toNat≤57)
def blk:Bool→List UInt8→Nat
 | _,[]=>0
 | true,c::r=>if c.toNat=10 then 1+blk false r else 1+blk true r
 | false,c::r=>if QW c then 1+blk false r else if c.toNat=47∧r.head?=some 47 then 1+blk true r else 0
def vY (t:List UInt8):Nat:=t.foldl (fun a c=>10*a+(c.toNat-48)) 0
def sG (t:List UInt8):Option Nat:=if (t.head?=some 48∧1<t.length)∨t.all wB=false then none else if vY t≤9223372036854775807 then some (vY t) else none
def quo:List UInt8→List UInt8→Nat→Option (List UInt8×Nat)
 | [],_,_=>none
 | [c],acc,i=>if c.toNat=10 then none else if c.toNat=39 then some (acc,i+1) else none
 | c::d::r,acc,i=>if c.toNat=10 then none else if c.toNat=39 then (if d.toNat=39 then quo r (acc++[39]) (i+2) else some (acc,i+1)) else quo (d::r) (acc++[c]) (i+1)
def iK:List (List UInt8):=[[60,61],[33,61],[62,61],[40],[41],[123],[125],[91],[93],[44],[59],[58],[46],[43],[45],[42],[47],[37],[60],[61],[62]]
structure Nx where
 kind:Int
 text:List UInt8
 n:Int
 len:Nat
def pI (s:List UInt8):Option Nx :=
 if (s.takeWhile lexB).head?.any wB then (sG (s.takeWhile lexB)).map fun v=>⟨1,s.takeWhile lexB,v,(s.takeWhile lexB).length⟩
 else if dV (str (s.takeWhile lexB)) then some ⟨3,s.takeWhile lexB,0,(s.takeWhile lexB).length⟩ else none
def lV (s:List UInt8):Option Nx:=match quo (s.drop 1) [] 1 with
 | none=>none
 | some (b,n)=>if b.length≤200 then some ⟨2,b,0,n⟩ else none
def F7 (s:List UInt8):Option Nx:=(iK.find? fun g=>g.isPrefixOf s).map fun g=>⟨0,g,0,g.length⟩
def jZ (s:List UInt8):Option Nx :=
 if s.head?.any lexB then pI s else if s.head?.any (fun c=>c.toNat=39) then lV s else F7 s
def abR (x:Wd):Nat ⊕ List Wd→Nat ⊕ List Wd
 | .inl e=>.inl e
 | .inr l=>.inr (x::l)
def QX (p:List Wd):Nat ⊕ List Wd→Nat ⊕ List Wd
 | .inl e=>.inl e
 | .inr l=>.inr (p++l)
def Nu:Nat→Nat→List UInt8→Nat ⊕ List Wd
 | 0,at_,_=>.inl at_
 | f+1,at_,s=>if s=[] then .inr [] else match jZ s with
  | none=>.inl at_
  | some x=>abR ⟨x.kind,str x.text,x.n,at_⟩ (Nu f (at_+x.len+blk false (s.drop x.len)) ((s.drop x.len).drop (blk false (s.drop x.len))))
def QY (s:List UInt8):Nat ⊕ List Wd:=Nu (s.length+1) (blk false s) (s.drop (blk false s))
theorem abS (r:Nat ⊕ List Wd):QX [] r=r:=by cases r<;>rfl
theorem abT (p:List Wd) (x:Wd) (r:Nat ⊕ List Wd):QX p (abR x r)=QX (p++[x]) r:=by
 cases r with
 | inl e=>rfl
 | inr l=>simp[QX,abR]
theorem abU:∀ (s:List UInt8) (b:Bool),blk b s≤s.length:=by
 intro s
 induction s with
 | nil=>intro b;cases b<;>simp[blk]
 | cons c r ih =>
  intro b
  have h1:=ih true
  have h2:=ih false
  cases b<;>simp only[blk,List.length_cons]<;>repeat' split
  all_goals omega
theorem aeC:∀ (k:Nat) (s acc:List UInt8) (i:Nat) (b:List UInt8) (n:Nat),s.length≤k→quo s acc i=some (b,n)→i+1≤n∧n≤i+s.length:=by
 intro k
 induction k with
 | zero=>intro s acc i b n hk h;cases s with
  | nil=>simp[quo] at h
  | cons c r=>simp at hk
 | succ k ih =>
  intro s acc i b n hk h
  match s with
  | []=>simp[quo] at h
  | [c] =>
   unfold quo at h
   split at h
   ·cases h
   ·split at h
    ·simp at h;simp;omega
    ·cases h
  | c :: d::r =>
   simp only[List.length_cons] at hk
   unfold quo at h
   split at h
   ·cases h
   ·split at h
    ·split at h
     ·have:=ih _ _ _ _ _ (by omega) h
      simp only[List.length_cons];omega
     ·simp at h;simp only[List.length_cons];omega
    ·have:=ih _ _ _ _ _ (by simp;omega) h
     simp only[List.length_cons] at this ⊢;omega
theorem QZ {s:List UInt8} {x:Nx} (h:jZ s=some x):1≤x.len∧x.len≤s.length:=by
 have htk:∀ (p:UInt8→Bool) (s:List UInt8),(s.takeWhile p).length≤s.length:=fun p s=>(List.takeWhile_prefix p).length_le
 unfold jZ at h
 split at h
 ·rename_i hp
  have h1:1≤(s.takeWhile lexB).length:=by
   cases s with
   | nil=>simp at hp
   | cons c r =>
    have hp:lexB c=true:=by simpa using hp
    rw[List.takeWhile_cons,if_pos hp];simp
  have h2:=htk lexB s
  unfold pI at h
  split at h
  ·cases hn:sG (s.takeWhile lexB) with
   | none=>rw[hn] at h;cases h
   | some v=>rw[hn] at h;cases h;exact⟨h1,h2⟩
  ·split at h
   ·cases h;exact⟨h1,h2⟩
   ·cases h
 ·split at h
  ·rename_i hq
   unfold lV at h
   split at h
   ·cases h
   ·rename_i b n hb
    split at h
    ·cases h
     have:=aeC _ _ _ _ _ _ (Nat.le_refl _) hb
     cases s with
     | nil=>simp at hq
     | cons c r=>simp at this ⊢;omega
    ·cases h
  ·unfold F7 at h
   cases hf:iK.find? (fun g=>g.isPrefixOf s) with
   | none=>rw[hf] at h;cases h
   | some g =>
    rw[hf] at h
    cases h
    have h1:=List.find?_some hf
    have h2:=List.mem_of_find?_eq_some hf
    have h3:g.length≤s.length:=(List.isPrefixOf_iff_prefix.1 h1).length_le
    refine⟨?_,h3⟩
    revert h2
    have:∀ g∈iK,1≤g.length:=by decide
    exact this g
end Go.Afx

/- Parts of this proof, one behind the other: ParL, ParM, ParQ. -/
import Derived.Test.YtjjfkhbajidmdaaGreatDoorPb28
import Derived.Test.YtjjfkhbajidmdaaGreatDoorPb23
set_option maxRecDepth 1000000
set_option maxHeartbeats 40000000
namespace Go.Proofs.YtjjfkhbajidmdaaGreatDoor
open Go.RowKit Go.Afx
theorem vC (F:Nat→Prop) (w:World) (op n:Int) (sx nm:ByteArray) (h0:0≤op) (h1:op≤100) (hn:okI n) (hs:okS sx) (hm:okS nm):aC F 1 w [.int .i64 op,.int .i64 n,.string sx,.string nm,.string ⟨#[]⟩,.slice none 0 0] (.mk op n sx nm nil0 []):=by
 have h2:okS nil0:=by unfold okS;exact Nat.zero_le _
 exact⟨⟨by show _≤op;omega,by show op≤_;omega⟩,hn,hs,hm,h2,none,0,0,rfl,ai.nil_ _ _ _ _⟩
theorem Iu {W:aV} {s:au} {t:ByteArray} (hb:s.bad=false):jO W s t=(ay W t s).1:=by
 unfold ay
 rw[hb]
 cases h:jO W s t<;>simp
theorem Xw (W:aV) (E:au→Ex×au) (s:au):EK W E s=((E (aG (ak W [str [40]] s))).1,dw (ak W [str [41]] (E (aG (ak W [str [40]] s))).2)):=rfl
theorem aeh (W:aV) (s:au):Ko W s=if (ay W (str [46]) (aS W s).2).1 then (.mk 5 0 (aS W (ay W (str [46]) (aS W s).2).2).1 (aS W s).1 nil0 [],(aS W (ay W (str [46]) (aS W s).2).2).2) else (.mk 4 0 nil0 (aS W s).1 nil0 [],(aS W s).2):=rfl
theorem xg {gp gc gw:Nat} {W:aV} {s:au} {w:World} (h:aW gp gc gw W s w) (ts:List ByteArray) (n g:Nat) (hg:g=w.heap.size) (hn:ts.length=n) (hm:n≤1000) :
  Calls Tryz.prog 47 #[.pointer (some ⟨gc,0,none⟩),.slice (some ⟨g,0,none⟩) n n] (w.alloc (.cells (ts.map Value.string).toArray 9)) fun e w'=>e=.returned (.bool (ts.any (W.look s.at_).says))∧aW gp gc gw W s w'∧Below w.heap.size w w':=by
 have hb:=(Below.refl w.heap.size w).alloc (Nat.le_refl _) (.cells (ts.map Value.string).toArray 9)
 refine(aho _ gc s.at_ W _ n n ts _ (h.below hb).cu (rX.lit 9 ts n hg hn hm)).mono ?_
 rintro e w' ⟨rfl,hb2⟩
 have hb3:=hb.trans (hb2.mono hb.size)
 exact⟨rfl,h.below hb3,hb3⟩
theorem Qy (gp gc gw:Nat) (W:aV) (E:au→Ex×au) (m:Nat) (hE:1≤m→fB gp gc gw W 126 E m) (hUE:∀ s,Ge s (E s).2):fB gp gc gw W 196 (eY W E) (m+1):=by
 intro s w h hf
 have hz:=And.intro h.lt.1 (And.intro h.lt.2 h.wl)
 obtain⟨w1,Hw1⟩:∃ w1,Hid (w1=w.alloc (.cells zero6 55)):=⟨_,rfl⟩
 have hb1:Below w.heap.size w w1:=by rw[Hw1.out];exact(Below.refl _ _).alloc (Nat.le_refl _) _
 have hk2:af w1 w.heap.size 55 zero6:=by rw[Hw1.out];exact af.laid _ _ _
 have hsz:w1.heap.size=w.heap.size+1:=by rw[Hw1.out];simp
 have h1:=h.below hb1
 obtain⟨c0,c1,c2,c3,hg⟩:=cells4 h1.blk
 have hwd:=uH _ gc s.at_ W w1 h1.cu
 have abg:=h.okw s.at_
 unfold eY
 have agv:∀ t,jO W s t=true→s.bad=false→1≤m:=fun t ht hb=>by
  have hlt:=Io ht
  rcases hf with hf|hf
  ·rw[hb] at hf;cases hf
  ·omega
 generalize hx:W.look s.at_=x at *
 obtain⟨xk,xs,xn,xa⟩:=x
 unfold iO at hwd
 have MN:=ae hwd
 have Hx:=ae hx
 have akL:=ae abg
 have jM:=ae hsz
 have Hb1:=ae hb1
 have Ig:=ae hk2
 have Hz:=ae hz
 have H1:=ae h1
 have Hf:=ae hf
 have Qz:=ae agv
 have HE:=ae hE
 have HUE:=ae hUE
 clear hwd hx abg hsz hb1 hk2 hz h1 hf hE hUE h agv
 generalize hfin:(if s.bad=true then (ex0,s) else _:Ex×au)=fin
 have bn:=ae hfin
 clear hfin
 go_enter Tryz.func196,Tryz.ntmps196
 go_upto_region 1 with (fail)
 rw[← Hw1.out]
 go_wp2_with (fail)
 refine MN.out.mono ?_
 rintro e w2 ⟨rfl,hb2⟩
 have hP2:=H1.out.below hb2
 have hal:=(Below.refl w2.heap.size w2).alloc (Nat.le_refl _) (.cells #[.int .i64 xk,.string xs,.int .i64 xn,.int .i64 xa] 101)
 have Ui:=Ig.out.ag (hb2.block _ Ig.out.lt)
 have hk3:af (w2.alloc (.cells #[.int .i64 xk,.string xs,.int .i64 xn,.int .i64 xa] 101)) w2.heap.size 101 #[.int .i64 xk,.string xs,.int .i64 xn,.int .i64 xa]:=af.laid _ _ _
 obtain⟨w3,KT⟩:∃ w3,Hid (w3=w2.alloc (.cells #[.int .i64 xk,.string xs,.int .i64 xn,.int .i64 xa] 101)):=⟨_,rfl⟩
 have hzz:w.heap.size<w2.heap.size:=by have:=hb2.size;have:=jM.out;omega
 have H3:=ae (And.intro (hP2.below hal) (And.intro ((Hb1.out.trans (hb2.mono (by have:=jM.out;omega))).trans (hal.mono (by omega))) (And.intro (Ui.ag (hal.block _ Ui.lt)) (And.intro hk3 hzz))))
 rw[← KT.out] at H3
 clear hP2 hal Ui hk3 hb2 hzz
 obtain⟨d0,d1,d2,d3,dg⟩:=cells4 H3.out.1.blk
 obtain⟨x0,x1,x2,x3,x4,x5,xl⟩:=aH H3.out.2.2.1
 obtain⟨y0,y1,y2,y3,yl⟩:=cells4 H3.out.2.2.2.1
 have f2:=H3.out.2.2.1.frozen
 obtain⟨bad,hbad⟩:∃ b,s.bad=b:=⟨_,rfl⟩
 rw[hbad] at d3
 have uI:=ae hbad
 clear hbad c0 c1 c2 c3 hg
 go_upto_region 2 with (fail)
 rw[← KT.out]
 cases bad with
 | true =>
  have hf:=bn.out
  rw[uI.out,if_pos rfl] at hf
  subst hf
  have hP:=H3.out.1
  have H:=ae (eH (x:=ex0) (w3:=w1) (vC (Fr w1) w3 0 0 ⟨#[]⟩ ⟨#[]⟩ (by decide) (by decide) (by constructor<;>simp) (by unfold okS;exact Nat.zero_le _) (by unfold okS;exact Nat.zero_le _)) hP (But.of_below H3.out.2.1) H3.out.2.2.1 (Nat.le_refl _) (by have:=jM.out;omega) Hz.out)
  clear hP
  go_wp2
  rw[bJ]
  exact bodyPost_ret (fA Tryz.results196 rfl H.out.1 rfl) rfl H.out.2
 | false =>
  have hfb:=bn.out
  rw[uI.out,if_neg (by decide)] at hfb
  have Hfb:=ae hfb
  clear hfb
  rcases Classical.em (xk=1) with h1|h1
  ·have hf:=Hfb.out
   rw[if_pos h1] at hf
   subst h1 hf
   have hnum:mP W s=(xn,s.on):=by
    unfold mP
    rw[uI.out,Hx.out]
    rfl
   have hn:=wV gp gc gw W s w3 H3.out.1
   rw[hnum] at hn
   have Hn:=ae hn
   clear hn hnum
   go_wp2_with (fail)
   refine Hn.out.mono ?_
   rintro e w4 ⟨rfl,hP,hB⟩
   have vF:=ah H3.out.2.2.1 hB (by have:=Hz.out;omega)
   obtain⟨v0,v1,v2,v3,v4,v5,vl⟩:=aH vF
   have f24:=vF.frozen
   have H:=ae (eH (x:=.mk 1 xn nil0 nil0 nil0 []) (w3:=w1) (vC (Fr w1) _ 1 xn ⟨#[]⟩ ⟨#[]⟩ (by decide) (by decide) akL.out.2.2.1 (by unfold okS;exact Nat.zero_le _) (by unfold okS;exact Nat.zero_le _)) hP ((But.of_below H3.out.2.1).trans' hB) vF (Nat.le_refl _) (by have:=jM.out;omega) Hz.out)
   clear hP hB vF
   go_wp2
   rw[bJ]
   exact bodyPost_ret (fA Tryz.results196 rfl H.out.1 rfl) rfl H.out.2
  ·have q1:(xk==1)=false:=by simpa using h1
   rcases Classical.em (xk=2) with h2|h2
   ·have hf:=Hfb.out
    rw[if_neg h1,if_pos h2] at hf
    subst h2 hf
    have hn:=Jd _ gc s.at_ 2 W w3 H3.out.1.cu (by decide)
    rw[Hx.out] at hn
    simp only[if_true,decide_true] at hn
    have Hn:=ae hn
    clear hn h1
    go_wp2_with (fail)
    refine Hn.out.mono ?_
    rintro e w4 ⟨rfl,hc,hb4⟩
    have hP:=H3.out.1.wU (s':=s.on) hb4 hc rfl rfl rfl
    have hB:=FX (gp:=gp) hb4
    have akM:=H3.out.2.2.2.1.ag (hb4.block _ H3.out.2.2.2.1.lt (by have:=Hz.out;have:=H3.out.2.2.2.2;omega))
    obtain⟨z0,z1,z2,z3,zl⟩:=cells4 akM
    clear hc hb4 akM
    have vF:=ah H3.out.2.2.1 hB (by have:=Hz.out;omega)
    obtain⟨v0,v1,v2,v3,v4,v5,vl⟩:=aH vF
    have f24:=vF.frozen
    have H:=ae (eH (x:=.mk 2 0 xs nil0 nil0 []) (w3:=w1) (vC (Fr w1) _ 2 0 xs ⟨#[]⟩ (by decide) (by decide) (by constructor<;>simp) akL.out.2.1 (by unfold okS;exact Nat.zero_le _)) hP ((But.of_below H3.out.2.1).trans' hB) vF (Nat.le_refl _) (by have:=jM.out;omega) Hz.out)
    clear hP hB vF
    go_wp2
    rw[bJ]
    exact bodyPost_ret (fA Tryz.results196 rfl H.out.1 rfl) rfl H.out.2
   ·have q2:(xk==2)=false:=by simpa using h2
    have hfb:=Hfb.out
    rw[if_neg h1,if_neg h2] at hfb
    have Hfc:=ae hfb
    clear hfb h1 h2 Hfb
    have gB:=ae (fun t w2 (hW:aW gp gc gw W s w2)=>gX gp gc gw W s t w2 hW)
    have hm:=gB.out (str [116,114,117,101]) w3 H3.out.1
    rcases bC W (str [116,114,117,101]) s with h|⟨h,_,_⟩
    ·rw [h] at hm
     simp only[str] at hm
     have Hm0:=ae hm
     have hi:jO W s (str [116,114,117,101])=false:=by rw[Iu uI.out,h]
     have Hi0:=ae hi
     clear hm hi h
     go_wp2_with (fail)
     refine Hm0.out.mono ?_
     rintro e w4 ⟨rfl,hP,hB⟩
     have HP0:=ae (And.intro hP hB)
     clear hP hB
     have hm:=gB.out (str [102,97,108,115,101]) w4 HP0.out.1
     rcases bC W (str [102,97,108,115,101]) s with h|⟨h,_,_⟩
     ·rw [h] at hm
      simp only[str] at hm
      have Hm1:=ae hm
      have hi:jO W s (str [102,97,108,115,101])=false:=by rw[Iu uI.out,h]
      have Hi1:=ae hi
      clear hm hi h
      go_wp2_with (fail)
      refine Hm1.out.mono ?_
      rintro e w5 ⟨rfl,hP,hB⟩
      have HP1:=ae (And.intro hP (HP0.out.2.trans' hB))
      clear hP hB
      have agw:∀ W2,But (fV gp gc) w3 W2→af W2 w.heap.size 55 zero6:=fun W2 hW=>ah H3.out.2.2.1 hW (by have:=Hz.out;omega)
      have VQ:=ae agw
      clear agw
      obtain⟨e0,e1,e2,e3,eg⟩:=cells4 HP1.out.1.blk
      have hIs:=xg HP1.out.1 [str [99,111,117,110,116],str [115,117,109],str [109,105,110],str [109,97,120]] 4 w5.heap.size rfl rfl (by omega)
      rw[Hx.out] at hIs
      have hfold:(if jO W s (str [99,111,117,110,116])||jO W s (str [115,117,109])||jO W s (str [109,105,110])||jO W s (str [109,97,120]) then tY W E s else if jO W s (str [40]) then EK W E s else Ko W s)=fin:=by
       have hf:=Hfc.out
       rw[Hi0.out,Hi1.out,if_neg (by decide),if_neg (by decide)] at hf
       exact hf
      have hany:List.any [str [99,111,117,110,116],str [115,117,109],str [109,105,110],str [109,97,120]] (Wd.says ⟨xk,xs,xn,xa⟩)=(jO W s (str [99,111,117,110,116])||jO W s (str [115,117,109])||jO W s (str [109,105,110])||jO W s (str [109,97,120])):=by
       unfold jO
       rw[Hx.out]
       simp[Bool.or_assoc]
      rw[hany] at hIs
      obtain⟨bf,hbf⟩:∃ bf,(jO W s (str [99,111,117,110,116])||jO W s (str [115,117,109])||jO W s (str [109,105,110])||jO W s (str [109,97,120]))=bf:=⟨_,rfl⟩
      rw[hbf] at hIs hfold
      have Hbf:=ae hbf
      have VR:=ae hfold
      simp only[str,List.map_cons,List.map_nil] at hIs
      have HIs:=ae hIs
      clear hIs hany hfold hbf
      go_wp2_with (fail)
      refine HIs.out.mono ?_
      rintro e w6 ⟨rfl,hP,hb6⟩
      have HP6:=ae (And.intro hP (HP1.out.2.trans' (But.of_below hb6)))
      clear hP hb6
      cases bf with
      | true =>
       have hf:=VR.out
       rw[if_pos rfl] at hf
       subst hf
       have hc:=Hbf.out
       have hm1:1≤m:=by
        simp only[Bool.or_eq_true] at hc
        rcases hc with ((hc|hc)|hc)|hc
        ·exact Qz.out _ hc uI.out
        ·exact Qz.out _ hc uI.out
        ·exact Qz.out _ hc uI.out
        ·exact Qz.out _ hc uI.out
       have YF:=ae (Xr gp gc gw W E m (HE.out hm1) HUE.out s w6 HP6.out.1 Hf.out)
       clear hc hm1
       generalize tY W E s=fin at *
       go_wp2_with (fail)
       refine YF.out.mono ?_
       rintro e w7 ⟨row,D,rfl,hx,hP,hB⟩
       obtain⟨A9,m9,c9,rfl⟩:=bP hx
       have uz:=HP6.out.2.trans' hB
       have Qx:=VQ.out _ uz
       obtain⟨v0,v1,v2,v3,v4,v5,vl⟩:=aH Qx
       have f27:=Qx.frozen
       have hs6:=HP6.out.2.size
       have hl6:=H3.out.2.2.1.lt
       have H:=ae (eH hx hP ((But.of_below H3.out.2.1).trans' uz) Qx (Nat.le_refl _) (by omega) Hz.out)
       clear hx hP hB uz Qx hs6 hl6
       go_wp2
       rw[bJ]
       exact bodyPost_ret (fA Tryz.results196 rfl H.out.1 rfl) rfl H.out.2
      | false =>
       have hf:=VR.out
       rw[if_neg (by decide)] at hf
       obtain⟨g0,g1,g2,g3,gg⟩:=cells4 HP6.out.1.blk
       have hIs:=xg HP6.out.1 [str [40]] 1 w6.heap.size rfl rfl (by omega)
       rw[Hx.out] at hIs
       have hany:List.any [str [40]] (Wd.says ⟨xk,xs,xn,xa⟩)=jO W s (str [40]):=by
        unfold jO
        rw[Hx.out]
        simp
       rw[hany] at hIs
       obtain⟨bp,hbp⟩:∃ bp,jO W s (str [40])=bp:=⟨_,rfl⟩
       rw[hbp] at hIs hf
       have Hbp:=ae hbp
       have Hf7:=ae hf
       simp only[str,List.map_cons,List.map_nil] at hIs
       have anB:=ae hIs
       clear hIs hany hf hbp
       go_wp2_with (fail)
       refine anB.out.mono ?_
       rintro e w7 ⟨rfl,hP,hb7⟩
       have HP7:=ae (And.intro hP (HP6.out.2.trans' (But.of_below hb7)))
       clear hP hb7
       cases bp with
       | true =>
        have hm1:=Qz.out _ Hbp.out uI.out
        have hf:=Hf7.out
        rw[if_pos rfl,Xw] at hf
        have HF:=ae hf
        clear hf Hf7 VR Hfc bn
        have anC:ak W [str [40]] s=s.on:=by
         unfold ak ak ay
         rw[uI.out,Hbp.out]
         rfl
        have Xu:=ae (dR gp gc gw w7.heap.size W s (str [40]) w7 HP7.out.1 rfl)
        have Hen:=ae (fun w2 (hW:aW gp gc gw W (ak W [str [40]] s) w2)=>kX gp gc gw W (ak W [str [40]] s) w2 hW)
        have hfit:Fit W m (aG (ak W [str [40]] s)):=Fit.ge (by rw[anC];exact Fit.on Hf.out) (dW _)
        have Hex:=ae (fun w2 hW=>HE.out hm1 (aG (ak W [str [40]] s)) w2 hW hfit)
        generalize ak W [str [40]] s=s8 at *
        generalize E (aG s8)=b at *
        obtain⟨bx,sb⟩:=b
        have ahP:=ae (fun (g:Nat) (w2:World) (hW:aW gp gc gw W sb w2) (hg:g=w2.heap.size)=>dR gp gc gw g W sb (str [41]) w2 hW hg)
        have Hlv:=ae (fun w2 (hW:aW gp gc gw W (ak W [str [41]] sb) w2)=>kW gp gc gw W (ak W [str [41]] sb) w2 hW)
        go_wp2_with (fail)
        refine Xu.out.mono ?_
        rintro e w8 ⟨rfl,hP,hB⟩
        have HP8:=ae (And.intro hP (HP7.out.2.trans' hB))
        clear hP hB
        go_wp2_with (fail)
        refine(Hen.out _ HP8.out.1).mono ?_
        rintro e w9 ⟨rfl,hP,hB⟩
        have Uj:=ae (And.intro hP (HP8.out.2.trans' hB))
        clear hP hB
        go_wp2_with (fail)
        refine(Hex.out _ Uj.out.1).mono ?_
        rintro e w10 ⟨row,D,rfl,hx,hP,hB⟩
        obtain⟨A9,m9,c9,rfl⟩:=bP hx
        have hal:=(Below.refl w10.heap.size w10).alloc (Nat.le_refl _) (.cells #[.int .i64 bx.op,.int .i64 bx.n,.string bx.s,.string bx.name,.string bx.src,.slice A9 m9 c9] 55)
        have hk4:af (w10.alloc (.cells #[.int .i64 bx.op,.int .i64 bx.n,.string bx.s,.string bx.name,.string bx.src,.slice A9 m9 c9] 55)) w10.heap.size 55 #[.int .i64 bx.op,.int .i64 bx.n,.string bx.s,.string bx.name,.string bx.src,.slice A9 m9 c9]:=af.laid _ _ _
        obtain⟨tJ,ahQ⟩:∃ tJ,Hid (tJ=w10.alloc (.cells #[.int .i64 bx.op,.int .i64 bx.n,.string bx.s,.string bx.name,.string bx.src,.slice A9 m9 c9] 55)):=⟨_,rfl⟩
        have akO:w10.heap.size+1=tJ.heap.size:=by rw[ahQ.out];simp
        have akP:w.heap.size<w9.heap.size∧w.heap.size<w10.heap.size:=by have h1:=H3.out.2.2.1.lt;have h2:=Uj.out.2.size;have h3:=hB.size;omega
        have DY:=ae (And.intro (hP.below hal) (And.intro (Uj.out.2.trans' (hB.trans' (But.of_below hal))) (And.intro (hx.below hal) (And.intro hk4 (And.intro akO akP)))))
        rw[← ahQ.out] at DY
        clear hx hP hB hal hk4 akO akP
        go_wp2_with (fail)
        rw[← ahQ.out]
        refine(ahP.out _ _ DY.out.1 DY.out.2.2.2.2.1).mono ?_
        rintro e w12 ⟨rfl,hP,hB⟩
        have akQ:=ae (And.intro hP hB)
        clear hP hB
        go_wp2_with (fail)
        refine(Hlv.out _ akQ.out.1).mono ?_
        rintro e Sm ⟨rfl,hP,hB⟩
        have aei:=akQ.out.2.trans' hB
        have agx:=ah DY.out.2.2.2.1 aei (by have:=Hz.out;have:=DY.out.2.2.2.2.2;omega)
        obtain⟨z0,z1,z2,z3,z4,z5,zl⟩:=aH agx
        have akR:=DY.out.2.2.1.kept (fK aei (fun k (hk:w9.heap.size≤k)=>by have:=Hz.out;have:=DY.out.2.2.2.2.2;omega))
        have FY:=DY.out.2.1.trans' aei
        have VS:=VQ.out _ FY
        obtain⟨v0,v1,v2,v3,v4,v5,vl⟩:=aH VS
        have f213:=VS.frozen
        have H:=ae (eH (w3:=w9) akR hP ((But.of_below H3.out.2.1).trans' FY) VS (Nat.le_refl _) DY.out.2.2.2.2.2.1 Hz.out)
        clear hP hB aei agx akR FY VS
        go_wp2
        rw[bJ]
        refine bodyPost_ret (fA Tryz.results196 rfl H.out.1 rfl) rfl ?_
        rw[← HF.out]
        exact H.out.2
       | false =>
        have hf:=Hf7.out
        rw[if_neg (by decide),aeh] at hf
        have HF:=ae hf
        clear hf Hf7 VR Hfc bn
        have Hnm:=ae (fun s' w2 (hW:aW gp gc gw W s' w2)=>lD gp gc gw W s' w2 hW)
        have Hmy:=ae (gX gp gc gw W (aS W s).2 (str [46]))
        have hok1:=jW HP7.out.1 s
        have hok2:=fun s'=>jW HP7.out.1 s'
        have anD:=ae hok2
        have hn1:=Hnm.out s w7 HP7.out.1
        have hcs:=bC W (str [46]) (aS W s).2
        generalize aS W s=a at *
        obtain⟨na,sa⟩:=a
        simp only at hn1 Hmy hok1 hcs HF
        have akS:=ae hok1
        have Hn1:=ae hn1
        clear hn1 hok1 hok2
        go_wp2_with (fail)
        refine Hn1.out.mono ?_
        rintro e w8 ⟨rfl,hP,hB⟩
        have hal:=(Below.refl w8.heap.size w8).alloc (Nat.le_refl _) (.cells #[.int .i64 4,.int .i64 0,.string ⟨#[]⟩,.string na,.string ⟨#[]⟩,.slice none 0 0] 55)
        have hk5:af (w8.alloc (.cells #[.int .i64 4,.int .i64 0,.string ⟨#[]⟩,.string na,.string ⟨#[]⟩,.slice none 0 0] 55)) w8.heap.size 55 #[.int .i64 4,.int .i64 0,.string ⟨#[]⟩,.string na,.string ⟨#[]⟩,.slice none 0 0]:=af.laid _ _ _
        obtain⟨w9,Hw9⟩:∃ w9,Hid (w9=w8.alloc (.cells #[.int .i64 4,.int .i64 0,.string ⟨#[]⟩,.string na,.string ⟨#[]⟩,.slice none 0 0] 55)):=⟨_,rfl⟩
        have hl8:w.heap.size<w8.heap.size:=by have h1:=H3.out.2.2.1.lt;have h2:=HP7.out.2.size;have h3:=hB.size;omega
        have Uj:=ae (And.intro (hP.below hal) (And.intro (HP7.out.2.trans' (hB.trans' (But.of_below hal))) (And.intro hk5 hl8)))
        rw[← Hw9.out] at Uj
        clear hP hB hal hk5 hl8
        have hm:=Hmy.out w9 Uj.out.1
        rcases hcs with h|⟨h,_,_⟩
        ·rw[h] at hm HF
         simp only[str] at hm
         have Hm:=ae hm
         clear hm h
         go_wp2_with (fail)
         rw[← Hw9.out]
         refine Hm.out.mono ?_
         rintro e w10 ⟨rfl,hP,hB⟩
         have agy:=ah Uj.out.2.2.1 hB (by have:=Hz.out;have:=Uj.out.2.2.2;omega)
         obtain⟨z0,z1,z2,z3,z4,z5,zl⟩:=aH agy
         have FY:=Uj.out.2.1.trans' hB
         have VT:=VQ.out _ FY
         obtain⟨v0,v1,v2,v3,v4,v5,vl⟩:=aH VT
         have f210:=VT.frozen
         have H:=ae (eH (x:=.mk 4 0 nil0 na nil0 []) (w3:=w1) (vC (Fr w1) w10 4 0 ⟨#[]⟩ na (by decide) (by decide) (by constructor<;>simp) (by unfold okS;exact Nat.zero_le _) akS.out) hP ((But.of_below H3.out.2.1).trans' FY) VT (Nat.le_refl _) (by have:=jM.out;omega) Hz.out)
         clear hP hB agy FY VT
         go_wp2
         rw[bJ]
         refine bodyPost_ret (fA Tryz.results196 rfl H.out.1 rfl) rfl ?_
         rw[← HF.out]
         exact H.out.2
        ·rw[h] at hm HF
         simp only[str] at hm
         have Hm:=ae hm
         have hn2:=fun w2 hW=>Hnm.out sa.on w2 hW
         have hok2:=anD.out sa.on
         simp only at HF
         generalize aS W sa.on=b at *
         obtain⟨nb,sb⟩:=b
         simp only at hn2 hok2 HF
         have Hn2:=ae hn2
         have anF:=ae hok2
         clear hm h hn2 hok2
         go_wp2_with (fail)
         rw[← Hw9.out]
         refine Hm.out.mono ?_
         rintro e w10 ⟨rfl,hP,hB⟩
         have akT:=ae (And.intro hP hB)
         clear hP hB
         go_wp2_with (fail)
         refine(Hn2.out _ akT.out.1).mono ?_
         rintro e tJ ⟨rfl,hP,hB⟩
         have vz:=akT.out.2.trans' hB
         have abh:=ah Uj.out.2.2.1 vz (by have:=Hz.out;have:=Uj.out.2.2.2;omega)
         obtain⟨z0,z1,z2,z3,z4,z5,zl⟩:=aH abh
         have aqK:=abh.frozen
         have FY:=Uj.out.2.1.trans' vz
         have VU:=VQ.out _ FY
         obtain⟨v0,v1,v2,v3,v4,v5,vl⟩:=aH VU
         have f211:=VU.frozen
         have n1:w8.heap.size≠w.heap.size:=by have:=Uj.out.2.2.2;omega
         have n2:w.heap.size≠w8.heap.size:=by have:=Uj.out.2.2.2;omega
         have DY:=ae (And.intro hP (And.intro FY VU))
         clear hP hB vz FY VU abh
         go_wp2
         rw[DW tJ w8.heap.size 0 2]
         have Dq:=xe tJ w8.heap.size 0 2 (.int .i64 5) (.string nb)
         generalize DV tJ w8.heap.size 0 2 (.int .i64 5) (.string nb)=w12 at *
         rw[bJ]
         have aqL:gp<w8.heap.size∧gc<w8.heap.size∧gw<w8.heap.size∧w.heap.size≤w8.heap.size:=by have:=Hz.out;have:=Uj.out.2.2.2;omega
         have anG:=((But.of_below H3.out.2.1).trans' DY.out.2.1).trans Dq (fun i hi=>.inr (by omega))
         have hk12:=DY.out.2.2.ag (Dq.block _ DY.out.2.2.lt n2)
         have H:=eH (x:=.mk 5 0 nb na nil0 []) (w3:=w1) (vC (Fr w1) w12 5 0 nb na (by decide) (by decide) (by constructor<;>simp) anF.out akS.out) (DY.out.1.elsewhere Dq (by omega)) anG hk12 (Nat.le_refl _) (by have:=jM.out;omega) Hz.out
         refine bodyPost_ret (fA Tryz.results196 rfl H.1 rfl) rfl ?_
         rw[← HF.out]
         exact H.2
     ·rw[h] at hm
      simp only[str] at hm
      have Hm:=ae hm
      have hi:jO W s (str [102,97,108,115,101])=true:=by rw[Iu uI.out,h]
      have hf:=Hfc.out
      rw[Hi0.out,if_neg (by decide),hi,if_pos rfl] at hf
      subst hf
      clear hm hi h
      go_wp2_with (fail)
      refine Hm.out.mono ?_
      rintro e w9 ⟨rfl,hP,hB⟩
      have hB2:=HP0.out.2.trans' hB
      have vF:=ah H3.out.2.2.1 hB2 (by have:=Hz.out;omega)
      obtain⟨v0,v1,v2,v3,v4,v5,vl⟩:=aH vF
      have f24:=vF.frozen
      have H:=ae (eH (x:=.mk 3 0 nil0 nil0 nil0 []) (w3:=w1) (vC (Fr w1) _ 3 0 ⟨#[]⟩ ⟨#[]⟩ (by decide) (by decide) (by constructor<;>simp) (by unfold okS;exact Nat.zero_le _) (by unfold okS;exact Nat.zero_le _)) hP ((But.of_below H3.out.2.1).trans' hB2) vF (Nat.le_refl _) (by have:=jM.out;omega) Hz.out)
      clear hP hB vF
      go_wp2
      rw[bJ]
      exact bodyPost_ret (fA Tryz.results196 rfl H.out.1 rfl) rfl H.out.2
    ·rw[h] at hm
     simp only[str] at hm
     have Hm:=ae hm
     have hi:jO W s (str [116,114,117,101])=true:=by rw[Iu uI.out,h]
     have hf:=Hfc.out
     rw[hi,if_pos rfl] at hf
     subst hf
     clear hm hi h
     go_wp2_with (fail)
     refine Hm.out.mono ?_
     rintro e w9 ⟨rfl,hP,hB⟩
     have vF:=ah H3.out.2.2.1 hB (by have:=Hz.out;omega)
     obtain⟨v0,v1,v2,v3,v4,v5,vl⟩:=aH vF
     have f24:=vF.frozen
     have H:=ae (eH (x:=.mk 3 1 nil0 nil0 nil0 []) (w3:=w1) (vC (Fr w1) _ 3 1 ⟨#[]⟩ ⟨#[]⟩ (by decide) (by decide) (by constructor<;>simp) (by unfold okS;exact Nat.zero_le _) (by unfold okS;exact Nat.zero_le _)) hP ((But.of_below H3.out.2.1).trans' hB) vF (Nat.le_refl _) (by have:=jM.out;omega) Hz.out)
     clear hP hB vF
     go_wp2
     rw[bJ]
     exact bodyPost_ret (fA Tryz.results196 rfl H.out.1 rfl) rfl H.out.2
theorem VV {one:au→Ex×au} (h:∀ s,Ge s (one s).2):Up one:=fun s=>h s
theorem FZ (gp gc gw:Nat) (W:aV):∀ f,1≤f→f≤W.l.length+1→fB gp gc gw W 126 (ik W f) f:=by
 intro f
 induction f with
 | zero=>intro h;omega
 | succ f ih =>
  intro _ hle
  have hU:=Iq W f
  have h1:=Qy gp gc gw W (ik W f) f (fun h=>ih h (by omega)) hU
  have h2:=Qv gp gc gw W (ik W f) (f+1) h1
  have h3:fB gp gc gw W 193 (uG W (ik W f)) (f+1):=MR gp gc gw W (dG W (ik W f) W.fuel) (f+1) hle h2 (VV (xW W hU _))
  have h4:fB gp gc gw W 186 (sumP W (ik W f)) (f+1):=aa5 gp gc gw W (uG W (ik W f)) (f+1) hle h3 (VV (zQ W hU))
  have h5:=aba gp gc gw W (ik W f) (f+1) h4 (EL W hU)
  have h6:fB gp gc gw W 146 (Jb W (ik W f)) (f+1):=Xk gp gc gw W (notP W (ik W f) W.fuel) (f+1) hle h5 (VV (MS W hU _))
  exact Xl gp gc gw W (Jb W (ik W f)) (f+1) hle h6 (VV (MV W hU))
theorem rZ (gp gc gw:Nat) (W:aV) (s:au) (w:World) (h:aW gp gc gw W s w):Calls Tryz.prog 126 #[.pointer (some ⟨gp,0,none⟩)] w (jv gp gc gw W (aZ W s).2 (aZ W s).1 w) :=
 FZ gp gc gw W W.fuel (by unfold aV.fuel;omega) (by unfold aV.fuel;omega) s w h (DU W s)
theorem dJ (W:aV) (s:au):Ge s (aZ W s).2:=Iq W _ s
theorem xh (gp gc gw:Nat) (W:aV) (s:au) (w:World) (h:aW gp gc gw W s w):Calls Tryz.prog 124 #[.pointer (some ⟨gp,0,none⟩)] w (jv gp gc gw W (bG W (aZ W) s).2 (bG W (aZ W) s).1 w) :=
 Jj gp gc gw W (ik W W.fuel) W.fuel (FZ gp gc gw W W.fuel (by unfold aV.fuel;omega) (by unfold aV.fuel;omega)) s w h (DU W s)
end Go.Proofs.YtjjfkhbajidmdaaGreatDoor
namespace Go.Afx
open Go.RowKit
section
variable (W:aV)
def jC {α:Type} (one:au→α×au):Nat→List α→au→List α×au
 | 0,l,s=>(l,s)
 | f+1,l,s=>if (ay W (str [44]) s).1 then jC one f (l++[(one (ay W (str [44]) s).2).1]) (one (ay W (str [44]) s).2).2 else (l,s)
def iE {α:Type} (one:au→α×au) (s:au):List α×au:=jC W one W.fuel [(one s).1] (one s).2
def fG (s:au):List Ex×au:=iE W (aZ W) s
def st0:St:=.mk 0 nil0 nil0 0 [] [] [] []
def iF (op:Int) (s:au):St×au :=
 let a:=aS W s
 let e:=aZ W (ak W [(str [61])] a.2)
 (.mk op a.1 nil0 0 [] [e.1] [] [],e.2)
def oU (op:Int) (s:au):St×au :=
 let a:=aS W s
 let l:=fG W (aG (ak W [(str [40])] a.2))
 (.mk op nil0 a.1 0 [] l.1 [] [],dw (ak W [(str [41])] l.2))
def kY (s:au):(ByteArray×Ex)×au :=
 let a:=aS W s
 let e:=aZ W (ak W [(str [61])] a.2)
 ((a.1,e.1),e.2)
def jX (s:au):St×au :=
 let r:=bF W s
 let a:=bG W (aZ W) r.2
 let l:=iE W (kY W) (ak W [(str [115,101,116])] a.2)
 (.mk 4 r.1.1 r.1.2 0 (l.1.map (·.1)) (a.1::l.1.map (·.2)) [] [],l.2)
def dH (s:au):St×au :=
 if (ay W (str [108,101,116]) s).1 then iF W 1 (ay W (str [108,101,116]) s).2
 else if (ay W (str [115,101,116]) s).1 then iF W 2 (ay W (str [115,101,116]) s).2
 else if (ay W (str [105,110,115,101,114,116]) s).1 then oU W 3 (ay W (str [105,110,115,101,114,116]) s).2
 else if (ay W (str [101,109,105,116]) s).1 then oU W 8 (ay W (str [101,109,105,116]) s).2
 else if (ay W (str [117,112,100,97,116,101]) s).1 then jX W (ay W (str [117,112,100,97,116,101]) s).2
 else if (ay W (str [100,101,108,101,116,101]) s).1 then
  let r:=bF W (ay W (str [100,101,108,101,116,101]) s).2
  let a:=bG W (aZ W) r.2
  (.mk 5 r.1.1 r.1.2 0 [] [a.1] [] [],a.2)
 else if (ay W (str [97,98,111,114,116]) s).1 then
  let e:=aZ W (ay W (str [97,98,111,114,116]) s).2
  (.mk 9 nil0 nil0 0 [] [e.1] [] [],e.2)
 else if (ay W (str [114,101,112,108,121]) s).1 then
  let l:=fG W (ay W (str [114,101,112,108,121]) s).2
  (.mk 10 nil0 nil0 0 [] l.1 [] [],l.2)
 else (st0,s.fail)
def kE (s:au):Int×au :=
 let s1:=if (W.look s.at_).kind=1∧(W.look s.at_).n=0 then s.fail else s
 (min (mP W s1).1 1001,(mP W s1).2)
section
variable (B:au→List St×au)
def MZ (s:au):St×au :=
 let r:=bF W s
 let a:=bG W (aZ W) r.2
 let n:=if (ay W (str [108,105,109,105,116]) a.2).1 then kE W (ay W (str [108,105,109,105,116]) a.2).2 else (0,a.2)
 let b:=B n.2
 (.mk 6 r.1.1 r.1.2 n.1 [] [a.1] b.1 [],b.2)
def ifP (s:au):St×au :=
 let e:=aZ W s
 let b:=B e.2
 if (ay W (str [101,108,115,101]) b.2).1 then (.mk 7 nil0 nil0 0 [] [e.1] b.1 (B (ay W (str [101,108,115,101]) b.2).2).1,(B (ay W (str [101,108,115,101]) b.2).2).2)
 else (.mk 7 nil0 nil0 0 [] [e.1] b.1 [],b.2)
def jD (s:au):St×au :=
 if (ay W (str [102,111,114]) s).1 then MZ W B (ay W (str [102,111,114]) s).2
 else if (ay W (str [105,102]) s).1 then ifP W B (ay W (str [105,102]) s).2
 else
  let x:=dH W s
  (x.1,ak W [(str [59])] x.2)
end
def jc (one:au→St×au):Nat→List St→au→List St×au
 | 0,l,s=>(l,s)
 | f+1,l,s=>if !s.bad&&!jO W s (str [125]) then jc one f (l++[(one s).1]) (one s).2 else (l,s)
def gG:Nat→au→List St×au
 | 0,s=>([],s)
 | f+1,s =>
  let l:=jc W (jD W (gG f)) W.fuel [] (aG (ak W [(str [123])] s))
  (l.1,dw (ak W [(str [125])] l.2))
def zS (s:au):List St×au:=gG W W.fuel s
def vT (s:au):Int×au :=
 if (ay W (str [105,110,116]) s).1 then (1,(ay W (str [105,110,116]) s).2) else if (ay W (str [116,101,120,116]) s).1 then (2,(ay W (str [116,101,120,116]) s).2) else if (ay W (str [98,111,111,108]) s).1 then (3,(ay W (str [98,111,111,108]) s).2) else (0,s.fail)
def dO (s:au):Co×au :=
 let a:=aS W s
 let k:=vT W a.2
 (⟨a.1,k.1⟩,k.2)
def uM (s:au):Int×au:=if (ay W (str [102,117,101,108]) s).1 then (min (mP W (ay W (str [102,117,101,108]) s).2).1 2001,(mP W (ay W (str [102,117,101,108]) s).2).2) else (100,s)
def jT (s:au):Pr×au :=
 let a:=aS W (ak W [(str [112,114,111,99])] s)
 let s1:=aG (ak W [(str [40])] a.2)
 let l:=if jO W s1 (str [41]) then ([],s1) else iE W (dO W) s1
 let s2:=dw (ak W [(str [41])] l.2)
 let o:=if (ay W (str [111,110]) s2).1 then aS W (ay W (str [111,110]) s2).2 else (nil0,s2)
 let f:=if (ay W (str [111,110]) s2).1 then (nil0,o.2) else if (ay W (str [102,114,111,109]) s2).1 then aS W (ay W (str [102,114,111,109]) s2).2 else (nil0,s2)
 let u:=uM W f.2
 let b:=zS W u.2
 (⟨a.1,f.1,o.1,u.1,l.1,b.1⟩,b.2)
end
def au.start:au:=⟨0,0,false,false⟩
end Go.Afx

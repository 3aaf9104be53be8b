/- Parts of this proof, one behind the other: ParL, ParM. -/
import Derived.Test.YtdgapmnojmhllaaGreatDoorPf26
set_option maxRecDepth 1000000
set_option maxHeartbeats 40000000
namespace Go.Proofs.YtdgapmnojmhllaaGreatDoor
open Go.RowKit Go.Afx
theorem leaf_at (F:Nat→Prop) (w:World) (op n:Int) (sx nm:ByteArray) (h0:0≤op) (h1:op≤100) (hn:okI n) (hs:okS sx) (hm:okS nm):ExAt F 1 w [.int .i64 op,.int .i64 n,.string sx,.string nm,.string ⟨#[]⟩,.slice none 0 0] (.mk op n sx nm nil0 []):=by
 have h2:okS nil0:=by unfold okS;exact Nat.zero_le _
 exact⟨⟨by show _≤op;omega,by show op≤_;omega⟩,hn,hs,hm,h2,none,0,0,rfl,LsAt.nil_ _ _ _ _⟩
theorem isP_may {W:Wds} {s:PSt} {t:ByteArray} (hb:s.bad=false):isP W s t=(mayP W t s).1:=by
 unfold mayP
 rw[hb]
 cases h:isP W s t<;>simp
theorem parenP_eq (W:Wds) (E:PSt→Ex×PSt) (s:PSt):parenP W E s=((E (enterP (mustP W [str [40]] s))).1,leaveP (mustP W [str [41]] (E (enterP (mustP W [str [40]] s))).2)):=rfl
theorem varP_eq (W:Wds) (s:PSt):varP W s=if (mayP W (str [46]) (nameP W s).2).1 then (.mk 5 0 (nameP W (mayP W (str [46]) (nameP W s).2).2).1 (nameP W s).1 nil0 [],(nameP W (mayP W (str [46]) (nameP W s).2).2).2) else (.mk 4 0 nil0 (nameP W s).1 nil0 [],(nameP W s).2):=rfl
theorem look_any_of {gp gc gw:Nat} {W:Wds} {s:PSt} {w:World} (h:PAt gp gc gw W s w) (ts:List ByteArray) (n g:Nat) (hg:g=w.heap.size) (hn:ts.length=n) (hm:n≤1000) :
  Calls Tryz.prog 79 #[.pointer (some ⟨gc,0,none⟩),.slice (some ⟨g,0,none⟩) n n] (w.alloc (.cells (ts.map Value.string).toArray 9)) fun e w'=>e=.returned (.bool (ts.any (W.look s.at_).says))∧PAt gp gc gw W s w'∧Below w.heap.size w w':=by
 have hb:=(Below.refl w.heap.size w).alloc (Nat.le_refl _) (.cells (ts.map Value.string).toArray 9)
 refine(is_any _ gc s.at_ W _ n n ts _ (h.below hb).cu (TxsAt.lit 9 ts n hg hn hm)).mono ?_
 rintro e w' ⟨rfl,hb2⟩
 have hb3:=hb.trans (hb2.mono hb.size)
 exact⟨rfl,h.below hb3,hb3⟩
theorem pSingle_any (gp gc gw:Nat) (W:Wds) (E:PSt→Ex×PSt) (m:Nat) (hE:1≤m→TakesE gp gc gw W 24 E m) (hUE:∀ s,Ge s (E s).2):TakesE gp gc gw W 207 (singleP W E) (m+1):=by
 intro s w h hf
 have hz:=And.intro h.lt.1 (And.intro h.lt.2 h.wl)
 obtain⟨w1,Hw1⟩:∃ w1,Hid (w1=w.alloc (.cells zero6 32)):=⟨_,rfl⟩
 have hb1:Below w.heap.size w w1:=by rw[Hw1.out];exact(Below.refl _ _).alloc (Nat.le_refl _) _
 have hk2:IsBlk w1 w.heap.size 32 zero6:=by rw[Hw1.out];exact IsBlk.laid _ _ _
 have hsz:w1.heap.size=w.heap.size+1:=by rw[Hw1.out];simp
 have h1:=h.below hb1
 obtain⟨c0,c1,c2,c3,hg⟩:=cells4 h1.blk
 have hwd:=word_any _ gc s.at_ W w1 h1.cu
 have hokw:=h.okw s.at_
 unfold singleP
 have hfuel:∀ t,isP W s t=true→s.bad=false→1≤m:=fun t ht hb=>by
  have hlt:=says_in ht
  rcases hf with hf|hf
  ·rw[hb] at hf;cases hf
  ·omega
 generalize hx:W.look s.at_=x at *
 obtain⟨xk,xs,xn,xa⟩:=x
 unfold wrow at hwd
 have Hwd:=Lhd hwd
 have Hx:=Lhd hx
 have Hokw:=Lhd hokw
 have Hsz:=Lhd hsz
 have Hb1:=Lhd hb1
 have Hk2:=Lhd hk2
 have Hz:=Lhd hz
 have H1:=Lhd h1
 have Hf:=Lhd hf
 have Hfuel:=Lhd hfuel
 have HE:=Lhd hE
 have HUE:=Lhd hUE
 clear hwd hx hokw hsz hb1 hk2 hz h1 hf hE hUE h hfuel
 generalize hfin:(if s.bad=true then (ex0,s) else _:Ex×PSt)=fin
 have Hfin:=Lhd hfin
 clear hfin
 go_enter Tryz.func207,Tryz.ntmps207
 go_upto_region 1 with (fail)
 rw[← Hw1.out]
 go_wp2_with (fail)
 refine Hwd.out.mono ?_
 rintro e w2 ⟨rfl,hb2⟩
 have hP2:=H1.out.below hb2
 have hal:=(Below.refl w2.heap.size w2).alloc (Nat.le_refl _) (.cells #[.int .i64 xk,.string xs,.int .i64 xn,.int .i64 xa] 125)
 have hk22:=Hk2.out.as_was (hb2.block _ Hk2.out.lt)
 have hk3:IsBlk (w2.alloc (.cells #[.int .i64 xk,.string xs,.int .i64 xn,.int .i64 xa] 125)) w2.heap.size 125 #[.int .i64 xk,.string xs,.int .i64 xn,.int .i64 xa]:=IsBlk.laid _ _ _
 obtain⟨w3,Hw3⟩:∃ w3,Hid (w3=w2.alloc (.cells #[.int .i64 xk,.string xs,.int .i64 xn,.int .i64 xa] 125)):=⟨_,rfl⟩
 have hzz:w.heap.size<w2.heap.size:=by have:=hb2.size;have:=Hsz.out;omega
 have H3:=Lhd (And.intro (hP2.below hal) (And.intro ((Hb1.out.trans (hb2.mono (by have:=Hsz.out;omega))).trans (hal.mono (by omega))) (And.intro (hk22.as_was (hal.block _ hk22.lt)) (And.intro hk3 hzz))))
 rw[← Hw3.out] at H3
 clear hP2 hal hk22 hk3 hb2 hzz
 obtain⟨d0,d1,d2,d3,dg⟩:=cells4 H3.out.1.blk
 obtain⟨x0,x1,x2,x3,x4,x5,xl⟩:=cells6 H3.out.2.2.1
 obtain⟨y0,y1,y2,y3,yl⟩:=cells4 H3.out.2.2.2.1
 have f2:=H3.out.2.2.1.frozen
 obtain⟨bad,hbad⟩:∃ b,s.bad=b:=⟨_,rfl⟩
 rw[hbad] at d3
 have Hbad:=Lhd hbad
 clear hbad c0 c1 c2 c3 hg
 go_upto_region 2 with (fail)
 rw[← Hw3.out]
 cases bad with
 | true =>
  have hf:=Hfin.out
  rw[Hbad.out,if_pos rfl] at hf
  subst hf
  have hP:=H3.out.1
  have H:=Lhd (gives_of (x:=ex0) (w3:=w1) (leaf_at (Fr w1) w3 0 0 ⟨#[]⟩ ⟨#[]⟩ (by decide) (by decide) (by constructor<;>simp) (by unfold okS;exact Nat.zero_le _) (by unfold okS;exact Nat.zero_le _)) hP (But.of_below H3.out.2.1) H3.out.2.2.1 (Nat.le_refl _) (by have:=Hsz.out;omega) Hz.out)
  clear hP
  go_wp2
  rw[lay6_eq]
  exact bodyPost_ret (ret_ex Tryz.results207 rfl H.out.1 rfl) rfl H.out.2
 | false =>
  have hfb:=Hfin.out
  rw[Hbad.out,if_neg (by decide)] at hfb
  have Hfb:=Lhd hfb
  clear hfb
  rcases Classical.em (xk=1) with h1|h1
  ·have hf:=Hfb.out
   rw[if_pos h1] at hf
   subst h1 hf
   have hnum:numP W s=(xn,s.on):=by
    unfold numP
    rw[Hbad.out,Hx.out]
    rfl
   have hn:=pNumber_any gp gc gw W s w3 H3.out.1
   rw[hnum] at hn
   have Hn:=Lhd hn
   clear hn hnum
   go_wp2_with (fail)
   refine Hn.out.mono ?_
   rintro e w4 ⟨rfl,hP,hB⟩
   have hk24:=on2_blk H3.out.2.2.1 hB (by have:=Hz.out;omega)
   obtain⟨v0,v1,v2,v3,v4,v5,vl⟩:=cells6 hk24
   have f24:=hk24.frozen
   have H:=Lhd (gives_of (x:=.mk 1 xn nil0 nil0 nil0 []) (w3:=w1) (leaf_at (Fr w1) _ 1 xn ⟨#[]⟩ ⟨#[]⟩ (by decide) (by decide) Hokw.out.2.2.1 (by unfold okS;exact Nat.zero_le _) (by unfold okS;exact Nat.zero_le _)) hP ((But.of_below H3.out.2.1).trans' hB) hk24 (Nat.le_refl _) (by have:=Hsz.out;omega) Hz.out)
   clear hP hB hk24
   go_wp2
   rw[lay6_eq]
   exact bodyPost_ret (ret_ex Tryz.results207 rfl H.out.1 rfl) rfl H.out.2
  ·have q1:(xk==1)=false:=by simpa using h1
   rcases Classical.em (xk=2) with h2|h2
   ·have hf:=Hfb.out
    rw[if_neg h1,if_pos h2] at hf
    subst h2 hf
    have hn:=kind_any _ gc s.at_ 2 W w3 H3.out.1.cu (by decide)
    rw[Hx.out] at hn
    simp only[if_true,decide_true] at hn
    have Hn:=Lhd hn
    clear hn h1
    go_wp2_with (fail)
    refine Hn.out.mono ?_
    rintro e w4 ⟨rfl,hc,hb4⟩
    have hP:=H3.out.1.cursor (s':=s.on) hb4 hc rfl rfl rfl
    have hB:=sub2r (gp:=gp) hb4
    have hk34:=H3.out.2.2.2.1.as_was (hb4.block _ H3.out.2.2.2.1.lt (by have:=Hz.out;have:=H3.out.2.2.2.2;omega))
    obtain⟨z0,z1,z2,z3,zl⟩:=cells4 hk34
    clear hc hb4 hk34
    have hk24:=on2_blk H3.out.2.2.1 hB (by have:=Hz.out;omega)
    obtain⟨v0,v1,v2,v3,v4,v5,vl⟩:=cells6 hk24
    have f24:=hk24.frozen
    have H:=Lhd (gives_of (x:=.mk 2 0 xs nil0 nil0 []) (w3:=w1) (leaf_at (Fr w1) _ 2 0 xs ⟨#[]⟩ (by decide) (by decide) (by constructor<;>simp) Hokw.out.2.1 (by unfold okS;exact Nat.zero_le _)) hP ((But.of_below H3.out.2.1).trans' hB) hk24 (Nat.le_refl _) (by have:=Hsz.out;omega) Hz.out)
    clear hP hB hk24
    go_wp2
    rw[lay6_eq]
    exact bodyPost_ret (ret_ex Tryz.results207 rfl H.out.1 rfl) rfl H.out.2
   ·have q2:(xk==2)=false:=by simpa using h2
    have hfb:=Hfb.out
    rw[if_neg h1,if_neg h2] at hfb
    have Hfc:=Lhd hfb
    clear hfb h1 h2 Hfb
    have Hmay:=Lhd (fun t w2 (hW:PAt gp gc gw W s w2)=>pMay_any gp gc gw W s t w2 hW)
    have hm:=Hmay.out (str [116,114,117,101]) w3 H3.out.1
    rcases may_cases W (str [116,114,117,101]) s with h|⟨h,_,_⟩
    ·rw [h] at hm
     simp only[str] at hm
     have Hm0:=Lhd hm
     have hi:isP W s (str [116,114,117,101])=false:=by rw[isP_may Hbad.out,h]
     have Hi0:=Lhd hi
     clear hm hi h
     go_wp2_with (fail)
     refine Hm0.out.mono ?_
     rintro e w4 ⟨rfl,hP,hB⟩
     have HP0:=Lhd (And.intro hP hB)
     clear hP hB
     have hm:=Hmay.out (str [102,97,108,115,101]) w4 HP0.out.1
     rcases may_cases W (str [102,97,108,115,101]) s with h|⟨h,_,_⟩
     ·rw [h] at hm
      simp only[str] at hm
      have Hm1:=Lhd hm
      have hi:isP W s (str [102,97,108,115,101])=false:=by rw[isP_may Hbad.out,h]
      have Hi1:=Lhd hi
      clear hm hi h
      go_wp2_with (fail)
      refine Hm1.out.mono ?_
      rintro e w5 ⟨rfl,hP,hB⟩
      have HP1:=Lhd (And.intro hP (HP0.out.2.trans' hB))
      clear hP hB
      have hpers:∀ W2,But (On2 gp gc) w3 W2→IsBlk W2 w.heap.size 32 zero6:=fun W2 hW=>on2_blk H3.out.2.2.1 hW (by have:=Hz.out;omega)
      have Hpers:=Lhd hpers
      clear hpers
      obtain⟨e0,e1,e2,e3,eg⟩:=cells4 HP1.out.1.blk
      have hIs:=look_any_of HP1.out.1 [str [99,111,117,110,116],str [115,117,109],str [109,105,110],str [109,97,120]] 4 w5.heap.size rfl rfl (by omega)
      rw[Hx.out] at hIs
      have hfold:(if isP W s (str [99,111,117,110,116])||isP W s (str [115,117,109])||isP W s (str [109,105,110])||isP W s (str [109,97,120]) then foldP W E s else if isP W s (str [40]) then parenP W E s else varP W s)=fin:=by
       have hf:=Hfc.out
       rw[Hi0.out,Hi1.out,if_neg (by decide),if_neg (by decide)] at hf
       exact hf
      have hany:List.any [str [99,111,117,110,116],str [115,117,109],str [109,105,110],str [109,97,120]] (Wd.says ⟨xk,xs,xn,xa⟩)=(isP W s (str [99,111,117,110,116])||isP W s (str [115,117,109])||isP W s (str [109,105,110])||isP W s (str [109,97,120])):=by
       unfold isP
       rw[Hx.out]
       simp[Bool.or_assoc]
      rw[hany] at hIs
      obtain⟨bf,hbf⟩:∃ bf,(isP W s (str [99,111,117,110,116])||isP W s (str [115,117,109])||isP W s (str [109,105,110])||isP W s (str [109,97,120]))=bf:=⟨_,rfl⟩
      rw[hbf] at hIs hfold
      have Hbf:=Lhd hbf
      have Hfold:=Lhd hfold
      simp only[str,List.map_cons,List.map_nil] at hIs
      have HIs:=Lhd hIs
      clear hIs hany hfold hbf
      go_wp2_with (fail)
      refine HIs.out.mono ?_
      rintro e w6 ⟨rfl,hP,hb6⟩
      have HP6:=Lhd (And.intro hP (HP1.out.2.trans' (But.of_below hb6)))
      clear hP hb6
      cases bf with
      | true =>
       have hf:=Hfold.out
       rw[if_pos rfl] at hf
       subst hf
       have hc:=Hbf.out
       have hm1:1≤m:=by
        simp only[Bool.or_eq_true] at hc
        rcases hc with ((hc|hc)|hc)|hc
        ·exact Hfuel.out _ hc Hbad.out
        ·exact Hfuel.out _ hc Hbad.out
        ·exact Hfuel.out _ hc Hbad.out
        ·exact Hfuel.out _ hc Hbad.out
       have Hfo:=Lhd (pFold_any gp gc gw W E m (HE.out hm1) HUE.out s w6 HP6.out.1 Hf.out)
       clear hc hm1
       generalize foldP W E s=fin at *
       go_wp2_with (fail)
       refine Hfo.out.mono ?_
       rintro e w7 ⟨row,D,rfl,hx,hP,hB⟩
       obtain⟨A9,m9,c9,rfl⟩:=ex_row6 hx
       have hB7:=HP6.out.2.trans' hB
       have hk27:=Hpers.out _ hB7
       obtain⟨v0,v1,v2,v3,v4,v5,vl⟩:=cells6 hk27
       have f27:=hk27.frozen
       have hs6:=HP6.out.2.size
       have hl6:=H3.out.2.2.1.lt
       have H:=Lhd (gives_of hx hP ((But.of_below H3.out.2.1).trans' hB7) hk27 (Nat.le_refl _) (by omega) Hz.out)
       clear hx hP hB hB7 hk27 hs6 hl6
       go_wp2
       rw[lay6_eq]
       exact bodyPost_ret (ret_ex Tryz.results207 rfl H.out.1 rfl) rfl H.out.2
      | false =>
       have hf:=Hfold.out
       rw[if_neg (by decide)] at hf
       obtain⟨g0,g1,g2,g3,gg⟩:=cells4 HP6.out.1.blk
       have hIs:=look_any_of HP6.out.1 [str [40]] 1 w6.heap.size rfl rfl (by omega)
       rw[Hx.out] at hIs
       have hany:List.any [str [40]] (Wd.says ⟨xk,xs,xn,xa⟩)=isP W s (str [40]):=by
        unfold isP
        rw[Hx.out]
        simp
       rw[hany] at hIs
       obtain⟨bp,hbp⟩:∃ bp,isP W s (str [40])=bp:=⟨_,rfl⟩
       rw[hbp] at hIs hf
       have Hbp:=Lhd hbp
       have Hf7:=Lhd hf
       simp only[str,List.map_cons,List.map_nil] at hIs
       have HIs2:=Lhd hIs
       clear hIs hany hf hbp
       go_wp2_with (fail)
       refine HIs2.out.mono ?_
       rintro e w7 ⟨rfl,hP,hb7⟩
       have HP7:=Lhd (And.intro hP (HP6.out.2.trans' (But.of_below hb7)))
       clear hP hb7
       cases bp with
       | true =>
        have hm1:=Hfuel.out _ Hbp.out Hbad.out
        have hf:=Hf7.out
        rw[if_pos rfl,parenP_eq] at hf
        have HF:=Lhd hf
        clear hf Hf7 Hfold Hfc Hfin
        have hmst:mustP W [str [40]] s=s.on:=by
         unfold mustP mustP mayP
         rw[Hbad.out,Hbp.out]
         rfl
        have Hmu:=Lhd (pMust_any gp gc gw w7.heap.size W s (str [40]) w7 HP7.out.1 rfl)
        have Hen:=Lhd (fun w2 (hW:PAt gp gc gw W (mustP W [str [40]] s) w2)=>pEnter_any gp gc gw W (mustP W [str [40]] s) w2 hW)
        have hfit:Fit W m (enterP (mustP W [str [40]] s)):=Fit.ge (by rw[hmst];exact Fit.on Hf.out) (ge_enter _)
        have Hex:=Lhd (fun w2 hW=>HE.out hm1 (enterP (mustP W [str [40]] s)) w2 hW hfit)
        generalize mustP W [str [40]] s=s8 at *
        generalize E (enterP s8)=b at *
        obtain⟨bx,sb⟩:=b
        have Hmu2:=Lhd (fun (g:Nat) (w2:World) (hW:PAt gp gc gw W sb w2) (hg:g=w2.heap.size)=>pMust_any gp gc gw g W sb (str [41]) w2 hW hg)
        have Hlv:=Lhd (fun w2 (hW:PAt gp gc gw W (mustP W [str [41]] sb) w2)=>pLeave_any gp gc gw W (mustP W [str [41]] sb) w2 hW)
        go_wp2_with (fail)
        refine Hmu.out.mono ?_
        rintro e w8 ⟨rfl,hP,hB⟩
        have HP8:=Lhd (And.intro hP (HP7.out.2.trans' hB))
        clear hP hB
        go_wp2_with (fail)
        refine(Hen.out _ HP8.out.1).mono ?_
        rintro e w9 ⟨rfl,hP,hB⟩
        have HP9:=Lhd (And.intro hP (HP8.out.2.trans' hB))
        clear hP hB
        go_wp2_with (fail)
        refine(Hex.out _ HP9.out.1).mono ?_
        rintro e w10 ⟨row,D,rfl,hx,hP,hB⟩
        obtain⟨A9,m9,c9,rfl⟩:=ex_row6 hx
        have hal:=(Below.refl w10.heap.size w10).alloc (Nat.le_refl _) (.cells #[.int .i64 bx.op,.int .i64 bx.n,.string bx.s,.string bx.name,.string bx.src,.slice A9 m9 c9] 32)
        have hk4:IsBlk (w10.alloc (.cells #[.int .i64 bx.op,.int .i64 bx.n,.string bx.s,.string bx.name,.string bx.src,.slice A9 m9 c9] 32)) w10.heap.size 32 #[.int .i64 bx.op,.int .i64 bx.n,.string bx.s,.string bx.name,.string bx.src,.slice A9 m9 c9]:=IsBlk.laid _ _ _
        obtain⟨w11,Hw11⟩:∃ w11,Hid (w11=w10.alloc (.cells #[.int .i64 bx.op,.int .i64 bx.n,.string bx.s,.string bx.name,.string bx.src,.slice A9 m9 c9] 32)):=⟨_,rfl⟩
        have hz11:w10.heap.size+1=w11.heap.size:=by rw[Hw11.out];simp
        have hl10:w.heap.size<w9.heap.size∧w.heap.size<w10.heap.size:=by have h1:=H3.out.2.2.1.lt;have h2:=HP9.out.2.size;have h3:=hB.size;omega
        have HP11:=Lhd (And.intro (hP.below hal) (And.intro (HP9.out.2.trans' (hB.trans' (But.of_below hal))) (And.intro (hx.below hal) (And.intro hk4 (And.intro hz11 hl10)))))
        rw[← Hw11.out] at HP11
        clear hx hP hB hal hk4 hz11 hl10
        go_wp2_with (fail)
        rw[← Hw11.out]
        refine(Hmu2.out _ _ HP11.out.1 HP11.out.2.2.2.2.1).mono ?_
        rintro e w12 ⟨rfl,hP,hB⟩
        have HP12:=Lhd (And.intro hP hB)
        clear hP hB
        go_wp2_with (fail)
        refine(Hlv.out _ HP12.out.1).mono ?_
        rintro e w13 ⟨rfl,hP,hB⟩
        have hB13:=HP12.out.2.trans' hB
        have hk413:=on2_blk HP11.out.2.2.2.1 hB13 (by have:=Hz.out;have:=HP11.out.2.2.2.2.2;omega)
        obtain⟨z0,z1,z2,z3,z4,z5,zl⟩:=cells6 hk413
        have hx13:=HP11.out.2.2.1.kept (fr_on2 hB13 (fun k (hk:w9.heap.size≤k)=>by have:=Hz.out;have:=HP11.out.2.2.2.2.2;omega))
        have hBB:=HP11.out.2.1.trans' hB13
        have hk213:=Hpers.out _ hBB
        obtain⟨v0,v1,v2,v3,v4,v5,vl⟩:=cells6 hk213
        have f213:=hk213.frozen
        have H:=Lhd (gives_of (w3:=w9) hx13 hP ((But.of_below H3.out.2.1).trans' hBB) hk213 (Nat.le_refl _) HP11.out.2.2.2.2.2.1 Hz.out)
        clear hP hB hB13 hk413 hx13 hBB hk213
        go_wp2
        rw[lay6_eq]
        refine bodyPost_ret (ret_ex Tryz.results207 rfl H.out.1 rfl) rfl ?_
        rw[← HF.out]
        exact H.out.2
       | false =>
        have hf:=Hf7.out
        rw[if_neg (by decide),varP_eq] at hf
        have HF:=Lhd hf
        clear hf Hf7 Hfold Hfc Hfin
        have Hnm:=Lhd (fun s' w2 (hW:PAt gp gc gw W s' w2)=>pName_any gp gc gw W s' w2 hW)
        have Hmy:=Lhd (pMay_any gp gc gw W (nameP W s).2 (str [46]))
        have hok1:=name_ok HP7.out.1 s
        have hok2:=fun s'=>name_ok HP7.out.1 s'
        have Hok2:=Lhd hok2
        have hn1:=Hnm.out s w7 HP7.out.1
        have hcs:=may_cases W (str [46]) (nameP W s).2
        generalize nameP W s=a at *
        obtain⟨na,sa⟩:=a
        simp only at hn1 Hmy hok1 hcs HF
        have Hok1:=Lhd hok1
        have Hn1:=Lhd hn1
        clear hn1 hok1 hok2
        go_wp2_with (fail)
        refine Hn1.out.mono ?_
        rintro e w8 ⟨rfl,hP,hB⟩
        have hal:=(Below.refl w8.heap.size w8).alloc (Nat.le_refl _) (.cells #[.int .i64 4,.int .i64 0,.string ⟨#[]⟩,.string na,.string ⟨#[]⟩,.slice none 0 0] 32)
        have hk5:IsBlk (w8.alloc (.cells #[.int .i64 4,.int .i64 0,.string ⟨#[]⟩,.string na,.string ⟨#[]⟩,.slice none 0 0] 32)) w8.heap.size 32 #[.int .i64 4,.int .i64 0,.string ⟨#[]⟩,.string na,.string ⟨#[]⟩,.slice none 0 0]:=IsBlk.laid _ _ _
        obtain⟨w9,Hw9⟩:∃ w9,Hid (w9=w8.alloc (.cells #[.int .i64 4,.int .i64 0,.string ⟨#[]⟩,.string na,.string ⟨#[]⟩,.slice none 0 0] 32)):=⟨_,rfl⟩
        have hl8:w.heap.size<w8.heap.size:=by have h1:=H3.out.2.2.1.lt;have h2:=HP7.out.2.size;have h3:=hB.size;omega
        have HP9:=Lhd (And.intro (hP.below hal) (And.intro (HP7.out.2.trans' (hB.trans' (But.of_below hal))) (And.intro hk5 hl8)))
        rw[← Hw9.out] at HP9
        clear hP hB hal hk5 hl8
        have hm:=Hmy.out w9 HP9.out.1
        rcases hcs with h|⟨h,_,_⟩
        ·rw[h] at hm HF
         simp only[str] at hm
         have Hm:=Lhd hm
         clear hm h
         go_wp2_with (fail)
         rw[← Hw9.out]
         refine Hm.out.mono ?_
         rintro e w10 ⟨rfl,hP,hB⟩
         have hk510:=on2_blk HP9.out.2.2.1 hB (by have:=Hz.out;have:=HP9.out.2.2.2;omega)
         obtain⟨z0,z1,z2,z3,z4,z5,zl⟩:=cells6 hk510
         have hBB:=HP9.out.2.1.trans' hB
         have hk210:=Hpers.out _ hBB
         obtain⟨v0,v1,v2,v3,v4,v5,vl⟩:=cells6 hk210
         have f210:=hk210.frozen
         have H:=Lhd (gives_of (x:=.mk 4 0 nil0 na nil0 []) (w3:=w1) (leaf_at (Fr w1) w10 4 0 ⟨#[]⟩ na (by decide) (by decide) (by constructor<;>simp) (by unfold okS;exact Nat.zero_le _) Hok1.out) hP ((But.of_below H3.out.2.1).trans' hBB) hk210 (Nat.le_refl _) (by have:=Hsz.out;omega) Hz.out)
         clear hP hB hk510 hBB hk210
         go_wp2
         rw[lay6_eq]
         refine bodyPost_ret (ret_ex Tryz.results207 rfl H.out.1 rfl) rfl ?_
         rw[← HF.out]
         exact H.out.2
        ·rw[h] at hm HF
         simp only[str] at hm
         have Hm:=Lhd hm
         have hn2:=fun w2 hW=>Hnm.out sa.on w2 hW
         have hok2:=Hok2.out sa.on
         simp only at HF
         generalize nameP W sa.on=b at *
         obtain⟨nb,sb⟩:=b
         simp only at hn2 hok2 HF
         have Hn2:=Lhd hn2
         have Hok3:=Lhd hok2
         clear hm h hn2 hok2
         go_wp2_with (fail)
         rw[← Hw9.out]
         refine Hm.out.mono ?_
         rintro e w10 ⟨rfl,hP,hB⟩
         have HP10:=Lhd (And.intro hP hB)
         clear hP hB
         go_wp2_with (fail)
         refine(Hn2.out _ HP10.out.1).mono ?_
         rintro e w11 ⟨rfl,hP,hB⟩
         have hB11:=HP10.out.2.trans' hB
         have hk511:=on2_blk HP9.out.2.2.1 hB11 (by have:=Hz.out;have:=HP9.out.2.2.2;omega)
         obtain⟨z0,z1,z2,z3,z4,z5,zl⟩:=cells6 hk511
         have f511:=hk511.frozen
         have hBB:=HP9.out.2.1.trans' hB11
         have hk211:=Hpers.out _ hBB
         obtain⟨v0,v1,v2,v3,v4,v5,vl⟩:=cells6 hk211
         have f211:=hk211.frozen
         have n1:w8.heap.size≠w.heap.size:=by have:=HP9.out.2.2.2;omega
         have n2:w.heap.size≠w8.heap.size:=by have:=HP9.out.2.2.2;omega
         have HP11:=Lhd (And.intro hP (And.intro hBB hk211))
         clear hP hB hB11 hBB hk211 hk511
         go_wp2
         rw[lay2_eq w11 w8.heap.size 0 2]
         have hb12:=lay2_but w11 w8.heap.size 0 2 (.int .i64 5) (.string nb)
         generalize lay2 w11 w8.heap.size 0 2 (.int .i64 5) (.string nb)=w12 at *
         rw[lay6_eq]
         have hz12:gp<w8.heap.size∧gc<w8.heap.size∧gw<w8.heap.size∧w.heap.size≤w8.heap.size:=by have:=Hz.out;have:=HP9.out.2.2.2;omega
         have hB12:=((But.of_below H3.out.2.1).trans' HP11.out.2.1).trans hb12 (fun i hi=>.inr (by omega))
         have hk12:=HP11.out.2.2.as_was (hb12.block _ HP11.out.2.2.lt n2)
         have H:=gives_of (x:=.mk 5 0 nb na nil0 []) (w3:=w1) (leaf_at (Fr w1) w12 5 0 nb na (by decide) (by decide) (by constructor<;>simp) Hok3.out Hok1.out) (HP11.out.1.elsewhere hb12 (by omega)) hB12 hk12 (Nat.le_refl _) (by have:=Hsz.out;omega) Hz.out
         refine bodyPost_ret (ret_ex Tryz.results207 rfl H.1 rfl) rfl ?_
         rw[← HF.out]
         exact H.2
     ·rw[h] at hm
      simp only[str] at hm
      have Hm:=Lhd hm
      have hi:isP W s (str [102,97,108,115,101])=true:=by rw[isP_may Hbad.out,h]
      have hf:=Hfc.out
      rw[Hi0.out,if_neg (by decide),hi,if_pos rfl] at hf
      subst hf
      clear hm hi h
      go_wp2_with (fail)
      refine Hm.out.mono ?_
      rintro e w9 ⟨rfl,hP,hB⟩
      have hB2:=HP0.out.2.trans' hB
      have hk24:=on2_blk H3.out.2.2.1 hB2 (by have:=Hz.out;omega)
      obtain⟨v0,v1,v2,v3,v4,v5,vl⟩:=cells6 hk24
      have f24:=hk24.frozen
      have H:=Lhd (gives_of (x:=.mk 3 0 nil0 nil0 nil0 []) (w3:=w1) (leaf_at (Fr w1) _ 3 0 ⟨#[]⟩ ⟨#[]⟩ (by decide) (by decide) (by constructor<;>simp) (by unfold okS;exact Nat.zero_le _) (by unfold okS;exact Nat.zero_le _)) hP ((But.of_below H3.out.2.1).trans' hB2) hk24 (Nat.le_refl _) (by have:=Hsz.out;omega) Hz.out)
      clear hP hB hk24
      go_wp2
      rw[lay6_eq]
      exact bodyPost_ret (ret_ex Tryz.results207 rfl H.out.1 rfl) rfl H.out.2
    ·rw[h] at hm
     simp only[str] at hm
     have Hm:=Lhd hm
     have hi:isP W s (str [116,114,117,101])=true:=by rw[isP_may Hbad.out,h]
     have hf:=Hfc.out
     rw[hi,if_pos rfl] at hf
     subst hf
     clear hm hi h
     go_wp2_with (fail)
     refine Hm.out.mono ?_
     rintro e w9 ⟨rfl,hP,hB⟩
     have hk24:=on2_blk H3.out.2.2.1 hB (by have:=Hz.out;omega)
     obtain⟨v0,v1,v2,v3,v4,v5,vl⟩:=cells6 hk24
     have f24:=hk24.frozen
     have H:=Lhd (gives_of (x:=.mk 3 1 nil0 nil0 nil0 []) (w3:=w1) (leaf_at (Fr w1) _ 3 1 ⟨#[]⟩ ⟨#[]⟩ (by decide) (by decide) (by constructor<;>simp) (by unfold okS;exact Nat.zero_le _) (by unfold okS;exact Nat.zero_le _)) hP ((But.of_below H3.out.2.1).trans' hB) hk24 (Nat.le_refl _) (by have:=Hsz.out;omega) Hz.out)
     clear hP hB hk24
     go_wp2
     rw[lay6_eq]
     exact bodyPost_ret (ret_ex Tryz.results207 rfl H.out.1 rfl) rfl H.out.2
theorem up_of {one:PSt→Ex×PSt} (h:∀ s,Ge s (one s).2):Up one:=fun s=>h s
theorem pExprs_fuel (gp gc gw:Nat) (W:Wds):∀ f,1≤f→f≤W.l.length+1→TakesE gp gc gw W 24 (exprP W f) f:=by
 intro f
 induction f with
 | zero=>intro h;omega
 | succ f ih =>
  intro _ hle
  have hU:=up_expr W f
  have h1:=pSingle_any gp gc gw W (exprP W f) f (fun h=>ih h (by omega)) hU
  have h2:=pSigned_any gp gc gw W (exprP W f) (f+1) h1
  have h3:TakesE gp gc gw W 177 (productP W (exprP W f)) (f+1):=pProduct_any gp gc gw W (signedP W (exprP W f) W.fuel) (f+1) hle h2 (up_of (up_signed W hU _))
  have h4:TakesE gp gc gw W 146 (sumP W (exprP W f)) (f+1):=pSum_any gp gc gw W (productP W (exprP W f)) (f+1) hle h3 (up_of (up_product W hU))
  have h5:=pNot_any gp gc gw W (exprP W f) (f+1) h4 (up_sum W hU)
  have h6:TakesE gp gc gw W 59 (bothP W (exprP W f)) (f+1):=pBoth_any gp gc gw W (notP W (exprP W f) W.fuel) (f+1) hle h5 (up_of (up_not W hU _))
  exact pExpr_any gp gc gw W (bothP W (exprP W f)) (f+1) hle h6 (up_of (up_both W hU))
theorem pExpr1_any (gp gc gw:Nat) (W:Wds) (s:PSt) (w:World) (h:PAt gp gc gw W s w):Calls Tryz.prog 24 #[.pointer (some ⟨gp,0,none⟩)] w (GivesE gp gc gw W (expr1 W s).2 (expr1 W s).1 w) :=
 pExprs_fuel gp gc gw W W.fuel (by unfold Wds.fuel;omega) (by unfold Wds.fuel;omega) s w h (fit_all W s)
end Go.Proofs.YtdgapmnojmhllaaGreatDoor

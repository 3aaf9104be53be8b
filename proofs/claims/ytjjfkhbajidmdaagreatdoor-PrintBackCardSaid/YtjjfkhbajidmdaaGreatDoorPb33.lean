/- Parts of this proof, one behind the other: ParX, ParV. -/
import Derived.Test.YtjjfkhbajidmdaaGreatDoorPb32
import Derived.Test.YtjjfkhbajidmdaaGreatDoorPb31
set_option maxRecDepth 1000000
set_option maxHeartbeats 40000000
namespace Go.Proofs.YtjjfkhbajidmdaaGreatDoor
open Go.RowKit Go.Afx
def abC (W:aV) (s:au):St×au:=(.mk 5 (bF W s).1.1 (bF W s).1.2 0 [] [(bG W (aZ W) (bF W s).2).1] [] [],(bG W (aZ W) (bF W s).2).2)
def Jv (W:aV) (s:au):St×au:=(.mk 9 nil0 nil0 0 [] [(aZ W s).1] [] [],(aZ W s).2)
def Jw (W:aV) (s:au):St×au:=(.mk 10 nil0 nil0 0 [] (fG W s).1 [] [],(fG W s).2)
theorem ER (W:aV) (s:au):dH W s=if (ay W (str [108,101,116]) s).1 then iF W 1 (ay W (str [108,101,116]) s).2 else if (ay W (str [115,101,116]) s).1 then iF W 2 (ay W (str [115,101,116]) s).2 else if (ay W (str [105,110,115,101,114,116]) s).1 then oU W 3 (ay W (str [105,110,115,101,114,116]) s).2 else if (ay W (str [101,109,105,116]) s).1 then oU W 8 (ay W (str [101,109,105,116]) s).2 else if (ay W (str [117,112,100,97,116,101]) s).1 then jX W (ay W (str [117,112,100,97,116,101]) s).2 else if (ay W (str [100,101,108,101,116,101]) s).1 then abC W (ay W (str [100,101,108,101,116,101]) s).2 else if (ay W (str [97,98,111,114,116]) s).1 then Jv W (ay W (str [97,98,111,114,116]) s).2 else if (ay W (str [114,101,112,108,121]) s).1 then Jw W (ay W (str [114,101,112,108,121]) s).2 else (st0,s.fail):=rfl
structure D8 (gp gc gw:Nat) (W:aV) (fin:St×au) (w w1 wr:World):Prop where
 p:aW gp gc gw W fin.2 wr
 b:But (fV gp gc) w wr
 k2:af wr w.heap.size 49 oV
 k3:∃ Ac nc cc Ae ne ce Ab nb cb Al nl cl D,af wr (w.heap.size+1) 49 #[.int .i64 fin.1.op,.string fin.1.name,.string fin.1.src,.int .i64 fin.1.n,.slice Ac nc cc,.slice Ae ne ce,.slice Ab nb cb,.slice Al nl cl] ∧
  bQ (Fr w1) D wr [.int .i64 fin.1.op,.string fin.1.name,.string fin.1.src,.int .i64 fin.1.n,.slice Ac nc cc,.slice Ae ne ce,.slice Ab nb cb,.slice Al nl cl] fin.1
theorem mV {gp gc gw:Nat} {W:aV} {x:St} {s':au} {w w1 w3 w4:World} {D:Nat} {Ac Ae Ab Al:Option Addr} {nc cc ne ce nb cb nl cl:Nat} (hz:gp<w.heap.size∧gc<w.heap.size∧gw<w.heap.size) (hsz:w1.heap.size=w.heap.size+2) (hb1:Below w.heap.size w w1) (hk2:af w1 w.heap.size 49 oV) (hk3:af w1 (w.heap.size+1) 49 oV)
  (hx:bQ (Fr w3) D w4 [.int .i64 x.op,.string x.name,.string x.src,.int .i64 x.n,.slice Ac nc cc,.slice Ae ne ce,.slice Ab nb cb,.slice Al nl cl] x) (hP:aW gp gc gw W s' w4) (hB:But (fV gp gc) w1 w4) (h13:w1.heap.size≤w3.heap.size) :
  D8 gp gc gw W (x,s') w w1 (EN w4 (w.heap.size+1) (.int .i64 x.op) (.string x.name) (.string x.src) (.int .i64 x.n) (.slice Ac nc cc) (.slice Ae ne ce) (.slice Ab nb cb) (.slice Al nl cl)):=by
 have hb:=Jr w4 (w.heap.size+1) (.int .i64 x.op) (.string x.name) (.string x.src) (.int .i64 x.n) (.slice Ac nc cc) (.slice Ae ne ce) (.slice Ab nb cb) (.slice Al nl cl)
 have k2:=ah hk2 hB (by omega)
 have k3:=ah hk3 hB (by omega)
 refine⟨hP.elsewhere hb (by omega),((But.of_below hb1).trans' hB).trans hb (fun i hi=>.inr (by omega)),k2.ag (hb.block _ k2.lt (by omega)),Ac,nc,cc,Ae,ne,ce,Ab,nb,cb,Al,nl,cl,D,Jq _ _ _ _ _ _ _ _ k3,?_⟩
 exact bQ.conv (fun k (hk:w3.heap.size≤k)=>by show w1.heap.size≤k;omega) (Kept.aN hb fun k (hk:w3.heap.size≤k) e=>by omega) D (Nat.le_refl _) hx
theorem Nl {F:Nat→Prop} {w4 w5 wL:World} {D g g5:Nat} {bx:Ex} {A9:Option Addr} {m9 c9:Nat} (hx:aC (Fr w4) D w5 [.int .i64 bx.op,.int .i64 bx.n,.string bx.s,.string bx.name,.string bx.src,.slice A9 m9 c9] bx) (hb:But (fun k=>k=g5) w5 wL) (hg5:g5<w4.heap.size) (hg:g=wL.heap.size) (hF:∀ k,w4.heap.size≤k→F k) (h4:w4.heap.size≤wL.heap.size) :
  aO F D (wL.alloc (.cells #[.int .i64 bx.op,.int .i64 bx.n,.string bx.s,.string bx.name,.string bx.src,.slice A9 m9 c9] 55)) (some ⟨g,0,none⟩) 1 1 [bx]:=by
 have hx2:=hx.kept (Kept.aN hb fun k (hk:w4.heap.size≤k) e=>by omega)
 have h:=xO (F:=F) (d:=D) (n:=1) (g:=g) (w:=wL) 55 [[.int .i64 bx.op,.int .i64 bx.n,.string bx.s,.string bx.name,.string bx.src,.slice A9 m9 c9]] [bx] hg (hF _ (by omega)) rfl (by omega) rfl (fun k r x h1 h2=>by
  rcases k with _|k
  ·simp at h1 h2
   subst h1 h2
   exact aC.conv hF (Kept.refl _ _) D (Nat.le_refl _) hx2
  ·simp at h1)
 simpa using h
theorem ah4 (F:Nat→Prop) (w:World):bQ F 1 w [.int .i64 0,.string ⟨#[]⟩,.string ⟨#[]⟩,.int .i64 0,.slice none 0 0,.slice none 0 0,.slice none 0 0,.slice none 0 0] st0 :=
 D6 (n:=0) (by decide) (by decide) xu lT lT (ai.nil_ F w 1 dL) (ai.nil_ _ _ _ _) (gK F 0 w) (gK F 0 w)
theorem Uu (gp gc gw:Nat) (W:aV) (s:au) (w:World) (h:aW gp gc gw W s w) :
  Calls Tryz.prog 127 #[.pointer (some ⟨gp,0,none⟩)] w (vG gp gc gw W (dH W s).2 (dH W s).1 w):=by
 have hz:=And.intro h.lt.1 (And.intro h.lt.2 h.wl)
 obtain⟨w1,Hw1⟩:∃ w1,Hid (w1=(w.alloc (.cells oV 49)).alloc (.cells oV 49)):=⟨_,rfl⟩
 have hb1:Below w.heap.size w w1:=by rw[Hw1.out];exact((Below.refl _ _).alloc (Nat.le_refl _) _).alloc (by simp) _
 have hk2:af w1 w.heap.size 49 oV:=by rw[Hw1.out];exact(af.laid _ _ _).alloc _
 have hk3:af w1 (w.heap.size+1) 49 oV:=by rw[Hw1.out];exact jr (by simp)
 have hsz:w1.heap.size=w.heap.size+2:=by rw[Hw1.out];simp
 have jM:=ae hsz
 have Hb1:=ae hb1
 have Ig:=ae hk2
 have qi:=ae hk3
 have Hz:=ae hz
 have H1:=ae (And.intro (h.below hb1) (But.refl (fV gp gc) w1))
 have Hh:=ae h
 have gB:=ae (fun t w2 (hW:aW gp gc gw W s w2)=>gX gp gc gw W s t w2 hW)
 have Hf:=ae (fun w2 (hW:aW gp gc gw W s w2)=>lC gp gc gw W s w2 hW)
 have Has:=ae (fun op w2 (hW:aW gp gc gw W s.on w2) h0 h1=>QI gp gc gw W op s.on w2 hW h0 h1)
 have Hin:=ae (fun op w2 (hW:aW gp gc gw W s.on w2) h0 h1=>XA gp gc gw W op s.on w2 hW h0 h1)
 have Hch:=ae (fun w2 (hW:aW gp gc gw W s.on w2)=>QL gp gc gw W s.on w2 hW)
 have Vu:=ae (fun w2 (hW:aW gp gc gw W s.on w2)=>xX gp gc gw W s.on w2 hW)
 have Hwh:=ae (fun s' w2 (hW:aW gp gc gw W s' w2)=>xh gp gc gw W s' w2 hW)
 have Hex:=ae (fun w2 (hW:aW gp gc gw W s.on w2)=>rZ gp gc gw W s.on w2 hW)
 have Hxs:=ae (fun w2 (hW:aW gp gc gw W s.on w2)=>Jp gp gc gw W s.on w2 hW)
 have hnm:=Ju h s.on
 have Hnm:=ae hnm
 clear hz hb1 hk2 hk3 hsz h hnm
 have hfin:=ER W s
 generalize dH W s=fin at *
 have bn:=ae hfin
 clear hfin
 go_enter Tryz.func127,Tryz.ntmps127
 go_upto_block 0 with (fail)
 rw[← Hw1.out]
 go_cut [] (fun wr=>D8 gp gc gw W fin w w1 wr)
 case first =>
  rcases bC W (str [108,101,116]) s with h1|⟨h1,_,_⟩
  ·have hm:=gB.out (str [108,101,116]) w1 H1.out.1
   rw[h1] at hm
   simp only[str] at hm
   have Hm:=ae hm
   have MX:=ae h1
   clear hm h1
   go_wp2_with (fail)
   refine Hm.out.mono ?_
   rintro e w2 ⟨rfl,hP,hB⟩
   have H2:=ae (And.intro hP (H1.out.2.trans' hB))
   clear hP hB Hm
   rcases bC W (str [115,101,116]) s with h1|⟨h1,_,_⟩
   ·have hm:=gB.out (str [115,101,116]) w2 H2.out.1
    rw[h1] at hm
    simp only[str] at hm
    have Hm:=ae hm
    have Xt:=ae h1
    clear hm h1
    go_wp2_with (fail)
    refine Hm.out.mono ?_
    rintro e w3 ⟨rfl,hP,hB⟩
    have H3:=ae (And.intro hP (H2.out.2.trans' hB))
    clear hP hB Hm
    rcases bC W (str [105,110,115,101,114,116]) s with h1|⟨h1,_,_⟩
    ·have hm:=gB.out (str [105,110,115,101,114,116]) w3 H3.out.1
     rw[h1] at hm
     simp only[str] at hm
     have Hm:=ae hm
     have Hh3:=ae h1
     clear hm h1
     go_wp2_with (fail)
     refine Hm.out.mono ?_
     rintro e w4 ⟨rfl,hP,hB⟩
     have H4:=ae (And.intro hP (H3.out.2.trans' hB))
     clear hP hB Hm
     rcases bC W (str [101,109,105,116]) s with h1|⟨h1,_,_⟩
     ·have hm:=gB.out (str [101,109,105,116]) w4 H4.out.1
      rw[h1] at hm
      simp only[str] at hm
      have Hm:=ae hm
      have Hh4:=ae h1
      clear hm h1
      go_wp2_with (fail)
      refine Hm.out.mono ?_
      rintro e w5 ⟨rfl,hP,hB⟩
      have H5:=ae (And.intro hP (H4.out.2.trans' hB))
      clear hP hB Hm
      rcases bC W (str [117,112,100,97,116,101]) s with h1|⟨h1,_,_⟩
      ·have hm:=gB.out (str [117,112,100,97,116,101]) w5 H5.out.1
       rw[h1] at hm
       simp only[str] at hm
       have Hm:=ae hm
       have Hh5:=ae h1
       clear hm h1
       go_wp2_with (fail)
       refine Hm.out.mono ?_
       rintro e w6 ⟨rfl,hP,hB⟩
       have H6:=ae (And.intro hP (H5.out.2.trans' hB))
       clear hP hB Hm
       rcases bC W (str [100,101,108,101,116,101]) s with h1|⟨h1,_,_⟩
       ·have hm:=gB.out (str [100,101,108,101,116,101]) w6 H6.out.1
        rw[h1] at hm
        simp only[str] at hm
        have Hm:=ae hm
        have Hh6:=ae h1
        clear hm h1
        go_wp2_with (fail)
        refine Hm.out.mono ?_
        rintro e w7 ⟨rfl,hP,hB⟩
        have H7:=ae (And.intro hP (H6.out.2.trans' hB))
        clear hP hB Hm
        rcases bC W (str [97,98,111,114,116]) s with h1|⟨h1,_,_⟩
        ·have hm:=gB.out (str [97,98,111,114,116]) w7 H7.out.1
         rw[h1] at hm
         simp only[str] at hm
         have Hm:=ae hm
         have Hh7:=ae h1
         clear hm h1
         go_wp2_with (fail)
         refine Hm.out.mono ?_
         rintro e w8 ⟨rfl,hP,hB⟩
         have H8:=ae (And.intro hP (H7.out.2.trans' hB))
         clear hP hB Hm
         rcases bC W (str [114,101,112,108,121]) s with h1|⟨h1,_,_⟩
         ·have hm:=gB.out (str [114,101,112,108,121]) w8 H8.out.1
          rw[h1] at hm
          simp only[str] at hm
          have Hm:=ae hm
          have Hh8:=ae h1
          clear hm h1
          go_wp2_with (fail)
          refine Hm.out.mono ?_
          rintro e w9 ⟨rfl,hP,hB⟩
          have H9:=ae (And.intro hP (H8.out.2.trans' hB))
          clear hP hB Hm
          have hf:=bn.out
          simp only[MX.out,Xt.out,Hh3.out,Hh4.out,Hh5.out,Hh6.out,Hh7.out,Hh8.out,Bool.false_eq_true,if_false] at hf
          subst hf
          go_wp2_with (fail)
          refine(Hf.out _ H9.out.1).mono ?_
          rintro e uV ⟨rfl,hP,hB⟩
          have hB:=H9.out.2.trans' hB
          have hk3:=ah qi.out hB (by have:=Hz.out;omega)
          have hk2:=ah Ig.out hB (by have:=Hz.out;omega)
          have H:=ae (show D8 gp gc gw W (st0,s.fail) w w1 uV from ⟨hP,(But.of_below Hb1.out).trans' hB,hk2,none,0,0,none,0,0,none,0,0,none,0,0,1,hk3,ah4 _ _⟩)
          clear hP hB hk3 hk2
          go_wp2
          go_meet
          exact H.out
         ·have hm:=gB.out (str [114,101,112,108,121]) w8 H8.out.1
          rw[h1] at hm
          simp only[str] at hm
          have Hm:=ae hm
          have hf:=bn.out
          simp only[MX.out,Xt.out,Hh3.out,Hh4.out,Hh5.out,Hh6.out,Hh7.out,h1,Bool.false_eq_true,if_false,if_true] at hf
          subst hf
          clear hm h1
          go_wp2_with (fail)
          refine Hm.out.mono ?_
          rintro e vX ⟨rfl,hP,hB⟩
          have zf:=ae (And.intro hP (H8.out.2.trans' hB))
          clear hP hB
          have hc:=fun w2 hW=>Hxs.out w2 hW
          have hrep:Jw W s.on=(.mk 10 nil0 nil0 0 [] (fG W s.on).1 [] [],(fG W s.on).2):=rfl
          generalize Jw W s.on=fin at *
          generalize fG W s.on=r at *
          obtain⟨xs,s'⟩:=r
          simp only at hc
          simp only at hrep
          have Hrep:=ae hrep
          clear hrep
          have Hc:=ae hc
          clear hc
          go_wp2_with (fail)
          refine(Hc.out _ zf.out.1).mono ?_
          rintro e uV ⟨A,n,c,D,rfl,hx,hP,hB⟩
          have hB:=zf.out.2.trans' hB
          have hk3:=ah qi.out hB (by have:=Hz.out;omega)
          obtain⟨y0,y1,y2,y3,y4,y5,y6,y7,yl⟩:=bW hk3
          have f3:=hk3.frozen
          have hst:=D6 (op:=10) (n:=0) (by decide) (by decide) xu lT lT (ai.nil_ (Fr vX) uV 1 dL) hx (gK (Fr vX) D uV) (gK (Fr vX) D uV)
          have H:=ae (mV (x:=.mk 10 nil0 nil0 0 [] xs [] []) Hz.out jM.out Hb1.out Ig.out qi.out hst hP hB zf.out.2.size)
          clear hx hP hB hk3 hst
          go_wp2
          go_meet
          rw[Hrep.out]
          exact H.out
        ·have hm:=gB.out (str [97,98,111,114,116]) w7 H7.out.1
         rw[h1] at hm
         simp only[str] at hm
         have Hm:=ae hm
         have hf:=bn.out
         simp only[MX.out,Xt.out,Hh3.out,Hh4.out,Hh5.out,Hh6.out,h1,Bool.false_eq_true,if_false,if_true] at hf
         subst hf
         clear hm h1
         go_wp2_with (fail)
         refine Hm.out.mono ?_
         rintro e vX ⟨rfl,hP,hB⟩
         have zf:=ae (And.intro hP (H7.out.2.trans' hB))
         clear hP hB
         have hc:=fun w2 hW=>Hex.out w2 hW
         have hrep:Jv W s.on=(.mk 9 nil0 nil0 0 [] [(aZ W s.on).1] [] [],(aZ W s.on).2):=rfl
         generalize Jv W s.on=fin at *
         generalize aZ W s.on=r at *
         obtain⟨bx,s'⟩:=r
         simp only at hc
         simp only at hrep
         have Hrep:=ae hrep
         clear hrep
         have Hc:=ae hc
         clear hc
         go_wp2_with (fail)
         refine(Hc.out _ zf.out.1).mono ?_
         rintro e uV ⟨row,D,rfl,hx,hP,hB⟩
         obtain⟨A9,m9,c9,rfl⟩:=bP hx
         have hs1:=hB.size
         have hB:=zf.out.2.trans' hB
         have hk3:=ah qi.out hB (by have:=Hz.out;omega)
         obtain⟨y0,y1,y2,y3,y4,y5,y6,y7,yl⟩:=bW hk3
         have f3:=hk3.frozen
         have hk2:=ah Ig.out hB (by have:=Hz.out;omega)
         have hbl:=Jr uV (w.heap.size+1) (.int .i64 9) (.string ⟨#[]⟩) (.string ⟨#[]⟩) (.int .i64 0) (.slice none 0 0) (.slice (some ⟨uV.heap.size,0,none⟩) 1 1) (.slice none 0 0) (.slice none 0 0)
         have hkl:=Jq (.int .i64 9) (.string ⟨#[]⟩) (.string ⟨#[]⟩) (.int .i64 0) (.slice none 0 0) (.slice (some ⟨uV.heap.size,0,none⟩) 1 1) (.slice none 0 0) (.slice none 0 0) hk3
         have hsl:(EN uV (w.heap.size+1) (.int .i64 9) (.string ⟨#[]⟩) (.string ⟨#[]⟩) (.int .i64 0) (.slice none 0 0) (.slice (some ⟨uV.heap.size,0,none⟩) 1 1) (.slice none 0 0) (.slice none 0 0)).heap.size=uV.heap.size:=by simp[EN,World.setCell]
         have hPl:=hP.elsewhere hbl (by have:=Hz.out;omega)
         have QN:=hk2.ag (hbl.block _ hk2.lt (by omega))
         have hBl:=((But.of_below Hb1.out).trans' hB).trans hbl (fun i hi=>.inr (by omega))
         generalize hWL:EN uV (w.heap.size+1) (.int .i64 9) (.string ⟨#[]⟩) (.string ⟨#[]⟩) (.int .i64 0) (.slice none 0 0) (.slice (some ⟨uV.heap.size,0,none⟩) 1 1) (.slice none 0 0) (.slice none 0 0)=wL at *
         have HWL:=ae hWL
         have hs0:=zf.out.2.size
         have hxl:=Nl (F:=Fr w1) (g:=uV.heap.size) hx hbl (by have:=jM.out;omega) hsl.symm (fun k hk=>Nat.le_trans hs0 hk) (by omega)
         have hal:=(Below.refl wL.heap.size wL).alloc (Nat.le_refl _) (.cells #[.int .i64 bx.op,.int .i64 bx.n,.string bx.s,.string bx.name,.string bx.src,.slice A9 m9 c9] 55)
         have hst:=D6 (op:=9) (n:=0) (by decide) (by decide) xu lT lT (ai.nil_ (Fr w1) _ 1 dL) hxl (gK (Fr w1) D _) (gK (Fr w1) D _)
         have H:=ae (show D8 gp gc gw W (.mk 9 nil0 nil0 0 [] [bx] [] [],s') w w1 _ from ⟨hPl.below hal,hBl.trans' (But.of_below hal),QN.ag (hal.block _ QN.lt),none,0,0,some ⟨uV.heap.size,0,none⟩,1,1,none,0,0,none,0,0,D+1,hkl.ag (hal.block _ hkl.lt),hst⟩)
         clear hx hP hB hk3 hk2 hbl hkl hsl hPl QN hBl hWL hs0 hs1 hxl hal hst
         go_wp2
         rw[nC,HWL.out]
         go_meet
         rw[Hrep.out]
         exact H.out
       ·have hm:=gB.out (str [100,101,108,101,116,101]) w6 H6.out.1
        rw[h1] at hm
        simp only[str] at hm
        have Hm:=ae hm
        have hf:=bn.out
        simp only[MX.out,Xt.out,Hh3.out,Hh4.out,Hh5.out,h1,Bool.false_eq_true,if_false,if_true] at hf
        subst hf
        clear hm h1
        go_wp2_with (fail)
        refine Hm.out.mono ?_
        rintro e vX ⟨rfl,hP,hB⟩
        have zf:=ae (And.intro hP (H6.out.2.trans' hB))
        clear hP hB
        have hr:=fun w2 hW=>Vu.out w2 hW
        have hnm:=Hnm.out
        have hrep:abC W s.on=(.mk 5 (bF W s.on).1.1 (bF W s.on).1.2 0 [] [(bG W (aZ W) (bF W s.on).2).1] [] [],(bG W (aZ W) (bF W s.on).2).2):=rfl
        generalize abC W s.on=fin at *
        generalize bF W s.on=r at *
        obtain⟨⟨nm,sc⟩,sr⟩:=r
        simp only at hr hnm hrep
        have hc:=fun w2 hW=>Hwh.out sr w2 hW
        generalize bG W (aZ W) sr=r at *
        obtain⟨bx,s'⟩:=r
        simp only at hc
        simp only at hrep
        have Hrep:=ae hrep
        clear hrep
        have Hc:=ae hc
        have Hr:=ae hr
        have Hno:=ae hnm
        clear hc hr hnm
        have hk3:=ah qi.out zf.out.2 (by have:=Hz.out;omega)
        obtain⟨y0,y1,y2,y3,y4,y5,y6,y7,yl⟩:=bW hk3
        have f3:=hk3.frozen
        have hk2:=ah Ig.out zf.out.2 (by have:=Hz.out;omega)
        have hb1:=(But.refl (fun k=>k=w.heap.size+1) vX).setCell (p:=⟨w.heap.size+1,0,none⟩) (.inl rfl) (.int .i64 5)
        have hk31:af _ (w.heap.size+1) 49 #[.int .i64 5,.string ⟨#[]⟩,.string ⟨#[]⟩,.int .i64 0,.slice none 0 0,.slice none 0 0,.slice none 0 0,.slice none 0 0]:=hk3.stored 0 (.int .i64 5)
        have hP1:=zf.out.1.elsewhere hb1 (by have:=Hz.out;omega)
        have ah5:=hk2.ag (hb1.block _ hk2.lt (by omega))
        have hB1:=((But.of_below Hb1.out).trans' zf.out.2).trans hb1 (fun i hi=>.inr (by omega))
        have hs1:(vX.setCell ⟨w.heap.size+1,0,none⟩ (.int .i64 5)).heap.size=vX.heap.size:=by simp[World.setCell]
        have hs0:=zf.out.2.size
        obtain⟨uV,XD⟩:∃ uV,Hid (uV=vX.setCell ⟨w.heap.size+1,0,none⟩ (.int .i64 5)):=⟨_,rfl⟩
        rw[← XD.out] at hk31 hP1 ah5 hB1 hs1
        have H21:=ae (And.intro hP1 (And.intro hB1 (And.intro ah5 (And.intro hk31 (show w1.heap.size≤uV.heap.size by omega)))))
        clear hk3 hk2 hb1 hk31 hP1 ah5 hB1 hs1 hs0
        go_wp2_with (fail)
        rw[← XD.out]
        refine(Hr.out _ H21.out.1).mono ?_
        clear y0 y1 y2 y3 y4 y5 y6 y7 yl f3
        rintro e Uw ⟨rfl,hP,hB⟩
        have hk3:=ah H21.out.2.2.2.1 hB (by have:=Hz.out;omega)
        have hk2:=ah H21.out.2.2.1 hB (by have:=Hz.out;omega)
        obtain⟨y0,y1,y2,y3,y4,y5,y6,y7,yl⟩:=bW hk3
        have f3:=hk3.frozen
        have hb2:=xe Uw (w.heap.size+1) 1 2 (.string nm) (.string sc)
        have ah6:af (DV Uw (w.heap.size+1) 1 2 (.string nm) (.string sc)) (w.heap.size+1) 49 #[.int .i64 5,.string nm,.string sc,.int .i64 0,.slice none 0 0,.slice none 0 0,.slice none 0 0,.slice none 0 0]:=(hk3.stored 1 (.string nm)).stored 2 (.string sc)
        have hP2:=hP.elsewhere hb2 (by have:=Hz.out;omega)
        have Ui:=hk2.ag (hb2.block _ hk2.lt (by omega))
        have hB2:=(H21.out.2.1.trans' hB).trans hb2 (fun i hi=>.inr (by omega))
        have hs2:=hb2.size
        have hs3:=hB.size
        obtain⟨w23,ala⟩:∃ w23,Hid (w23=DV Uw (w.heap.size+1) 1 2 (.string nm) (.string sc)):=⟨_,rfl⟩
        rw[← ala.out] at ah6 hP2 Ui hB2 hs2
        have H23:=ae (And.intro hP2 (And.intro hB2 (And.intro Ui (And.intro ah6 (show w1.heap.size≤w23.heap.size by have:=H21.out.2.2.2.2;omega)))))
        clear hP hB hk3 hk2 hb2 ah6 hP2 Ui hB2 hs2 hs3
        go_wp2_with (fail)
        rw[DW,← ala.out]
        refine(Hc.out _ H23.out.1).mono ?_
        clear y0 y1 y2 y3 y4 y5 y6 y7 yl f3
        rintro e XE ⟨row,D,rfl,hx,hP,hB⟩
        obtain⟨A9,m9,c9,rfl⟩:=bP hx
        have hk3:=ah H23.out.2.2.2.1 hB (by have:=Hz.out;omega)
        have hk2:=ah H23.out.2.2.1 hB (by have:=Hz.out;omega)
        obtain⟨y0,y1,y2,y3,y4,y5,y6,y7,yl⟩:=bW hk3
        have f3:=hk3.frozen
        have hbl:=(But.refl (fun k=>k=w.heap.size+1) XE).setCell (p:=⟨w.heap.size+1,5,none⟩) (.inl rfl) (.slice (some ⟨XE.heap.size,0,none⟩) 1 1)
        have hkl:af (XE.setCell ⟨w.heap.size+1,5,none⟩ (.slice (some ⟨XE.heap.size,0,none⟩) 1 1)) (w.heap.size+1) 49 #[.int .i64 5,.string nm,.string sc,.int .i64 0,.slice none 0 0,.slice (some ⟨XE.heap.size,0,none⟩) 1 1,.slice none 0 0,.slice none 0 0]:=hk3.stored 5 (.slice (some ⟨XE.heap.size,0,none⟩) 1 1)
        have hsl:(XE.setCell ⟨w.heap.size+1,5,none⟩ (.slice (some ⟨XE.heap.size,0,none⟩) 1 1)).heap.size=XE.heap.size:=by simp[World.setCell]
        have hPl:=hP.elsewhere hbl (by have:=Hz.out;omega)
        have QN:=hk2.ag (hbl.block _ hk2.lt (by omega))
        have hBl:=(H23.out.2.1.trans' hB).trans hbl (fun i hi=>.inr (by omega))
        have hs3:=hB.size
        have hs4:=H23.out.2.2.2.2
        obtain⟨wL,HWL⟩:∃ wL,Hid (wL=XE.setCell ⟨w.heap.size+1,5,none⟩ (.slice (some ⟨XE.heap.size,0,none⟩) 1 1)):=⟨_,rfl⟩
        rw[← HWL.out] at hbl hkl hsl hPl QN hBl
        have hxl:=Nl (F:=Fr w1) (g:=XE.heap.size) hx hbl (by have:=jM.out;omega) hsl.symm (fun k hk=>Nat.le_trans hs4 hk) (by omega)
        have hal:=(Below.refl wL.heap.size wL).alloc (Nat.le_refl _) (.cells #[.int .i64 bx.op,.int .i64 bx.n,.string bx.s,.string bx.name,.string bx.src,.slice A9 m9 c9] 55)
        have hst:=D6 (op:=5) (n:=0) (by decide) (by decide) xu Hno.out.1 Hno.out.2 (ai.nil_ (Fr w1) _ 1 dL) hxl (gK (Fr w1) D _) (gK (Fr w1) D _)
        have H:=ae (show D8 gp gc gw W (.mk 5 nm sc 0 [] [bx] [] [],s') w w1 _ from ⟨hPl.below hal,hBl.trans' (But.of_below hal),QN.ag (hal.block _ QN.lt),none,0,0,some ⟨XE.heap.size,0,none⟩,1,1,none,0,0,none,0,0,D+1,hkl.ag (hal.block _ hkl.lt),hst⟩)
        clear hx hP hB hk3 hk2 hbl hkl hsl hPl QN hBl hs3 hs4 hxl hal hst
        go_wp2
        rw[← HWL.out]
        go_meet
        rw[Hrep.out]
        exact H.out
      ·have hm:=gB.out (str [117,112,100,97,116,101]) w5 H5.out.1
       rw[h1] at hm
       simp only[str] at hm
       have Hm:=ae hm
       have hf:=bn.out
       simp only[MX.out,Xt.out,Hh3.out,Hh4.out,h1,Bool.false_eq_true,if_false,if_true] at hf
       subst hf
       clear hm h1
       go_wp2_with (fail)
       refine Hm.out.mono ?_
       rintro e vX ⟨rfl,hP,hB⟩
       have zf:=ae (And.intro hP (H5.out.2.trans' hB))
       clear hP hB
       have hc:=fun w2 hW=>Hch.out w2 hW
       generalize jX W s.on=r at *
       obtain⟨x,s'⟩:=r
       simp only at hc
       have Hc:=ae hc
       clear hc
       go_wp2_with (fail)
       refine(Hc.out _ zf.out.1).mono ?_
       rintro e uV ⟨row,D,rfl,hx,hP,hB⟩
       obtain⟨Ac,nc,cc,Ae,ne,ce,Ab,nb,cb,Al,nl,cl,rfl⟩:=vH hx
       have hB:=zf.out.2.trans' hB
       have hk3:=ah qi.out hB (by have:=Hz.out;omega)
       obtain⟨y0,y1,y2,y3,y4,y5,y6,y7,yl⟩:=bW hk3
       have f3:=hk3.frozen
       have H:=ae (mV Hz.out jM.out Hb1.out Ig.out qi.out hx hP hB zf.out.2.size)
       clear hx hP hB hk3
       go_wp2
       go_meet
       exact H.out
     ·have hm:=gB.out (str [101,109,105,116]) w4 H4.out.1
      rw[h1] at hm
      simp only[str] at hm
      have Hm:=ae hm
      have hf:=bn.out
      simp only[MX.out,Xt.out,Hh3.out,h1,Bool.false_eq_true,if_false,if_true] at hf
      subst hf
      clear hm h1
      go_wp2_with (fail)
      refine Hm.out.mono ?_
      rintro e vX ⟨rfl,hP,hB⟩
      have zf:=ae (And.intro hP (H4.out.2.trans' hB))
      clear hP hB
      have hc:=fun w2 hW=>Hin.out 8 w2 hW (by decide) (by decide)
      generalize oU W 8 s.on=r at *
      obtain⟨x,s'⟩:=r
      simp only at hc
      have Hc:=ae hc
      clear hc
      go_wp2_with (fail)
      refine(Hc.out _ zf.out.1).mono ?_
      rintro e uV ⟨row,D,rfl,hx,hP,hB⟩
      obtain⟨Ac,nc,cc,Ae,ne,ce,Ab,nb,cb,Al,nl,cl,rfl⟩:=vH hx
      have hB:=zf.out.2.trans' hB
      have hk3:=ah qi.out hB (by have:=Hz.out;omega)
      obtain⟨y0,y1,y2,y3,y4,y5,y6,y7,yl⟩:=bW hk3
      have f3:=hk3.frozen
      have H:=ae (mV Hz.out jM.out Hb1.out Ig.out qi.out hx hP hB zf.out.2.size)
      clear hx hP hB hk3
      go_wp2
      go_meet
      exact H.out
    ·have hm:=gB.out (str [105,110,115,101,114,116]) w3 H3.out.1
     rw[h1] at hm
     simp only[str] at hm
     have Hm:=ae hm
     have hf:=bn.out
     simp only[MX.out,Xt.out,h1,Bool.false_eq_true,if_false,if_true] at hf
     subst hf
     clear hm h1
     go_wp2_with (fail)
     refine Hm.out.mono ?_
     rintro e vX ⟨rfl,hP,hB⟩
     have zf:=ae (And.intro hP (H3.out.2.trans' hB))
     clear hP hB
     have hc:=fun w2 hW=>Hin.out 3 w2 hW (by decide) (by decide)
     generalize oU W 3 s.on=r at *
     obtain⟨x,s'⟩:=r
     simp only at hc
     have Hc:=ae hc
     clear hc
     go_wp2_with (fail)
     refine(Hc.out _ zf.out.1).mono ?_
     rintro e uV ⟨row,D,rfl,hx,hP,hB⟩
     obtain⟨Ac,nc,cc,Ae,ne,ce,Ab,nb,cb,Al,nl,cl,rfl⟩:=vH hx
     have hB:=zf.out.2.trans' hB
     have hk3:=ah qi.out hB (by have:=Hz.out;omega)
     obtain⟨y0,y1,y2,y3,y4,y5,y6,y7,yl⟩:=bW hk3
     have f3:=hk3.frozen
     have H:=ae (mV Hz.out jM.out Hb1.out Ig.out qi.out hx hP hB zf.out.2.size)
     clear hx hP hB hk3
     go_wp2
     go_meet
     exact H.out
   ·have hm:=gB.out (str [115,101,116]) w2 H2.out.1
    rw[h1] at hm
    simp only[str] at hm
    have Hm:=ae hm
    have hf:=bn.out
    simp only[MX.out,h1,Bool.false_eq_true,if_false,if_true] at hf
    subst hf
    clear hm h1
    go_wp2_with (fail)
    refine Hm.out.mono ?_
    rintro e vX ⟨rfl,hP,hB⟩
    have zf:=ae (And.intro hP (H2.out.2.trans' hB))
    clear hP hB
    have hc:=fun w2 hW=>Has.out 2 w2 hW (by decide) (by decide)
    generalize iF W 2 s.on=r at *
    obtain⟨x,s'⟩:=r
    simp only at hc
    have Hc:=ae hc
    clear hc
    go_wp2_with (fail)
    refine(Hc.out _ zf.out.1).mono ?_
    rintro e uV ⟨row,D,rfl,hx,hP,hB⟩
    obtain⟨Ac,nc,cc,Ae,ne,ce,Ab,nb,cb,Al,nl,cl,rfl⟩:=vH hx
    have hB:=zf.out.2.trans' hB
    have hk3:=ah qi.out hB (by have:=Hz.out;omega)
    obtain⟨y0,y1,y2,y3,y4,y5,y6,y7,yl⟩:=bW hk3
    have f3:=hk3.frozen
    have H:=ae (mV Hz.out jM.out Hb1.out Ig.out qi.out hx hP hB zf.out.2.size)
    clear hx hP hB hk3
    go_wp2
    go_meet
    exact H.out
  ·have hm:=gB.out (str [108,101,116]) w1 H1.out.1
   rw[h1] at hm
   simp only[str] at hm
   have Hm:=ae hm
   have hf:=bn.out
   simp only[h1,if_true] at hf
   subst hf
   clear hm h1
   go_wp2_with (fail)
   refine Hm.out.mono ?_
   rintro e vX ⟨rfl,hP,hB⟩
   have zf:=ae (And.intro hP (H1.out.2.trans' hB))
   clear hP hB
   have hc:=fun w2 hW=>Has.out 1 w2 hW (by decide) (by decide)
   generalize iF W 1 s.on=r at *
   obtain⟨x,s'⟩:=r
   simp only at hc
   have Hc:=ae hc
   clear hc
   go_wp2_with (fail)
   refine(Hc.out _ zf.out.1).mono ?_
   rintro e uV ⟨row,D,rfl,hx,hP,hB⟩
   obtain⟨Ac,nc,cc,Ae,ne,ce,Ab,nb,cb,Al,nl,cl,rfl⟩:=vH hx
   have hB:=zf.out.2.trans' hB
   have hk3:=ah qi.out hB (by have:=Hz.out;omega)
   obtain⟨y0,y1,y2,y3,y4,y5,y6,y7,yl⟩:=bW hk3
   have f3:=hk3.frozen
   have H:=ae (mV Hz.out jM.out Hb1.out Ig.out qi.out hx hP hB zf.out.2.size)
   clear hx hP hB hk3
   go_wp2
   go_meet
   exact H.out
 case rest =>
  obtain⟨hP,hB,hk2,Ac,nc,cc,Ae,ne,ce,Ab,nb,cb,Al,nl,cl,D,hk3,hx⟩:=hcut
  obtain⟨x0,x1,x2,x3,x4,x5,x6,x7,xl⟩:=bW hk3
  obtain⟨y0,y1,y2,y3,y4,y5,y6,y7,yl⟩:=bW hk2
  have f2:=hk2.frozen
  have H:=ae (mQ (w3:=w1) hx hP hB hk2 (Nat.le_refl _) (by have:=jM.out;omega) Hz.out)
  clear hP hB hk2 hk3 hx
  go_wp2
  rw[nC]
  exact bodyPost_ret (vI Tryz.results127 rfl H.out.1 rfl) rfl H.out.2
theorem Jy (W:aV) (s:au):vT W s=if (ay W (str [105,110,116]) s).1 then (1,(ay W (str [105,110,116]) s).2) else if (ay W (str [116,101,120,116]) s).1 then (2,(ay W (str [116,101,120,116]) s).2) else if (ay W (str [98,111,111,108]) s).1 then (3,(ay W (str [98,111,111,108]) s).2) else (0,s.fail):=rfl
theorem XF (gp gc gw:Nat) (W:aV) (s:au) (w:World) (h:aW gp gc gw W s w) :
  Calls Tryz.prog 50 #[.pointer (some ⟨gp,0,none⟩)] w fun e w'=>e=.returned (.int .i64 (vT W s).1)∧aW gp gc gw W (vT W s).2 w'∧But (fV gp gc) w w':=by
 have hz:=And.intro h.lt.1 (And.intro h.lt.2 h.wl)
 obtain⟨w1,Hw1⟩:∃ w1,Hid (w1=w.alloc (.cells #[.string ⟨#[105,110,116]⟩,.string ⟨#[116,101,120,116]⟩,.string ⟨#[98,111,111,108]⟩] 9)):=⟨_,rfl⟩
 have hb1:Below w.heap.size w w1:=by rw[Hw1.out];exact(Below.refl _ _).alloc (Nat.le_refl _) _
 have hk1:af w1 w.heap.size 9 #[.string ⟨#[105,110,116]⟩,.string ⟨#[116,101,120,116]⟩,.string ⟨#[98,111,111,108]⟩]:=by rw[Hw1.out];exact af.laid _ _ _
 have H1:=ae (And.intro (h.below hb1) (But.refl (fV gp gc) w1))
 have Hb1:=ae hb1
 have hx:∀ W2,But (fV gp gc) w1 W2→W2.cell? ⟨w.heap.size,0,none⟩=some (.string ⟨#[105,110,116]⟩)∧W2.cell? ⟨w.heap.size,1,none⟩=some (.string ⟨#[116,101,120,116]⟩)∧W2.cell? ⟨w.heap.size,2,none⟩=some (.string ⟨#[98,111,111,108]⟩)∧w.heap.size<W2.heap.size:=fun W2 hW=>by
  have hk:=ah hk1 hW ⟨hz.1,hz.2.1⟩
  have a0:=hk.cell 0
  have a1:=hk.cell 1
  have a2:=hk.cell 2
  simp at a0 a1 a2
  exact⟨a0,a1,a2,hk.lt⟩
 have Hx:=ae hx
 have gB:=ae (fun t w2 (hW:aW gp gc gw W s w2)=>gX gp gc gw W s t w2 hW)
 have Hf:=ae (fun w2 (hW:aW gp gc gw W s w2)=>lC gp gc gw W s w2 hW)
 have hfin:=Jy W s
 generalize vT W s=fin at *
 have bn:=ae hfin
 clear hfin hx hk1 hb1 h hz
 go_enter Tryz.func50,Tryz.ntmps50
 go_wp2
 rw[← Hw1.out]
 refine wp_loop_rounds 4 ?_
 rw[rounds_succ]
 obtain⟨x0,x1,x2,xl⟩:=Hx.out _ H1.out.2
 rcases bC W (str [105,110,116]) s with h1|⟨h1,_,_⟩
 ·have hm:=gB.out (str [105,110,116]) w1 H1.out.1
  rw[h1] at hm
  simp only[str] at hm
  have Hm:=ae hm
  have MX:=ae h1
  clear hm h1
  go_wp2_with (fail)
  refine Hm.out.mono ?_
  rintro e w2 ⟨rfl,hP,hB⟩
  have H2:=ae (And.intro hP (H1.out.2.trans' hB))
  clear hP hB x0 x1 x2 xl Hm
  go_wp2_with (fail)
  rw[rounds_succ]
  obtain⟨x0,x1,x2,xl⟩:=Hx.out _ H2.out.2
  rcases bC W (str [116,101,120,116]) s with h1|⟨h1,_,_⟩
  ·have hm:=gB.out (str [116,101,120,116]) w2 H2.out.1
   rw[h1] at hm
   simp only[str] at hm
   have Hm:=ae hm
   have Xt:=ae h1
   clear hm h1
   go_wp2_with (fail)
   refine Hm.out.mono ?_
   rintro e w3 ⟨rfl,hP,hB⟩
   have H3:=ae (And.intro hP (H2.out.2.trans' hB))
   clear hP hB x0 x1 x2 xl Hm
   go_wp2_with (fail)
   rw[rounds_succ]
   obtain⟨x0,x1,x2,xl⟩:=Hx.out _ H3.out.2
   rcases bC W (str [98,111,111,108]) s with h1|⟨h1,_,_⟩
   ·have hm:=gB.out (str [98,111,111,108]) w3 H3.out.1
    rw[h1] at hm
    simp only[str] at hm
    have Hm:=ae hm
    have Hh3:=ae h1
    clear hm h1
    go_wp2_with (fail)
    refine Hm.out.mono ?_
    rintro e w4 ⟨rfl,hP,hB⟩
    have H4:=ae (And.intro hP (H3.out.2.trans' hB))
    clear hP hB x0 x1 x2 xl Hm
    go_wp2_with (fail)
    rw[rounds_succ]
    have hf:=bn.out
    simp only[MX.out,Xt.out,Hh3.out,Bool.false_eq_true,if_false] at hf
    subst hf
    go_wp2_with (fail)
    refine(Hf.out _ H4.out.1).mono ?_
    rintro e w9 ⟨rfl,hP,hB⟩
    have H:=ae (And.intro hP ((But.of_below Hb1.out).trans' (H4.out.2.trans' hB)))
    clear hP hB
    go_wp2
    go_ret
    exact⟨rfl,H.out.1,H.out.2⟩
   ·have hm:=gB.out (str [98,111,111,108]) w3 H3.out.1
    rw[h1] at hm
    simp only[str] at hm
    have Hm:=ae hm
    have hf:=bn.out
    simp only[MX.out,Xt.out,h1,Bool.false_eq_true,if_false,if_true] at hf
    subst hf
    clear hm h1
    go_wp2_with (fail)
    refine Hm.out.mono ?_
    rintro e w9 ⟨rfl,hP,hB⟩
    have H:=ae (And.intro hP ((But.of_below Hb1.out).trans' (H3.out.2.trans' hB)))
    clear hP hB
    go_wp2
    go_ret
    exact⟨rfl,H.out.1,H.out.2⟩
  ·have hm:=gB.out (str [116,101,120,116]) w2 H2.out.1
   rw[h1] at hm
   simp only[str] at hm
   have Hm:=ae hm
   have hf:=bn.out
   simp only[MX.out,h1,Bool.false_eq_true,if_false,if_true] at hf
   subst hf
   clear hm h1
   go_wp2_with (fail)
   refine Hm.out.mono ?_
   rintro e w9 ⟨rfl,hP,hB⟩
   have H:=ae (And.intro hP ((But.of_below Hb1.out).trans' (H2.out.2.trans' hB)))
   clear hP hB
   go_wp2
   go_ret
   exact⟨rfl,H.out.1,H.out.2⟩
 ·have hm:=gB.out (str [105,110,116]) w1 H1.out.1
  rw[h1] at hm
  simp only[str] at hm
  have Hm:=ae hm
  have hf:=bn.out
  simp only[h1,if_true] at hf
  subst hf
  clear hm h1
  go_wp2_with (fail)
  refine Hm.out.mono ?_
  rintro e w9 ⟨rfl,hP,hB⟩
  have H:=ae (And.intro hP ((But.of_below Hb1.out).trans' (H1.out.2.trans' hB)))
  clear hP hB
  go_wp2
  go_ret
  exact⟨rfl,H.out.1,H.out.2⟩
end Go.Proofs.YtjjfkhbajidmdaaGreatDoor

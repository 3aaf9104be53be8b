/- Parts of this proof, one behind the other: ParX, ParV. -/
import Derived.Test.YtgbgiknfejpcoaaGreatPx22
import Derived.Test.YtgbgiknfejpcoaaGreatPx20
set_option maxRecDepth 1000000
set_option maxHeartbeats 40000000
namespace Go.Proofs.YtgbgiknfejpcoaaGreat
open Go.RowKit Go.Afx
def delP (W:Wds) (s:PSt):St×PSt:=(.mk 5 (rowsP W s).1.1 (rowsP W s).1.2 0 [] [(whereP W (expr1 W) (rowsP W s).2).1] [] [],(whereP W (expr1 W) (rowsP W s).2).2)
def abortP (W:Wds) (s:PSt):St×PSt:=(.mk 9 nil0 nil0 0 [] [(expr1 W s).1] [] [],(expr1 W s).2)
def replyP (W:Wds) (s:PSt):St×PSt:=(.mk 10 nil0 nil0 0 [] (exprsP W s).1 [] [],(exprsP W s).2)
theorem plainP_eq (W:Wds) (s:PSt):plainP W s=if (mayP W (str [108,101,116]) s).1 then assignP W 1 (mayP W (str [108,101,116]) s).2 else if (mayP W (str [115,101,116]) s).1 then assignP W 2 (mayP W (str [115,101,116]) s).2 else if (mayP W (str [105,110,115,101,114,116]) s).1 then intoP W 3 (mayP W (str [105,110,115,101,114,116]) s).2 else if (mayP W (str [101,109,105,116]) s).1 then intoP W 8 (mayP W (str [101,109,105,116]) s).2 else if (mayP W (str [117,112,100,97,116,101]) s).1 then changeP W (mayP W (str [117,112,100,97,116,101]) s).2 else if (mayP W (str [100,101,108,101,116,101]) s).1 then delP W (mayP W (str [100,101,108,101,116,101]) s).2 else if (mayP W (str [97,98,111,114,116]) s).1 then abortP W (mayP W (str [97,98,111,114,116]) s).2 else if (mayP W (str [114,101,112,108,121]) s).1 then replyP W (mayP W (str [114,101,112,108,121]) s).2 else (st0,s.fail):=rfl
structure Plained (gp gc gw:Nat) (W:Wds) (fin:St×PSt) (w w1 wr:World):Prop where
 p:PAt gp gc gw W fin.2 wr
 b:But (On2 gp gc) w wr
 k2:IsBlk wr w.heap.size 73 zero8
 k3:∃ Ac nc cc Ae ne ce Ab nb cb Al nl cl D,IsBlk wr (w.heap.size+1) 73 #[.int .i64 fin.1.op,.string fin.1.name,.string fin.1.src,.int .i64 fin.1.n,.slice Ac nc cc,.slice Ae ne ce,.slice Ab nb cb,.slice Al nl cl] ∧
  StAt (Fr w1) D wr [.int .i64 fin.1.op,.string fin.1.name,.string fin.1.src,.int .i64 fin.1.n,.slice Ac nc cc,.slice Ae ne ce,.slice Ab nb cb,.slice Al nl cl] fin.1
theorem plained_of {gp gc gw:Nat} {W:Wds} {x:St} {s':PSt} {w w1 w3 w4:World} {D:Nat} {Ac Ae Ab Al:Option Addr} {nc cc ne ce nb cb nl cl:Nat} (hz:gp<w.heap.size∧gc<w.heap.size∧gw<w.heap.size) (hsz:w1.heap.size=w.heap.size+2) (hb1:Below w.heap.size w w1) (hk2:IsBlk w1 w.heap.size 73 zero8) (hk3:IsBlk w1 (w.heap.size+1) 73 zero8)
  (hx:StAt (Fr w3) D w4 [.int .i64 x.op,.string x.name,.string x.src,.int .i64 x.n,.slice Ac nc cc,.slice Ae ne ce,.slice Ab nb cb,.slice Al nl cl] x) (hP:PAt gp gc gw W s' w4) (hB:But (On2 gp gc) w1 w4) (h13:w1.heap.size≤w3.heap.size) :
  Plained gp gc gw W (x,s') w w1 (lay8 w4 (w.heap.size+1) (.int .i64 x.op) (.string x.name) (.string x.src) (.int .i64 x.n) (.slice Ac nc cc) (.slice Ae ne ce) (.slice Ab nb cb) (.slice Al nl cl)):=by
 have hb:=lay8_but w4 (w.heap.size+1) (.int .i64 x.op) (.string x.name) (.string x.src) (.int .i64 x.n) (.slice Ac nc cc) (.slice Ae ne ce) (.slice Ab nb cb) (.slice Al nl cl)
 have k2:=on2_blk hk2 hB (by omega)
 have k3:=on2_blk hk3 hB (by omega)
 refine⟨hP.elsewhere hb (by omega),((But.of_below hb1).trans' hB).trans hb (fun i hi=>.inr (by omega)),k2.as_was (hb.block _ k2.lt (by omega)),Ac,nc,cc,Ae,ne,ce,Ab,nb,cb,Al,nl,cl,D,lay8_blk _ _ _ _ _ _ _ _ k3,?_⟩
 exact StAt.conv (fun k (hk:w3.heap.size≤k)=>by show w1.heap.size≤k;omega) (Kept.of_but hb fun k (hk:w3.heap.size≤k) e=>by omega) D (Nat.le_refl _) hx
theorem one_ex {F:Nat→Prop} {w4 w5 wL:World} {D g g5:Nat} {bx:Ex} {A9:Option Addr} {m9 c9:Nat} (hx:ExAt (Fr w4) D w5 [.int .i64 bx.op,.int .i64 bx.n,.string bx.s,.string bx.name,.string bx.src,.slice A9 m9 c9] bx) (hb:But (fun k=>k=g5) w5 wL) (hg5:g5<w4.heap.size) (hg:g=wL.heap.size) (hF:∀ k,w4.heap.size≤k→F k) (h4:w4.heap.size≤wL.heap.size) :
  ExsAt F D (wL.alloc (.cells #[.int .i64 bx.op,.int .i64 bx.n,.string bx.s,.string bx.name,.string bx.src,.slice A9 m9 c9] 60)) (some ⟨g,0,none⟩) 1 1 [bx]:=by
 have hx2:=hx.kept (Kept.of_but hb fun k (hk:w4.heap.size≤k) e=>by omega)
 have h:=exs_lit (F:=F) (d:=D) (n:=1) (g:=g) (w:=wL) 60 [[.int .i64 bx.op,.int .i64 bx.n,.string bx.s,.string bx.name,.string bx.src,.slice A9 m9 c9]] [bx] hg (hF _ (by omega)) rfl (by omega) rfl (fun k r x h1 h2=>by
  rcases k with _|k
  ·simp at h1 h2
   subst h1 h2
   exact ExAt.conv hF (Kept.refl _ _) D (Nat.le_refl _) hx2
  ·simp at h1)
 simpa using h
theorem st0_at (F:Nat→Prop) (w:World):StAt F 1 w [.int .i64 0,.string ⟨#[]⟩,.string ⟨#[]⟩,.int .i64 0,.slice none 0 0,.slice none 0 0,.slice none 0 0,.slice none 0 0] st0 :=
 st_of (n:=0) (by decide) (by decide) okI_0 okS_0 okS_0 (LsAt.nil_ F w 1 SRow) (LsAt.nil_ _ _ _ _) (sts_nil F 0 w) (sts_nil F 0 w)
theorem pPlain_any (gp gc gw:Nat) (W:Wds) (s:PSt) (w:World) (h:PAt gp gc gw W s w) :
  Calls Tryz.prog 197 #[.pointer (some ⟨gp,0,none⟩)] w (GivesS gp gc gw W (plainP W s).2 (plainP W s).1 w):=by
 have hz:=And.intro h.lt.1 (And.intro h.lt.2 h.wl)
 obtain⟨w1,Hw1⟩:∃ w1,Hid (w1=(w.alloc (.cells zero8 73)).alloc (.cells zero8 73)):=⟨_,rfl⟩
 have hb1:Below w.heap.size w w1:=by rw[Hw1.out];exact((Below.refl _ _).alloc (Nat.le_refl _) _).alloc (by simp) _
 have hk2:IsBlk w1 w.heap.size 73 zero8:=by rw[Hw1.out];exact(IsBlk.laid _ _ _).alloc _
 have hk3:IsBlk w1 (w.heap.size+1) 73 zero8:=by rw[Hw1.out];exact blk_new (by simp)
 have hsz:w1.heap.size=w.heap.size+2:=by rw[Hw1.out];simp
 have Hsz:=Lhd hsz
 have Hb1:=Lhd hb1
 have Hk2:=Lhd hk2
 have Hk3:=Lhd hk3
 have Hz:=Lhd hz
 have H1:=Lhd (And.intro (h.below hb1) (But.refl (On2 gp gc) w1))
 have Hh:=Lhd h
 have Hmay:=Lhd (fun t w2 (hW:PAt gp gc gw W s w2)=>pMay_any gp gc gw W s t w2 hW)
 have Hf:=Lhd (fun w2 (hW:PAt gp gc gw W s w2)=>pFail_any gp gc gw W s w2 hW)
 have Has:=Lhd (fun op w2 (hW:PAt gp gc gw W s.on w2) h0 h1=>pAssign_any gp gc gw W op s.on w2 hW h0 h1)
 have Hin:=Lhd (fun op w2 (hW:PAt gp gc gw W s.on w2) h0 h1=>pInto_any gp gc gw W op s.on w2 hW h0 h1)
 have Hch:=Lhd (fun w2 (hW:PAt gp gc gw W s.on w2)=>pChange_any gp gc gw W s.on w2 hW)
 have Hrw:=Lhd (fun w2 (hW:PAt gp gc gw W s.on w2)=>pRows_any gp gc gw W s.on w2 hW)
 have Hwh:=Lhd (fun s' w2 (hW:PAt gp gc gw W s' w2)=>pWhere1_any gp gc gw W s' w2 hW)
 have Hex:=Lhd (fun w2 (hW:PAt gp gc gw W s.on w2)=>pExpr1_any gp gc gw W s.on w2 hW)
 have Hxs:=Lhd (fun w2 (hW:PAt gp gc gw W s.on w2)=>pExprs_any gp gc gw W s.on w2 hW)
 have hnm:=pNamesOk h s.on
 have Hnm:=Lhd hnm
 clear hz hb1 hk2 hk3 hsz h hnm
 have hfin:=plainP_eq W s
 generalize plainP W s=fin at *
 have Hfin:=Lhd hfin
 clear hfin
 go_enter Tryz.func197,Tryz.ntmps197
 go_upto_block 0 with (fail)
 rw[← Hw1.out]
 go_cut [] (fun wr=>Plained gp gc gw W fin w w1 wr)
 case first =>
  rcases may_cases W (str [108,101,116]) s with h1|⟨h1,_,_⟩
  ·have hm:=Hmay.out (str [108,101,116]) w1 H1.out.1
   rw[h1] at hm
   simp only[str] at hm
   have Hm:=Lhd hm
   have Hh1:=Lhd h1
   clear hm h1
   go_wp2_with (fail)
   refine Hm.out.mono ?_
   rintro e w2 ⟨rfl,hP,hB⟩
   have H2:=Lhd (And.intro hP (H1.out.2.trans' hB))
   clear hP hB Hm
   rcases may_cases W (str [115,101,116]) s with h1|⟨h1,_,_⟩
   ·have hm:=Hmay.out (str [115,101,116]) w2 H2.out.1
    rw[h1] at hm
    simp only[str] at hm
    have Hm:=Lhd hm
    have Hh2:=Lhd h1
    clear hm h1
    go_wp2_with (fail)
    refine Hm.out.mono ?_
    rintro e w3 ⟨rfl,hP,hB⟩
    have H3:=Lhd (And.intro hP (H2.out.2.trans' hB))
    clear hP hB Hm
    rcases may_cases W (str [105,110,115,101,114,116]) s with h1|⟨h1,_,_⟩
    ·have hm:=Hmay.out (str [105,110,115,101,114,116]) w3 H3.out.1
     rw[h1] at hm
     simp only[str] at hm
     have Hm:=Lhd hm
     have Hh3:=Lhd h1
     clear hm h1
     go_wp2_with (fail)
     refine Hm.out.mono ?_
     rintro e w4 ⟨rfl,hP,hB⟩
     have H4:=Lhd (And.intro hP (H3.out.2.trans' hB))
     clear hP hB Hm
     rcases may_cases W (str [101,109,105,116]) s with h1|⟨h1,_,_⟩
     ·have hm:=Hmay.out (str [101,109,105,116]) w4 H4.out.1
      rw[h1] at hm
      simp only[str] at hm
      have Hm:=Lhd hm
      have Hh4:=Lhd h1
      clear hm h1
      go_wp2_with (fail)
      refine Hm.out.mono ?_
      rintro e w5 ⟨rfl,hP,hB⟩
      have H5:=Lhd (And.intro hP (H4.out.2.trans' hB))
      clear hP hB Hm
      rcases may_cases W (str [117,112,100,97,116,101]) s with h1|⟨h1,_,_⟩
      ·have hm:=Hmay.out (str [117,112,100,97,116,101]) w5 H5.out.1
       rw[h1] at hm
       simp only[str] at hm
       have Hm:=Lhd hm
       have Hh5:=Lhd h1
       clear hm h1
       go_wp2_with (fail)
       refine Hm.out.mono ?_
       rintro e w6 ⟨rfl,hP,hB⟩
       have H6:=Lhd (And.intro hP (H5.out.2.trans' hB))
       clear hP hB Hm
       rcases may_cases W (str [100,101,108,101,116,101]) s with h1|⟨h1,_,_⟩
       ·have hm:=Hmay.out (str [100,101,108,101,116,101]) w6 H6.out.1
        rw[h1] at hm
        simp only[str] at hm
        have Hm:=Lhd hm
        have Hh6:=Lhd h1
        clear hm h1
        go_wp2_with (fail)
        refine Hm.out.mono ?_
        rintro e w7 ⟨rfl,hP,hB⟩
        have H7:=Lhd (And.intro hP (H6.out.2.trans' hB))
        clear hP hB Hm
        rcases may_cases W (str [97,98,111,114,116]) s with h1|⟨h1,_,_⟩
        ·have hm:=Hmay.out (str [97,98,111,114,116]) w7 H7.out.1
         rw[h1] at hm
         simp only[str] at hm
         have Hm:=Lhd hm
         have Hh7:=Lhd h1
         clear hm h1
         go_wp2_with (fail)
         refine Hm.out.mono ?_
         rintro e w8 ⟨rfl,hP,hB⟩
         have H8:=Lhd (And.intro hP (H7.out.2.trans' hB))
         clear hP hB Hm
         rcases may_cases W (str [114,101,112,108,121]) s with h1|⟨h1,_,_⟩
         ·have hm:=Hmay.out (str [114,101,112,108,121]) w8 H8.out.1
          rw[h1] at hm
          simp only[str] at hm
          have Hm:=Lhd hm
          have Hh8:=Lhd h1
          clear hm h1
          go_wp2_with (fail)
          refine Hm.out.mono ?_
          rintro e w9 ⟨rfl,hP,hB⟩
          have H9:=Lhd (And.intro hP (H8.out.2.trans' hB))
          clear hP hB Hm
          have hf:=Hfin.out
          simp only[Hh1.out,Hh2.out,Hh3.out,Hh4.out,Hh5.out,Hh6.out,Hh7.out,Hh8.out,Bool.false_eq_true,if_false] at hf
          subst hf
          go_wp2_with (fail)
          refine(Hf.out _ H9.out.1).mono ?_
          rintro e w21 ⟨rfl,hP,hB⟩
          have hB:=H9.out.2.trans' hB
          have hk3:=on2_blk Hk3.out hB (by have:=Hz.out;omega)
          have hk2:=on2_blk Hk2.out hB (by have:=Hz.out;omega)
          have H:=Lhd (show Plained gp gc gw W (st0,s.fail) w w1 w21 from ⟨hP,(But.of_below Hb1.out).trans' hB,hk2,none,0,0,none,0,0,none,0,0,none,0,0,1,hk3,st0_at _ _⟩)
          clear hP hB hk3 hk2
          go_wp2
          go_meet
          exact H.out
         ·have hm:=Hmay.out (str [114,101,112,108,121]) w8 H8.out.1
          rw[h1] at hm
          simp only[str] at hm
          have Hm:=Lhd hm
          have hf:=Hfin.out
          simp only[Hh1.out,Hh2.out,Hh3.out,Hh4.out,Hh5.out,Hh6.out,Hh7.out,h1,Bool.false_eq_true,if_false,if_true] at hf
          subst hf
          clear hm h1
          go_wp2_with (fail)
          refine Hm.out.mono ?_
          rintro e w20 ⟨rfl,hP,hB⟩
          have H20:=Lhd (And.intro hP (H8.out.2.trans' hB))
          clear hP hB
          have hc:=fun w2 hW=>Hxs.out w2 hW
          have hrep:replyP W s.on=(.mk 10 nil0 nil0 0 [] (exprsP W s.on).1 [] [],(exprsP W s.on).2):=rfl
          generalize replyP W s.on=fin at *
          generalize exprsP W s.on=r at *
          obtain⟨xs,s'⟩:=r
          simp only at hc
          simp only at hrep
          have Hrep:=Lhd hrep
          clear hrep
          have Hc:=Lhd hc
          clear hc
          go_wp2_with (fail)
          refine(Hc.out _ H20.out.1).mono ?_
          rintro e w21 ⟨A,n,c,D,rfl,hx,hP,hB⟩
          have hB:=H20.out.2.trans' hB
          have hk3:=on2_blk Hk3.out hB (by have:=Hz.out;omega)
          obtain⟨y0,y1,y2,y3,y4,y5,y6,y7,yl⟩:=cells8 hk3
          have f3:=hk3.frozen
          have hst:=st_of (op:=10) (n:=0) (by decide) (by decide) okI_0 okS_0 okS_0 (LsAt.nil_ (Fr w20) w21 1 SRow) hx (sts_nil (Fr w20) D w21) (sts_nil (Fr w20) D w21)
          have H:=Lhd (plained_of (x:=.mk 10 nil0 nil0 0 [] xs [] []) Hz.out Hsz.out Hb1.out Hk2.out Hk3.out hst hP hB H20.out.2.size)
          clear hx hP hB hk3 hst
          go_wp2
          go_meet
          rw[Hrep.out]
          exact H.out
        ·have hm:=Hmay.out (str [97,98,111,114,116]) w7 H7.out.1
         rw[h1] at hm
         simp only[str] at hm
         have Hm:=Lhd hm
         have hf:=Hfin.out
         simp only[Hh1.out,Hh2.out,Hh3.out,Hh4.out,Hh5.out,Hh6.out,h1,Bool.false_eq_true,if_false,if_true] at hf
         subst hf
         clear hm h1
         go_wp2_with (fail)
         refine Hm.out.mono ?_
         rintro e w20 ⟨rfl,hP,hB⟩
         have H20:=Lhd (And.intro hP (H7.out.2.trans' hB))
         clear hP hB
         have hc:=fun w2 hW=>Hex.out w2 hW
         have hrep:abortP W s.on=(.mk 9 nil0 nil0 0 [] [(expr1 W s.on).1] [] [],(expr1 W s.on).2):=rfl
         generalize abortP W s.on=fin at *
         generalize expr1 W s.on=r at *
         obtain⟨bx,s'⟩:=r
         simp only at hc
         simp only at hrep
         have Hrep:=Lhd hrep
         clear hrep
         have Hc:=Lhd hc
         clear hc
         go_wp2_with (fail)
         refine(Hc.out _ H20.out.1).mono ?_
         rintro e w21 ⟨row,D,rfl,hx,hP,hB⟩
         obtain⟨A9,m9,c9,rfl⟩:=ex_row6 hx
         have hs1:=hB.size
         have hB:=H20.out.2.trans' hB
         have hk3:=on2_blk Hk3.out hB (by have:=Hz.out;omega)
         obtain⟨y0,y1,y2,y3,y4,y5,y6,y7,yl⟩:=cells8 hk3
         have f3:=hk3.frozen
         have hk2:=on2_blk Hk2.out hB (by have:=Hz.out;omega)
         have hbl:=lay8_but w21 (w.heap.size+1) (.int .i64 9) (.string ⟨#[]⟩) (.string ⟨#[]⟩) (.int .i64 0) (.slice none 0 0) (.slice (some ⟨w21.heap.size,0,none⟩) 1 1) (.slice none 0 0) (.slice none 0 0)
         have hkl:=lay8_blk (.int .i64 9) (.string ⟨#[]⟩) (.string ⟨#[]⟩) (.int .i64 0) (.slice none 0 0) (.slice (some ⟨w21.heap.size,0,none⟩) 1 1) (.slice none 0 0) (.slice none 0 0) hk3
         have hsl:(lay8 w21 (w.heap.size+1) (.int .i64 9) (.string ⟨#[]⟩) (.string ⟨#[]⟩) (.int .i64 0) (.slice none 0 0) (.slice (some ⟨w21.heap.size,0,none⟩) 1 1) (.slice none 0 0) (.slice none 0 0)).heap.size=w21.heap.size:=by simp[lay8,World.setCell]
         have hPl:=hP.elsewhere hbl (by have:=Hz.out;omega)
         have hk2l:=hk2.as_was (hbl.block _ hk2.lt (by omega))
         have hBl:=((But.of_below Hb1.out).trans' hB).trans hbl (fun i hi=>.inr (by omega))
         generalize hWL:lay8 w21 (w.heap.size+1) (.int .i64 9) (.string ⟨#[]⟩) (.string ⟨#[]⟩) (.int .i64 0) (.slice none 0 0) (.slice (some ⟨w21.heap.size,0,none⟩) 1 1) (.slice none 0 0) (.slice none 0 0)=wL at *
         have HWL:=Lhd hWL
         have hs0:=H20.out.2.size
         have hxl:=one_ex (F:=Fr w1) (g:=w21.heap.size) hx hbl (by have:=Hsz.out;omega) hsl.symm (fun k hk=>Nat.le_trans hs0 hk) (by omega)
         have hal:=(Below.refl wL.heap.size wL).alloc (Nat.le_refl _) (.cells #[.int .i64 bx.op,.int .i64 bx.n,.string bx.s,.string bx.name,.string bx.src,.slice A9 m9 c9] 60)
         have hst:=st_of (op:=9) (n:=0) (by decide) (by decide) okI_0 okS_0 okS_0 (LsAt.nil_ (Fr w1) _ 1 SRow) hxl (sts_nil (Fr w1) D _) (sts_nil (Fr w1) D _)
         have H:=Lhd (show Plained gp gc gw W (.mk 9 nil0 nil0 0 [] [bx] [] [],s') w w1 _ from ⟨hPl.below hal,hBl.trans' (But.of_below hal),hk2l.as_was (hal.block _ hk2l.lt),none,0,0,some ⟨w21.heap.size,0,none⟩,1,1,none,0,0,none,0,0,D+1,hkl.as_was (hal.block _ hkl.lt),hst⟩)
         clear hx hP hB hk3 hk2 hbl hkl hsl hPl hk2l hBl hWL hs0 hs1 hxl hal hst
         go_wp2
         rw[lay8_eq,HWL.out]
         go_meet
         rw[Hrep.out]
         exact H.out
       ·have hm:=Hmay.out (str [100,101,108,101,116,101]) w6 H6.out.1
        rw[h1] at hm
        simp only[str] at hm
        have Hm:=Lhd hm
        have hf:=Hfin.out
        simp only[Hh1.out,Hh2.out,Hh3.out,Hh4.out,Hh5.out,h1,Bool.false_eq_true,if_false,if_true] at hf
        subst hf
        clear hm h1
        go_wp2_with (fail)
        refine Hm.out.mono ?_
        rintro e w20 ⟨rfl,hP,hB⟩
        have H20:=Lhd (And.intro hP (H6.out.2.trans' hB))
        clear hP hB
        have hr:=fun w2 hW=>Hrw.out w2 hW
        have hnm:=Hnm.out
        have hrep:delP W s.on=(.mk 5 (rowsP W s.on).1.1 (rowsP W s.on).1.2 0 [] [(whereP W (expr1 W) (rowsP W s.on).2).1] [] [],(whereP W (expr1 W) (rowsP W s.on).2).2):=rfl
        generalize delP W s.on=fin at *
        generalize rowsP W s.on=r at *
        obtain⟨⟨nm,sc⟩,sr⟩:=r
        simp only at hr hnm hrep
        have hc:=fun w2 hW=>Hwh.out sr w2 hW
        generalize whereP W (expr1 W) sr=r at *
        obtain⟨bx,s'⟩:=r
        simp only at hc
        simp only at hrep
        have Hrep:=Lhd hrep
        clear hrep
        have Hc:=Lhd hc
        have Hr:=Lhd hr
        have Hno:=Lhd hnm
        clear hc hr hnm
        have hk3:=on2_blk Hk3.out H20.out.2 (by have:=Hz.out;omega)
        obtain⟨y0,y1,y2,y3,y4,y5,y6,y7,yl⟩:=cells8 hk3
        have f3:=hk3.frozen
        have hk2:=on2_blk Hk2.out H20.out.2 (by have:=Hz.out;omega)
        have hb1:=(But.refl (fun k=>k=w.heap.size+1) w20).setCell (p:=⟨w.heap.size+1,0,none⟩) (.inl rfl) (.int .i64 5)
        have hk31:IsBlk _ (w.heap.size+1) 73 #[.int .i64 5,.string ⟨#[]⟩,.string ⟨#[]⟩,.int .i64 0,.slice none 0 0,.slice none 0 0,.slice none 0 0,.slice none 0 0]:=hk3.stored 0 (.int .i64 5)
        have hP1:=H20.out.1.elsewhere hb1 (by have:=Hz.out;omega)
        have hk21:=hk2.as_was (hb1.block _ hk2.lt (by omega))
        have hB1:=((But.of_below Hb1.out).trans' H20.out.2).trans hb1 (fun i hi=>.inr (by omega))
        have hs1:(w20.setCell ⟨w.heap.size+1,0,none⟩ (.int .i64 5)).heap.size=w20.heap.size:=by simp[World.setCell]
        have hs0:=H20.out.2.size
        obtain⟨w21,Hw21⟩:∃ w21,Hid (w21=w20.setCell ⟨w.heap.size+1,0,none⟩ (.int .i64 5)):=⟨_,rfl⟩
        rw[← Hw21.out] at hk31 hP1 hk21 hB1 hs1
        have H21:=Lhd (And.intro hP1 (And.intro hB1 (And.intro hk21 (And.intro hk31 (show w1.heap.size≤w21.heap.size by omega)))))
        clear hk3 hk2 hb1 hk31 hP1 hk21 hB1 hs1 hs0
        go_wp2_with (fail)
        rw[← Hw21.out]
        refine(Hr.out _ H21.out.1).mono ?_
        clear y0 y1 y2 y3 y4 y5 y6 y7 yl f3
        rintro e w22 ⟨rfl,hP,hB⟩
        have hk3:=on2_blk H21.out.2.2.2.1 hB (by have:=Hz.out;omega)
        have hk2:=on2_blk H21.out.2.2.1 hB (by have:=Hz.out;omega)
        obtain⟨y0,y1,y2,y3,y4,y5,y6,y7,yl⟩:=cells8 hk3
        have f3:=hk3.frozen
        have hb2:=lay2_but w22 (w.heap.size+1) 1 2 (.string nm) (.string sc)
        have hk32:IsBlk (lay2 w22 (w.heap.size+1) 1 2 (.string nm) (.string sc)) (w.heap.size+1) 73 #[.int .i64 5,.string nm,.string sc,.int .i64 0,.slice none 0 0,.slice none 0 0,.slice none 0 0,.slice none 0 0]:=(hk3.stored 1 (.string nm)).stored 2 (.string sc)
        have hP2:=hP.elsewhere hb2 (by have:=Hz.out;omega)
        have hk22:=hk2.as_was (hb2.block _ hk2.lt (by omega))
        have hB2:=(H21.out.2.1.trans' hB).trans hb2 (fun i hi=>.inr (by omega))
        have hs2:=hb2.size
        have hs3:=hB.size
        obtain⟨w23,Hw23⟩:∃ w23,Hid (w23=lay2 w22 (w.heap.size+1) 1 2 (.string nm) (.string sc)):=⟨_,rfl⟩
        rw[← Hw23.out] at hk32 hP2 hk22 hB2 hs2
        have H23:=Lhd (And.intro hP2 (And.intro hB2 (And.intro hk22 (And.intro hk32 (show w1.heap.size≤w23.heap.size by have:=H21.out.2.2.2.2;omega)))))
        clear hP hB hk3 hk2 hb2 hk32 hP2 hk22 hB2 hs2 hs3
        go_wp2_with (fail)
        rw[lay2_eq,← Hw23.out]
        refine(Hc.out _ H23.out.1).mono ?_
        clear y0 y1 y2 y3 y4 y5 y6 y7 yl f3
        rintro e w24 ⟨row,D,rfl,hx,hP,hB⟩
        obtain⟨A9,m9,c9,rfl⟩:=ex_row6 hx
        have hk3:=on2_blk H23.out.2.2.2.1 hB (by have:=Hz.out;omega)
        have hk2:=on2_blk H23.out.2.2.1 hB (by have:=Hz.out;omega)
        obtain⟨y0,y1,y2,y3,y4,y5,y6,y7,yl⟩:=cells8 hk3
        have f3:=hk3.frozen
        have hbl:=(But.refl (fun k=>k=w.heap.size+1) w24).setCell (p:=⟨w.heap.size+1,5,none⟩) (.inl rfl) (.slice (some ⟨w24.heap.size,0,none⟩) 1 1)
        have hkl:IsBlk (w24.setCell ⟨w.heap.size+1,5,none⟩ (.slice (some ⟨w24.heap.size,0,none⟩) 1 1)) (w.heap.size+1) 73 #[.int .i64 5,.string nm,.string sc,.int .i64 0,.slice none 0 0,.slice (some ⟨w24.heap.size,0,none⟩) 1 1,.slice none 0 0,.slice none 0 0]:=hk3.stored 5 (.slice (some ⟨w24.heap.size,0,none⟩) 1 1)
        have hsl:(w24.setCell ⟨w.heap.size+1,5,none⟩ (.slice (some ⟨w24.heap.size,0,none⟩) 1 1)).heap.size=w24.heap.size:=by simp[World.setCell]
        have hPl:=hP.elsewhere hbl (by have:=Hz.out;omega)
        have hk2l:=hk2.as_was (hbl.block _ hk2.lt (by omega))
        have hBl:=(H23.out.2.1.trans' hB).trans hbl (fun i hi=>.inr (by omega))
        have hs3:=hB.size
        have hs4:=H23.out.2.2.2.2
        obtain⟨wL,HWL⟩:∃ wL,Hid (wL=w24.setCell ⟨w.heap.size+1,5,none⟩ (.slice (some ⟨w24.heap.size,0,none⟩) 1 1)):=⟨_,rfl⟩
        rw[← HWL.out] at hbl hkl hsl hPl hk2l hBl
        have hxl:=one_ex (F:=Fr w1) (g:=w24.heap.size) hx hbl (by have:=Hsz.out;omega) hsl.symm (fun k hk=>Nat.le_trans hs4 hk) (by omega)
        have hal:=(Below.refl wL.heap.size wL).alloc (Nat.le_refl _) (.cells #[.int .i64 bx.op,.int .i64 bx.n,.string bx.s,.string bx.name,.string bx.src,.slice A9 m9 c9] 60)
        have hst:=st_of (op:=5) (n:=0) (by decide) (by decide) okI_0 Hno.out.1 Hno.out.2 (LsAt.nil_ (Fr w1) _ 1 SRow) hxl (sts_nil (Fr w1) D _) (sts_nil (Fr w1) D _)
        have H:=Lhd (show Plained gp gc gw W (.mk 5 nm sc 0 [] [bx] [] [],s') w w1 _ from ⟨hPl.below hal,hBl.trans' (But.of_below hal),hk2l.as_was (hal.block _ hk2l.lt),none,0,0,some ⟨w24.heap.size,0,none⟩,1,1,none,0,0,none,0,0,D+1,hkl.as_was (hal.block _ hkl.lt),hst⟩)
        clear hx hP hB hk3 hk2 hbl hkl hsl hPl hk2l hBl hs3 hs4 hxl hal hst
        go_wp2
        rw[← HWL.out]
        go_meet
        rw[Hrep.out]
        exact H.out
      ·have hm:=Hmay.out (str [117,112,100,97,116,101]) w5 H5.out.1
       rw[h1] at hm
       simp only[str] at hm
       have Hm:=Lhd hm
       have hf:=Hfin.out
       simp only[Hh1.out,Hh2.out,Hh3.out,Hh4.out,h1,Bool.false_eq_true,if_false,if_true] at hf
       subst hf
       clear hm h1
       go_wp2_with (fail)
       refine Hm.out.mono ?_
       rintro e w20 ⟨rfl,hP,hB⟩
       have H20:=Lhd (And.intro hP (H5.out.2.trans' hB))
       clear hP hB
       have hc:=fun w2 hW=>Hch.out w2 hW
       generalize changeP W s.on=r at *
       obtain⟨x,s'⟩:=r
       simp only at hc
       have Hc:=Lhd hc
       clear hc
       go_wp2_with (fail)
       refine(Hc.out _ H20.out.1).mono ?_
       rintro e w21 ⟨row,D,rfl,hx,hP,hB⟩
       obtain⟨Ac,nc,cc,Ae,ne,ce,Ab,nb,cb,Al,nl,cl,rfl⟩:=st_row8 hx
       have hB:=H20.out.2.trans' hB
       have hk3:=on2_blk Hk3.out hB (by have:=Hz.out;omega)
       obtain⟨y0,y1,y2,y3,y4,y5,y6,y7,yl⟩:=cells8 hk3
       have f3:=hk3.frozen
       have H:=Lhd (plained_of Hz.out Hsz.out Hb1.out Hk2.out Hk3.out hx hP hB H20.out.2.size)
       clear hx hP hB hk3
       go_wp2
       go_meet
       exact H.out
     ·have hm:=Hmay.out (str [101,109,105,116]) w4 H4.out.1
      rw[h1] at hm
      simp only[str] at hm
      have Hm:=Lhd hm
      have hf:=Hfin.out
      simp only[Hh1.out,Hh2.out,Hh3.out,h1,Bool.false_eq_true,if_false,if_true] at hf
      subst hf
      clear hm h1
      go_wp2_with (fail)
      refine Hm.out.mono ?_
      rintro e w20 ⟨rfl,hP,hB⟩
      have H20:=Lhd (And.intro hP (H4.out.2.trans' hB))
      clear hP hB
      have hc:=fun w2 hW=>Hin.out 8 w2 hW (by decide) (by decide)
      generalize intoP W 8 s.on=r at *
      obtain⟨x,s'⟩:=r
      simp only at hc
      have Hc:=Lhd hc
      clear hc
      go_wp2_with (fail)
      refine(Hc.out _ H20.out.1).mono ?_
      rintro e w21 ⟨row,D,rfl,hx,hP,hB⟩
      obtain⟨Ac,nc,cc,Ae,ne,ce,Ab,nb,cb,Al,nl,cl,rfl⟩:=st_row8 hx
      have hB:=H20.out.2.trans' hB
      have hk3:=on2_blk Hk3.out hB (by have:=Hz.out;omega)
      obtain⟨y0,y1,y2,y3,y4,y5,y6,y7,yl⟩:=cells8 hk3
      have f3:=hk3.frozen
      have H:=Lhd (plained_of Hz.out Hsz.out Hb1.out Hk2.out Hk3.out hx hP hB H20.out.2.size)
      clear hx hP hB hk3
      go_wp2
      go_meet
      exact H.out
    ·have hm:=Hmay.out (str [105,110,115,101,114,116]) w3 H3.out.1
     rw[h1] at hm
     simp only[str] at hm
     have Hm:=Lhd hm
     have hf:=Hfin.out
     simp only[Hh1.out,Hh2.out,h1,Bool.false_eq_true,if_false,if_true] at hf
     subst hf
     clear hm h1
     go_wp2_with (fail)
     refine Hm.out.mono ?_
     rintro e w20 ⟨rfl,hP,hB⟩
     have H20:=Lhd (And.intro hP (H3.out.2.trans' hB))
     clear hP hB
     have hc:=fun w2 hW=>Hin.out 3 w2 hW (by decide) (by decide)
     generalize intoP W 3 s.on=r at *
     obtain⟨x,s'⟩:=r
     simp only at hc
     have Hc:=Lhd hc
     clear hc
     go_wp2_with (fail)
     refine(Hc.out _ H20.out.1).mono ?_
     rintro e w21 ⟨row,D,rfl,hx,hP,hB⟩
     obtain⟨Ac,nc,cc,Ae,ne,ce,Ab,nb,cb,Al,nl,cl,rfl⟩:=st_row8 hx
     have hB:=H20.out.2.trans' hB
     have hk3:=on2_blk Hk3.out hB (by have:=Hz.out;omega)
     obtain⟨y0,y1,y2,y3,y4,y5,y6,y7,yl⟩:=cells8 hk3
     have f3:=hk3.frozen
     have H:=Lhd (plained_of Hz.out Hsz.out Hb1.out Hk2.out Hk3.out hx hP hB H20.out.2.size)
     clear hx hP hB hk3
     go_wp2
     go_meet
     exact H.out
   ·have hm:=Hmay.out (str [115,101,116]) w2 H2.out.1
    rw[h1] at hm
    simp only[str] at hm
    have Hm:=Lhd hm
    have hf:=Hfin.out
    simp only[Hh1.out,h1,Bool.false_eq_true,if_false,if_true] at hf
    subst hf
    clear hm h1
    go_wp2_with (fail)
    refine Hm.out.mono ?_
    rintro e w20 ⟨rfl,hP,hB⟩
    have H20:=Lhd (And.intro hP (H2.out.2.trans' hB))
    clear hP hB
    have hc:=fun w2 hW=>Has.out 2 w2 hW (by decide) (by decide)
    generalize assignP W 2 s.on=r at *
    obtain⟨x,s'⟩:=r
    simp only at hc
    have Hc:=Lhd hc
    clear hc
    go_wp2_with (fail)
    refine(Hc.out _ H20.out.1).mono ?_
    rintro e w21 ⟨row,D,rfl,hx,hP,hB⟩
    obtain⟨Ac,nc,cc,Ae,ne,ce,Ab,nb,cb,Al,nl,cl,rfl⟩:=st_row8 hx
    have hB:=H20.out.2.trans' hB
    have hk3:=on2_blk Hk3.out hB (by have:=Hz.out;omega)
    obtain⟨y0,y1,y2,y3,y4,y5,y6,y7,yl⟩:=cells8 hk3
    have f3:=hk3.frozen
    have H:=Lhd (plained_of Hz.out Hsz.out Hb1.out Hk2.out Hk3.out hx hP hB H20.out.2.size)
    clear hx hP hB hk3
    go_wp2
    go_meet
    exact H.out
  ·have hm:=Hmay.out (str [108,101,116]) w1 H1.out.1
   rw[h1] at hm
   simp only[str] at hm
   have Hm:=Lhd hm
   have hf:=Hfin.out
   simp only[h1,if_true] at hf
   subst hf
   clear hm h1
   go_wp2_with (fail)
   refine Hm.out.mono ?_
   rintro e w20 ⟨rfl,hP,hB⟩
   have H20:=Lhd (And.intro hP (H1.out.2.trans' hB))
   clear hP hB
   have hc:=fun w2 hW=>Has.out 1 w2 hW (by decide) (by decide)
   generalize assignP W 1 s.on=r at *
   obtain⟨x,s'⟩:=r
   simp only at hc
   have Hc:=Lhd hc
   clear hc
   go_wp2_with (fail)
   refine(Hc.out _ H20.out.1).mono ?_
   rintro e w21 ⟨row,D,rfl,hx,hP,hB⟩
   obtain⟨Ac,nc,cc,Ae,ne,ce,Ab,nb,cb,Al,nl,cl,rfl⟩:=st_row8 hx
   have hB:=H20.out.2.trans' hB
   have hk3:=on2_blk Hk3.out hB (by have:=Hz.out;omega)
   obtain⟨y0,y1,y2,y3,y4,y5,y6,y7,yl⟩:=cells8 hk3
   have f3:=hk3.frozen
   have H:=Lhd (plained_of Hz.out Hsz.out Hb1.out Hk2.out Hk3.out hx hP hB H20.out.2.size)
   clear hx hP hB hk3
   go_wp2
   go_meet
   exact H.out
 case rest =>
  obtain⟨hP,hB,hk2,Ac,nc,cc,Ae,ne,ce,Ab,nb,cb,Al,nl,cl,D,hk3,hx⟩:=hcut
  obtain⟨x0,x1,x2,x3,x4,x5,x6,x7,xl⟩:=cells8 hk3
  obtain⟨y0,y1,y2,y3,y4,y5,y6,y7,yl⟩:=cells8 hk2
  have f2:=hk2.frozen
  have H:=Lhd (gives8_of (w3:=w1) hx hP hB hk2 (Nat.le_refl _) (by have:=Hsz.out;omega) Hz.out)
  clear hP hB hk2 hk3 hx
  go_wp2
  rw[lay8_eq]
  exact bodyPost_ret (ret_st Tryz.results197 rfl H.out.1 rfl) rfl H.out.2
theorem kindP_eq (W:Wds) (s:PSt):kindP W s=if (mayP W (str [105,110,116]) s).1 then (1,(mayP W (str [105,110,116]) s).2) else if (mayP W (str [116,101,120,116]) s).1 then (2,(mayP W (str [116,101,120,116]) s).2) else if (mayP W (str [98,111,111,108]) s).1 then (3,(mayP W (str [98,111,111,108]) s).2) else (0,s.fail):=rfl
theorem pKind_any (gp gc gw:Nat) (W:Wds) (s:PSt) (w:World) (h:PAt gp gc gw W s w) :
  Calls Tryz.prog 126 #[.pointer (some ⟨gp,0,none⟩)] w fun e w'=>e=.returned (.int .i64 (kindP W s).1)∧PAt gp gc gw W (kindP W s).2 w'∧But (On2 gp gc) w w':=by
 have hz:=And.intro h.lt.1 (And.intro h.lt.2 h.wl)
 obtain⟨w1,Hw1⟩:∃ w1,Hid (w1=w.alloc (.cells #[.string ⟨#[105,110,116]⟩,.string ⟨#[116,101,120,116]⟩,.string ⟨#[98,111,111,108]⟩] 9)):=⟨_,rfl⟩
 have hb1:Below w.heap.size w w1:=by rw[Hw1.out];exact(Below.refl _ _).alloc (Nat.le_refl _) _
 have hk1:IsBlk w1 w.heap.size 9 #[.string ⟨#[105,110,116]⟩,.string ⟨#[116,101,120,116]⟩,.string ⟨#[98,111,111,108]⟩]:=by rw[Hw1.out];exact IsBlk.laid _ _ _
 have H1:=Lhd (And.intro (h.below hb1) (But.refl (On2 gp gc) w1))
 have Hb1:=Lhd hb1
 have hx:∀ W2,But (On2 gp gc) w1 W2→W2.cell? ⟨w.heap.size,0,none⟩=some (.string ⟨#[105,110,116]⟩)∧W2.cell? ⟨w.heap.size,1,none⟩=some (.string ⟨#[116,101,120,116]⟩)∧W2.cell? ⟨w.heap.size,2,none⟩=some (.string ⟨#[98,111,111,108]⟩)∧w.heap.size<W2.heap.size:=fun W2 hW=>by
  have hk:=on2_blk hk1 hW ⟨hz.1,hz.2.1⟩
  have a0:=hk.cell 0
  have a1:=hk.cell 1
  have a2:=hk.cell 2
  simp at a0 a1 a2
  exact⟨a0,a1,a2,hk.lt⟩
 have Hx:=Lhd hx
 have Hmay:=Lhd (fun t w2 (hW:PAt gp gc gw W s w2)=>pMay_any gp gc gw W s t w2 hW)
 have Hf:=Lhd (fun w2 (hW:PAt gp gc gw W s w2)=>pFail_any gp gc gw W s w2 hW)
 have hfin:=kindP_eq W s
 generalize kindP W s=fin at *
 have Hfin:=Lhd hfin
 clear hfin hx hk1 hb1 h hz
 go_enter Tryz.func126,Tryz.ntmps126
 go_wp2
 rw[← Hw1.out]
 refine wp_loop_rounds 4 ?_
 rw[rounds_succ]
 obtain⟨x0,x1,x2,xl⟩:=Hx.out _ H1.out.2
 rcases may_cases W (str [105,110,116]) s with h1|⟨h1,_,_⟩
 ·have hm:=Hmay.out (str [105,110,116]) w1 H1.out.1
  rw[h1] at hm
  simp only[str] at hm
  have Hm:=Lhd hm
  have Hh1:=Lhd h1
  clear hm h1
  go_wp2_with (fail)
  refine Hm.out.mono ?_
  rintro e w2 ⟨rfl,hP,hB⟩
  have H2:=Lhd (And.intro hP (H1.out.2.trans' hB))
  clear hP hB x0 x1 x2 xl Hm
  go_wp2_with (fail)
  rw[rounds_succ]
  obtain⟨x0,x1,x2,xl⟩:=Hx.out _ H2.out.2
  rcases may_cases W (str [116,101,120,116]) s with h1|⟨h1,_,_⟩
  ·have hm:=Hmay.out (str [116,101,120,116]) w2 H2.out.1
   rw[h1] at hm
   simp only[str] at hm
   have Hm:=Lhd hm
   have Hh2:=Lhd h1
   clear hm h1
   go_wp2_with (fail)
   refine Hm.out.mono ?_
   rintro e w3 ⟨rfl,hP,hB⟩
   have H3:=Lhd (And.intro hP (H2.out.2.trans' hB))
   clear hP hB x0 x1 x2 xl Hm
   go_wp2_with (fail)
   rw[rounds_succ]
   obtain⟨x0,x1,x2,xl⟩:=Hx.out _ H3.out.2
   rcases may_cases W (str [98,111,111,108]) s with h1|⟨h1,_,_⟩
   ·have hm:=Hmay.out (str [98,111,111,108]) w3 H3.out.1
    rw[h1] at hm
    simp only[str] at hm
    have Hm:=Lhd hm
    have Hh3:=Lhd h1
    clear hm h1
    go_wp2_with (fail)
    refine Hm.out.mono ?_
    rintro e w4 ⟨rfl,hP,hB⟩
    have H4:=Lhd (And.intro hP (H3.out.2.trans' hB))
    clear hP hB x0 x1 x2 xl Hm
    go_wp2_with (fail)
    rw[rounds_succ]
    have hf:=Hfin.out
    simp only[Hh1.out,Hh2.out,Hh3.out,Bool.false_eq_true,if_false] at hf
    subst hf
    go_wp2_with (fail)
    refine(Hf.out _ H4.out.1).mono ?_
    rintro e w9 ⟨rfl,hP,hB⟩
    have H:=Lhd (And.intro hP ((But.of_below Hb1.out).trans' (H4.out.2.trans' hB)))
    clear hP hB
    go_wp2
    go_ret
    exact⟨rfl,H.out.1,H.out.2⟩
   ·have hm:=Hmay.out (str [98,111,111,108]) w3 H3.out.1
    rw[h1] at hm
    simp only[str] at hm
    have Hm:=Lhd hm
    have hf:=Hfin.out
    simp only[Hh1.out,Hh2.out,h1,Bool.false_eq_true,if_false,if_true] at hf
    subst hf
    clear hm h1
    go_wp2_with (fail)
    refine Hm.out.mono ?_
    rintro e w9 ⟨rfl,hP,hB⟩
    have H:=Lhd (And.intro hP ((But.of_below Hb1.out).trans' (H3.out.2.trans' hB)))
    clear hP hB
    go_wp2
    go_ret
    exact⟨rfl,H.out.1,H.out.2⟩
  ·have hm:=Hmay.out (str [116,101,120,116]) w2 H2.out.1
   rw[h1] at hm
   simp only[str] at hm
   have Hm:=Lhd hm
   have hf:=Hfin.out
   simp only[Hh1.out,h1,Bool.false_eq_true,if_false,if_true] at hf
   subst hf
   clear hm h1
   go_wp2_with (fail)
   refine Hm.out.mono ?_
   rintro e w9 ⟨rfl,hP,hB⟩
   have H:=Lhd (And.intro hP ((But.of_below Hb1.out).trans' (H2.out.2.trans' hB)))
   clear hP hB
   go_wp2
   go_ret
   exact⟨rfl,H.out.1,H.out.2⟩
 ·have hm:=Hmay.out (str [105,110,116]) w1 H1.out.1
  rw[h1] at hm
  simp only[str] at hm
  have Hm:=Lhd hm
  have hf:=Hfin.out
  simp only[h1,if_true] at hf
  subst hf
  clear hm h1
  go_wp2_with (fail)
  refine Hm.out.mono ?_
  rintro e w9 ⟨rfl,hP,hB⟩
  have H:=Lhd (And.intro hP ((But.of_below Hb1.out).trans' (H1.out.2.trans' hB)))
  clear hP hB
  go_wp2
  go_ret
  exact⟨rfl,H.out.1,H.out.2⟩
end Go.Proofs.YtgbgiknfejpcoaaGreat

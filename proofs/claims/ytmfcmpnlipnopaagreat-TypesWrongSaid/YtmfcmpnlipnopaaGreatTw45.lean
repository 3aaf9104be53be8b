/- Parts of this proof, one behind the other: TyC, TyD. -/
import Derived.Test.YtmfcmpnlipnopaaGreatTw44
import Derived.Test.YtmfcmpnlipnopaaGreatTw36
import Derived.Test.YtmfcmpnlipnopaaGreatTw34
import Derived.Deep.DeepCutAuto
import Derived.Outline
set_option maxRecDepth 1000000
set_option maxHeartbeats 40000000
namespace Go.Proofs.YtmfcmpnlipnopaaGreat
open Go.RowKit Go.Afx
theorem catBox {w:World} {g:Nat} {T:TypeId} {v0 v1 v2 v3 v4:Value} (h:IsBlk w g T #[v0,v1,v2,v3,v4]) :
  w.cell? ⟨g,0,none⟩=some v0∧w.cell? ⟨g,1,none⟩=some v1∧w.cell? ⟨g,2,none⟩=some v2∧w.cell? ⟨g,3,none⟩=some v3∧w.cell? ⟨g,4,none⟩=some v4∧g<w.heap.size:=by
 have h0:=h.cell 0;have h1:=h.cell 1;have h2:=h.cell 2;have h3:=h.cell 3;have h4:=h.cell 4
 simp at h0 h1 h2 h3 h4
 exact⟨h0,h1,h2,h3,h4,h.lt⟩
theorem wrong_walk (HRB:∀ F:Nat→Prop,RBuiltS F 101) (F:Nat→Prop) (A1 A2 A3 A4 A5:Option Addr) (n1 c1 n2 c2 n3 c3 n4 c4 n5 c5:Nat) (xs1 xs2 xs4:List Nat) (name src part:ByteArray) (fuel:Int) (Ap:Option Addr) (np cp:Nat) (params:List Co) (A A':Option Addr) (n c n' c':Nat) (xs:List Lf) (ys:List Kn) (Ak:Option Addr) (nk ck:Nat) (ks:List Int) (w:World)
  (g1:LsAt F w 6 SchR A1 n1 c1 xs1) (g2:LsAt F w 2 StrR A2 n2 c2 xs2) (g4:LsAt F w 2 StrR A4 n4 c4 xs4)
  (hp:LsAt F w 2 CoRow Ap np cp params) (h1:LsAt F w 6 (LfAt F w) A n c xs) (h2:LsAt F w 8 (KnAt F w) A' n' c' ys) (hks:LsAt F w 1 IRow Ak nk ck ks) (hF:∀ k,F k→k<w.heap.size) (okn:okS name) (oks:okS src) (okp:okS part) (okf:okI fuel) :
  Calls Tryz.prog 3 #[.agg #[.slice A1 n1 c1,.slice A2 n2 c2,.slice A3 n3 c3,.slice A4 n4 c4,.slice A5 n5 c5],.agg #[.string name,.string src,.string part,.int .i64 fuel,.slice Ap np cp,.slice A n c,.slice A' n' c',.slice Ak nk ck]] w fun x w'=>x=.returned (.bool true)∧Below w.heap.size w w':=by
 have hba:Below w.heap.size w (w.alloc (.cells #[.slice A1 n1 c1,.slice A2 n2 c2,.slice A3 n3 c3,.slice A4 n4 c4,.slice A5 n5 c5] 27)):=(Below.refl _ _).alloc (Nat.le_refl _) _
 have hxa:IsBlk (w.alloc (.cells #[.slice A1 n1 c1,.slice A2 n2 c2,.slice A3 n3 c3,.slice A4 n4 c4,.slice A5 n5 c5] 27)) w.heap.size 27 #[.slice A1 n1 c1,.slice A2 n2 c2,.slice A3 n3 c3,.slice A4 n4 c4,.slice A5 n5 c5]:=IsBlk.laid _ _ _
 have hb1:Below w.heap.size w ((w.alloc (.cells #[.slice A1 n1 c1,.slice A2 n2 c2,.slice A3 n3 c3,.slice A4 n4 c4,.slice A5 n5 c5] 27)).alloc (.cells #[.string name,.string src,.string part,.int .i64 fuel,.slice Ap np cp,.slice A n c,.slice A' n' c',.slice Ak nk ck] 33)):=hba.alloc hba.size _
 have hx1:IsBlk ((w.alloc (.cells #[.slice A1 n1 c1,.slice A2 n2 c2,.slice A3 n3 c3,.slice A4 n4 c4,.slice A5 n5 c5] 27)).alloc (.cells #[.string name,.string src,.string part,.int .i64 fuel,.slice Ap np cp,.slice A n c,.slice A' n' c',.slice Ak nk ck] 33)) w.heap.size 27 #[.slice A1 n1 c1,.slice A2 n2 c2,.slice A3 n3 c3,.slice A4 n4 c4,.slice A5 n5 c5]:=hxa.alloc _
 have HOf:=Lhd (of_any HRB F name src part fuel Ap np cp params A A' n c n' c' xs ys Ak nk ck ks ((w.alloc (.cells #[.slice A1 n1 c1,.slice A2 n2 c2,.slice A3 n3 c3,.slice A4 n4 c4,.slice A5 n5 c5] 27)).alloc (.cells #[.string name,.string src,.string part,.int .i64 fuel,.slice Ap np cp,.slice A n c,.slice A' n' c',.slice Ak nk ck] 33)) (hp.below hb1) (h1.conv (Kept.of_below hb1) (fun _ _ _ h=>h) (fun r x _ hx=>LfAt.below hx hb1)) (h2.conv (Kept.of_below hb1) (fun _ _ _ h=>h) (fun r x _ hx=>KnAt.below hx hb1)) (hks.below hb1) (fun k hk=>by have:=hF k hk;have:=hb1.size;omega) okn oks okp okf)
 have HA:=Lhd (fun W=>awake15_any W)
 have HGr:=Lhd (fun W (hW:Below w.heap.size w W)=>great15_any F A1 A2 A3 A4 A5 n1 c1 n2 c2 n3 c3 n4 c4 n5 c5 xs1 xs2 xs4 W (g1.below hW) (g2.below hW) (g4.below hW))
 have Hb1:=Lhd hb1
 have Hx1:=Lhd hx1
 clear hp h1 h2 hks hb1 okn oks okp okf hF g1 g2 g4 hba hxa hx1
 go_enter Tryz.func3,Tryz.ntmps3
 go_upto_region 2 with (go_at_call 5;refine HOf.out.mono ?_;rintro e w2 ⟨nm,sr,pt,fu,Ap2,np2,cp2,Ab2,nb2,cb2,m,d,r,ok,rfl,hb2,hP⟩)
 obtain⟨w3,Hw3⟩:∃ w3,Hid (w3=w2.alloc (.cells #[.string nm,.string sr,.string pt,.int .i64 fu,.slice Ap2 np2 cp2,.slice Ab2 nb2 cb2] 36)):=⟨_,rfl⟩
 rw[← Hw3.out]
 have hb3:Below w2.heap.size w2 w3:=by rw[Hw3.out];exact(Below.refl _ _).alloc (Nat.le_refl _) _
 have hx3:IsBlk w3 w2.heap.size 36 #[.string nm,.string sr,.string pt,.int .i64 fu,.slice Ap2 np2 cp2,.slice Ab2 nb2 cb2]:=by rw[Hw3.out];exact IsBlk.laid _ _ _
 have hy3:IsBlk w3 w.heap.size 27 #[.slice A1 n1 c1,.slice A2 n2 c2,.slice A3 n3 c3,.slice A4 n4 c4,.slice A5 n5 c5]:=by rw[Hw3.out];exact(Hx1.out.as_was (hb2.block _ Hx1.out.lt)).alloc _
 have H03:=Lhd ((Hb1.out.trans (hb2.mono Hb1.out.size)).trans (hb3.mono (Nat.le_trans Hb1.out.size hb2.size)))
 have Hb3:=Lhd hb3
 have Hx:=Lhd (fun W (hW:Below w3.heap.size w3 W)=>prBoxK (hx3.as_was (hW.block _ hx3.lt)))
 have Hy:=Lhd (fun W (hW:Below w3.heap.size w3 W)=>catBox (hy3.as_was (hW.block _ hy3.lt)))
 clear hb2 hb3 HOf Hb1 Hx1
 have hR:Below w3.heap.size w3 w3:=Below.refl _ _
 obtain⟨p0,p1,p2,p3,p4,p5,pl⟩:=Hx.out _ hR
 obtain⟨q0,q1,q2,q3,q4,ql⟩:=Hy.out _ hR
 cases ok
 ·clear hP hx3 hy3
  go_wp2_with (go_at_call 7;refine(HA.out _).mono ?_;rintro x w4 ⟨rfl,hb4⟩)
  go_ret
  exact⟨rfl,H03.out.trans (hb4.mono H03.out.size)⟩
 obtain⟨p,hPr,hnd,hr,hp12,hb12⟩:=hP rfl
 have hPr3:=hPr.below Hb3.out
 have hri:=fun W (hW:Below w3.heap.size w3 W)=>(show Calls Tryz.prog 30 #[.agg #[.string nm,.string sr,.string pt,.int .i64 fu,.slice Ap2 np2 cp2,.slice Ab2 nb2 cb2]] W fun x w'=>x=.returned (.bool r)∧Below W.heap.size W w' from by
  have h:=right_any _ 101 p _ W (hPr3.below hW) (by omega) (by omega)
  rw[← hr] at h
  exact h)
 cases r
 case' true =>
  clear hP hx3 hy3 hPr hPr3 hnd hr hri
  go_wp2_with (go_at_call 7;refine(HA.out _).mono ?_;rintro x w4 ⟨rfl,hb4⟩;replace hR:=hR.trans (hb4.mono hR.size))
 case' false =>
  have HG:=Lhd (fun W (hW:Below w3.heap.size w3 W)=>HGr.out W (H03.out.trans (hW.mono H03.out.size)))
  have HFa:=Lhd (fun W (hW:Below w3.heap.size w3 W)=>fault_wrong A1 A2 A3 A4 A5 n1 c1 n2 c2 n3 c3 n4 c4 n5 c5 nm sr pt fu Ap2 np2 cp2 Ab2 nb2 cb2 W (fun W' hW'=>hri W' (hW.trans (hW'.mono hW.size))))
  have HFi:=Lhd (fun W (hW:Below w3.heap.size w3 W)=>fits_wrong A1 A2 A3 A4 A5 n1 c1 n2 c2 n3 c3 n4 c4 n5 c5 nm sr pt fu Ap2 np2 cp2 Ab2 nb2 cb2 W (fun W' hW'=>hri W' (hW.trans (hW'.mono hW.size))))
  clear hP hx3 hy3 hPr hPr3 hnd hr hri HGr
  go_wp2_with (first
   | (go_at_call 6;(with_reducible refine(HG.out _ hR).mono ?_);rintro x w5 ⟨⟨b,rfl⟩,hb5⟩;replace hR:=hR.trans (hb5.mono hR.size);obtain⟨p0,p1,p2,p3,p4,p5,pl⟩:=Hx.out _ hR;obtain⟨q0,q1,q2,q3,q4,ql⟩:=Hy.out _ hR)
   | (go_at_call 8;(with_reducible refine(HFa.out _ hR).mono ?_);rintro x w6 ⟨rfl,hb6⟩;replace hR:=hR.trans (hb6.mono hR.size);obtain⟨p0,p1,p2,p3,p4,p5,pl⟩:=Hx.out _ hR;obtain⟨q0,q1,q2,q3,q4,ql⟩:=Hy.out _ hR)
   | (go_at_call 9;(with_reducible refine(HFi.out _ hR).mono ?_);rintro x w7 ⟨rfl,hb7⟩;replace hR:=hR.trans (hb7.mono hR.size);obtain⟨p0,p1,p2,p3,p4,p5,pl⟩:=Hx.out _ hR;obtain⟨q0,q1,q2,q3,q4,ql⟩:=Hy.out _ hR)
   | (go_at_call 7;refine(HA.out _).mono ?_;rintro x w20 ⟨rfl,hb20⟩;replace hR:=hR.trans (hb20.mono hR.size)))
 all_goals
  go_ret
  exact⟨rfl,H03.out.trans (hR.mono H03.out.size)⟩
open Go.RowKit Go.Afx Go.ChangeShapes Go.WideShapes Go.Deep
section
variable {H:Type} {enc:TypeId×Value→H} {w:World} {base:Nat} {spare:Nat→Bool} {held:Bool}
theorem five_of {r:List Value} (h:r.length=5):∃ a b c d e,r=[a,b,c,d,e]:=by
 match r,h with
 | [a,b,c,d,e],_=>exact⟨a,b,c,d,e,rfl⟩
theorem cIx:Tryz.prog.cellsOf 48=1:=by kernel_rfl
theorem cSc:Tryz.prog.cellsOf 22=1:=by kernel_rfl
theorem cSt:Tryz.prog.cellsOf 23=1:=by kernel_rfl
theorem cWi:Tryz.prog.cellsOf 24=1:=by kernel_rfl
theorem cPc:Tryz.prog.cellsOf 25=1:=by kernel_rfl
theorem sch_of {m:Nat} {r:List Value} {y:DataW H×List MemPlace} (hl:r.length=6) (h:DataW.trod enc Tryz.prog w base spare held m 50 r=some y):∃ x:Nat,SchR r x:=by
 obtain⟨a,b,c,d,e,f,rfl⟩:=six_of hl
 have hF:=fields_of Tryz.underlying50 h
 obtain⟨m0,y0,h0⟩:=hF 0 _ rfl
 obtain⟨m1,y1,h1⟩:=hF 1 _ rfl
 obtain⟨m2,y2,h2⟩:=hF 2 _ rfl
 obtain⟨m3,y3,h3⟩:=hF 3 _ rfl
 obtain⟨m4,y4,h4⟩:=hF 4 _ rfl
 obtain⟨m5,y5,h5⟩:=hF 5 _ rfl
 replace h0:DataW.trod enc Tryz.prog w base spare held m0 9 (([a,b,c,d,e,f]:List Value).drop 0 |>.take (Tryz.prog.cellsOf 9))=some y0:=h0
 rw[cS] at h0
 replace h1:DataW.trod enc Tryz.prog w base spare held m1 28 (([a,b,c,d,e,f]:List Value).drop 1 |>.take (Tryz.prog.cellsOf 28))=some y1:=h1
 rw[cCo] at h1
 replace h2:DataW.trod enc Tryz.prog w base spare held m2 48 (([a,b,c,d,e,f]:List Value).drop 2 |>.take (Tryz.prog.cellsOf 48))=some y2:=h2
 rw[cIx] at h2
 replace h3:DataW.trod enc Tryz.prog w base spare held m3 3 (([a,b,c,d,e,f]:List Value).drop 3 |>.take (Tryz.prog.cellsOf 3))=some y3:=h3
 rw[cI] at h3
 replace h4:DataW.trod enc Tryz.prog w base spare held m4 3 (([a,b,c,d,e,f]:List Value).drop 4 |>.take (Tryz.prog.cellsOf 3))=some y4:=h4
 rw[cI] at h4
 replace h5:DataW.trod enc Tryz.prog w base spare held m5 3 (([a,b,c,d,e,f]:List Value).drop 5 |>.take (Tryz.prog.cellsOf 3))=some y5:=h5
 rw[cI] at h5
 obtain⟨s,rfl,_⟩:=str_of h0
 obtain⟨Ac,nc,cc,rfl⟩:=slice_of Tryz.underlying28 h1
 obtain⟨Ai,ni,ci,rfl⟩:=slice_of Tryz.underlying48 h2
 obtain⟨l,rfl,_⟩:=int_of h3
 obtain⟨p,rfl,_⟩:=int_of h4
 obtain⟨q,rfl,_⟩:=int_of h5
 exact⟨nc,s,Ac,cc,Ai,ni,ci,l,p,q,rfl⟩
theorem schs_of {m:Nat} {v:Value} {y:DataW H×List MemPlace} (h:DataW.trod enc Tryz.prog w base spare held m 22 [v]=some y):∃ A n c xs,v=.slice A n c∧LsAt (Old w) w 6 SchR A n c xs:=by
 obtain⟨A,n,c,rfl⟩:=slice_of Tryz.underlying22 h
 obtain⟨xs,hx⟩:=ls_of_trod Tryz.underlying22 (by kernel_rfl) (by omega) SchR (fun r m y hr hy=>sch_of hr hy) h
 exact⟨A,n,c,xs,rfl,hx⟩
theorem strm_of {m:Nat} {r:List Value} {y:DataW H×List MemPlace} (hl:r.length=2) (h:DataW.trod enc Tryz.prog w base spare held m 52 r=some y):∃ x:Nat,StrR r x:=by
 obtain⟨a,b,rfl⟩:∃ a b,r=[a,b]:=by
  match r,hl with
  | [a,b],_=>exact⟨a,b,rfl⟩
 have hF:=fields_of Tryz.underlying52 h
 obtain⟨m0,y0,h0⟩:=hF 0 _ rfl
 obtain⟨m1,y1,h1⟩:=hF 1 _ rfl
 replace h0:DataW.trod enc Tryz.prog w base spare held m0 9 (([a,b]:List Value).drop 0 |>.take (Tryz.prog.cellsOf 9))=some y0:=h0
 rw[cS] at h0
 replace h1:DataW.trod enc Tryz.prog w base spare held m1 28 (([a,b]:List Value).drop 1 |>.take (Tryz.prog.cellsOf 28))=some y1:=h1
 rw[cCo] at h1
 obtain⟨s,rfl,_⟩:=str_of h0
 obtain⟨Ac,nc,cc,rfl⟩:=slice_of Tryz.underlying28 h1
 exact⟨nc,s,Ac,cc,rfl⟩
theorem strms_of {m:Nat} {v:Value} {y:DataW H×List MemPlace} (h:DataW.trod enc Tryz.prog w base spare held m 23 [v]=some y):∃ A n c xs,v=.slice A n c∧LsAt (Old w) w 2 StrR A n c xs:=by
 obtain⟨A,n,c,rfl⟩:=slice_of Tryz.underlying23 h
 obtain⟨xs,hx⟩:=ls_of_trod Tryz.underlying23 (by kernel_rfl) (by omega) StrR (fun r m y hr hy=>strm_of hr hy) h
 exact⟨A,n,c,xs,rfl,hx⟩
theorem cat_of {m:Nat} {r:List Value} {y:DataW H×List MemPlace} (hl:r.length=5) (h:DataW.trod enc Tryz.prog w base spare held m 27 r=some y):∃ (A1 A2 A3 A4 A5:Option Addr) (n1 c1 n2 c2 n3 c3 n4 c4 n5 c5:Nat) (xs1 xs2 xs4:List Nat),r=[.slice A1 n1 c1,.slice A2 n2 c2,.slice A3 n3 c3,.slice A4 n4 c4,.slice A5 n5 c5]∧LsAt (Old w) w 6 SchR A1 n1 c1 xs1∧LsAt (Old w) w 2 StrR A2 n2 c2 xs2∧LsAt (Old w) w 2 StrR A4 n4 c4 xs4:=by
 obtain⟨a,b,c,d,e,rfl⟩:=five_of hl
 have hF:=fields_of Tryz.underlying27 h
 obtain⟨m0,y0,h0⟩:=hF 0 _ rfl
 obtain⟨m1,y1,h1⟩:=hF 1 _ rfl
 obtain⟨m2,y2,h2⟩:=hF 2 _ rfl
 obtain⟨m3,y3,h3⟩:=hF 3 _ rfl
 obtain⟨m4,y4,h4⟩:=hF 4 _ rfl
 replace h0:DataW.trod enc Tryz.prog w base spare held m0 22 (([a,b,c,d,e]:List Value).drop 0 |>.take (Tryz.prog.cellsOf 22))=some y0:=h0
 rw[cSc] at h0
 replace h1:DataW.trod enc Tryz.prog w base spare held m1 23 (([a,b,c,d,e]:List Value).drop 1 |>.take (Tryz.prog.cellsOf 23))=some y1:=h1
 rw[cSt] at h1
 replace h2:DataW.trod enc Tryz.prog w base spare held m2 24 (([a,b,c,d,e]:List Value).drop 2 |>.take (Tryz.prog.cellsOf 24))=some y2:=h2
 rw[cWi] at h2
 replace h3:DataW.trod enc Tryz.prog w base spare held m3 23 (([a,b,c,d,e]:List Value).drop 3 |>.take (Tryz.prog.cellsOf 23))=some y3:=h3
 rw[cSt] at h3
 replace h4:DataW.trod enc Tryz.prog w base spare held m4 25 (([a,b,c,d,e]:List Value).drop 4 |>.take (Tryz.prog.cellsOf 25))=some y4:=h4
 rw[cPc] at h4
 obtain⟨A1,n1,c1,xs1,rfl,k1⟩:=schs_of h0
 obtain⟨A2,n2,c2,xs2,rfl,k2⟩:=strms_of h1
 obtain⟨A3,n3,c3,rfl⟩:=slice_of Tryz.underlying24 h2
 obtain⟨A4,n4,c4,xs4,rfl,k4⟩:=strms_of h3
 obtain⟨A5,n5,c5,rfl⟩:=slice_of Tryz.underlying25 h4
 exact⟨A1,A2,A3,A4,A5,n1,c1,n2,c2,n3,c3,n4,c4,n5,c5,xs1,xs2,xs4,rfl,k1,k2,k4⟩
end
end Go.Proofs.YtmfcmpnlipnopaaGreat

/- Parts of this proof, one behind the other: RgL. -/
import Derived.Test.YtdgapmnojmhllaaGreatDoorPf45
set_option maxRecDepth 1000000
set_option maxHeartbeats 40000000
namespace Go.Proofs.YtdgapmnojmhllaaGreatDoor
open Go.RowKit Go.Afx
theorem dSingle_text (g gw:Nat) (W:Wds) (s:PSt) (w:World) (h:DAt g gw W s w) (hbad:s.bad=false) (h_neg:mayP W (str [45]) s=(false,s)) (h_k1:(!s.bad&&((W.look s.at_).kind==1))=false) (hk:(W.look s.at_).kind=2) :
  Calls Tryz.prog 67 #[.pointer (some ⟨g,0,none⟩)] w (GivesD g gw W (s.on) (.mk 2 0 (W.look s.at_).text nil0 nil0 []) w):=by
 have hz:=And.intro h.lt h.wl
 obtain⟨w1,Hw1⟩:∃ w1,Hid (w1=w.alloc (.cells zero6 32)):=⟨_,rfl⟩
 have hb1:Below w.heap.size w w1:=by rw[Hw1.out];exact(Below.refl _ _).alloc (Nat.le_refl _) _
 have hk1:IsBlk w1 w.heap.size 32 zero6:=by rw[Hw1.out];exact IsBlk.laid _ _ _
 have hsz:w1.heap.size=w.heap.size+1:=by rw[Hw1.out];simp
 have h1:=h.below hb1
 have H1:=Lhd (And.intro h1 (But.refl (fun k=>k=g) w1))
 have Hb1:=Lhd (But.of_below (S:=fun k=>k=g) hb1)
 have Hk1:=Lhd hk1
 have Hz:=Lhd (And.intro hz hsz)
 have Hh:=Lhd h
 have T_neg:=Lhd (mayT g gw W s (str [45]) false s h_neg)
 have T_k1:=Lhd (kindT g gw W s 1 false (by decide) h_k1)
 have TK:=Lhd (kindT g gw W s 2 true (by decide) (by rw[hbad,hk];rfl))
 have hlt:=kind_in (by decide) hk
 have hsm:=at_small h
 have Hok:=Lhd (look_ok h hlt)
 have Hlt:=Lhd hlt
 simp only[str] at T_neg
 obtain⟨Aw,nw,cw,c0,c1,c2,c3,c4,cg,cf⟩:=h1.cells
 rw[hbad] at c4
 clear h h1 hz hb1 hk1 hsz hbad c0 c1 c2 c3 cf h_neg h_k1 hk hlt
 go_enter Tryz.func67,Tryz.ntmps67
 go_upto_region 6 with (fail)
 rw[← Hw1.out]
 go_wp2_with (fail)
 refine(T_neg.out _ H1.out.1).mono ?_
 rintro e w2 ⟨rfl,hP,hB⟩
 have H2:=Lhd (And.intro hP (H1.out.2.trans' hB))
 clear hP hB c4 cg
 go_wp2_with (fail)
 refine(T_k1.out _ H2.out.1).mono ?_
 rintro e w3 ⟨rfl,hP,hB⟩
 have H3:=Lhd (And.intro hP (H2.out.2.trans' hB))
 clear hP hB
 go_wp2_with (fail)
 refine(TK.out _ H3.out.1).mono ?_
 rintro e w4 ⟨rfl,hP,hB⟩
 have hB4:=H3.out.2.trans' hB
 have h5:=hP.on_ Hlt.out
 have hB5:=but_cell hB4 1 (.int .i64 ((s.at_+1:Nat):Int))
 obtain⟨w5,Hw5⟩:∃ w5,Hid (w5=w4.setCell ⟨g,1,none⟩ (.int .i64 ((s.at_:Int)+1))):=⟨_,rfl⟩
 have Hw5':Hid (w4.setCell ⟨g,1,none⟩ (.int .i64 ((s.at_+1:Nat):Int))=w5):=Hw5.out.symm
 rw[Hw5'.out] at h5 hB5
 obtain⟨A5,n5,k5,d0,d1,d2,d3,d4,dg,df⟩:=hP.cells
 clear hP hB hB4 d2 d3 d4
 go_upto_region 16 with (fail)
 rw[← Hw5.out]
 clear d0 d1 dg df
 obtain⟨A2,n2,k2,d0,d1,d2,d3,d4,dg,df⟩:=h5.cells
 replace d1:w5.cell? ⟨g,1,none⟩=some (.int .i64 ((s.at_:Int)+1)):=d1
 obtain⟨A3,m3,k3,b2,o2,e0,hw,hm⟩:=h5.word Hlt.out
 clear hm
 rw[e0] at d0
 cases d0
 obtain⟨rfl,x0,x1,x2,x3,xb,xne,xin,xcap,_⟩:=hw
 have i0:(0:Int)≤(s.at_:Int):=by omega
 have i1:(s.at_:Int)<(n2:Int):=by omega
 have i2:IntKind.i64.wrap ((s.at_:Int)+1-1)=(s.at_:Int):=by rw[i64_of ⟨by omega,by omega⟩];omega
 have i3:IntKind.i64.wrap (s.at_:Int)=(s.at_:Int):=i64_of ⟨by omega,by omega⟩
 have hdr:Below w5.heap.size w5 w5.drew:=(Below.refl _ _).drew
 obtain⟨hk,he1,he2⟩:=lay6_end (x:=.mk 2 0 (W.look s.at_).text nil0 nil0 []) (leaf_at (Fr w1) w5.drew 2 0 (W.look s.at_).text ⟨#[]⟩ (by decide) (by decide) (by constructor<;>simp) Hok.out.2.1 okS_0) (h5.below hdr) (hB5.trans' (But.of_below hdr)) Hb1.out Hk1.out (Nat.le_refl _) Hz.out.1
 have H:=Lhd (And.intro he1 he2)
 have Hk:=Lhd hk
 clear h5 hB5 x0 x2 x3 hk he1 he2 hdr
 go_still_tail 13,(by kernel_rfl)
 change wpList _ _ _ _ _ w5.drew
 generalize w5.drew=w6 at *
 obtain⟨y0,y1,y2,y3,y4,y5,yl⟩:=cells6 Hk.out
 have fx:=Hk.out.frozen
 go_wp2
 rw[lay6_eq]
 exact bodyPost_ret (ret_ex Tryz.results67 rfl H.out.1 rfl) rfl H.out.2
theorem dSingle_paren (g gw:Nat) (W:Wds) (s:PSt) (w:World) (h:DAt g gw W s w) (hbad:s.bad=false) (h_neg:mayP W (str [45]) s=(false,s)) (h_k1:(!s.bad&&((W.look s.at_).kind==1))=false) (h_k2:(!s.bad&&((W.look s.at_).kind==2))=false) (h_true:mayP W (str [116,114,117,101]) s=(false,s)) (h_false:mayP W (str [102,97,108,115,101]) s=(false,s)) (f:Ex×PSt) (ht:mayP W (str [40]) s=(true,s.on)) (hE:∀ w2,DAt g gw W (enterP s.on) w2→Calls Tryz.prog 27 #[.pointer (some ⟨g,0,none⟩),.int .i64 1] w2 (GivesD g gw W f.2 f.1 w2)) :
  Calls Tryz.prog 67 #[.pointer (some ⟨g,0,none⟩)] w (GivesD g gw W (leaveP (mustP W [str [41]] f.2)) (f.1) w):=by
 have hz:=And.intro h.lt h.wl
 obtain⟨w1,Hw1⟩:∃ w1,Hid (w1=w.alloc (.cells zero6 32)):=⟨_,rfl⟩
 have hb1:Below w.heap.size w w1:=by rw[Hw1.out];exact(Below.refl _ _).alloc (Nat.le_refl _) _
 have hk1:IsBlk w1 w.heap.size 32 zero6:=by rw[Hw1.out];exact IsBlk.laid _ _ _
 have hsz:w1.heap.size=w.heap.size+1:=by rw[Hw1.out];simp
 have h1:=h.below hb1
 have H1:=Lhd (And.intro h1 (But.refl (fun k=>k=g) w1))
 have Hb1:=Lhd (But.of_below (S:=fun k=>k=g) hb1)
 have Hk1:=Lhd hk1
 have Hz:=Lhd (And.intro hz hsz)
 have Hh:=Lhd h
 have T_neg:=Lhd (mayT g gw W s (str [45]) false s h_neg)
 have T_k1:=Lhd (kindT g gw W s 1 false (by decide) h_k1)
 have T_k2:=Lhd (kindT g gw W s 2 false (by decide) h_k2)
 have T_true:=Lhd (mayT g gw W s (str [116,114,117,101]) false s h_true)
 have T_false:=Lhd (mayT g gw W s (str [102,97,108,115,101]) false s h_false)
 have TY:=Lhd (mayT g gw W s (str [40]) true s.on ht)
 have Hent:=Lhd (enterT g gw W s.on)
 have HE:=Lhd hE
 have Htk:=Lhd (takeT g gw W f.2 (str [41]))
 simp only[str] at TY
 generalize hsm:mustP W [str [41]] f.2=sm at *
 simp only[str] at Htk
 simp only[str] at T_neg T_true T_false
 obtain⟨Aw,nw,cw,c0,c1,c2,c3,c4,cg,cf⟩:=h1.cells
 rw[hbad] at c4
 clear h h1 hz hb1 hk1 hsz hbad c0 c1 c2 c3 cf h_neg h_k1 h_k2 h_true h_false ht hE hsm
 go_enter Tryz.func67,Tryz.ntmps67
 go_upto_region 6 with (fail)
 rw[← Hw1.out]
 go_wp2_with (fail)
 refine(T_neg.out _ H1.out.1).mono ?_
 rintro e w2 ⟨rfl,hP,hB⟩
 have H2:=Lhd (And.intro hP (H1.out.2.trans' hB))
 clear hP hB c4 cg
 go_wp2_with (fail)
 refine(T_k1.out _ H2.out.1).mono ?_
 rintro e w3 ⟨rfl,hP,hB⟩
 have H3:=Lhd (And.intro hP (H2.out.2.trans' hB))
 clear hP hB
 go_wp2_with (fail)
 refine(T_k2.out _ H3.out.1).mono ?_
 rintro e w4 ⟨rfl,hP,hB⟩
 have H4:=Lhd (And.intro hP (H3.out.2.trans' hB))
 clear hP hB
 go_wp2_with (fail)
 refine(T_true.out _ H4.out.1).mono ?_
 rintro e w5 ⟨rfl,hP,hB⟩
 have H5:=Lhd (And.intro hP (H4.out.2.trans' hB))
 clear hP hB
 go_wp2_with (fail)
 refine(T_false.out _ H5.out.1).mono ?_
 rintro e w6 ⟨rfl,hP,hB⟩
 have H6:=Lhd (And.intro hP (H5.out.2.trans' hB))
 clear hP hB
 go_wp2_with (fail)
 refine(TY.out _ H6.out.1).mono ?_
 rintro e w7 ⟨rfl,hP,hB⟩
 have H7:=Lhd (And.intro hP (H6.out.2.trans' hB))
 clear hP hB
 go_wp2_with (fail)
 refine(Hent.out _ H7.out.1).mono ?_
 rintro e w8 ⟨rfl,hP,hB⟩
 have H8:=Lhd (And.intro hP (H7.out.2.trans' hB))
 clear hP hB
 go_wp2_with (fail)
 refine(HE.out _ H8.out.1).mono ?_
 rintro e w9 ⟨row,D,rfl,hx,hP,hB⟩
 obtain⟨A2,m2,c2,rfl⟩:=ex_row6 hx
 have hal:=(Below.refl w9.heap.size w9).alloc (Nat.le_refl _) (.cells #[.int .i64 f.1.op,.int .i64 f.1.n,.string f.1.s,.string f.1.name,.string f.1.src,.slice A2 m2 c2] 32)
 have hkx:IsBlk (w9.alloc (.cells #[.int .i64 f.1.op,.int .i64 f.1.n,.string f.1.s,.string f.1.name,.string f.1.src,.slice A2 m2 c2] 32)) w9.heap.size 32 #[.int .i64 f.1.op,.int .i64 f.1.n,.string f.1.s,.string f.1.name,.string f.1.src,.slice A2 m2 c2]:=IsBlk.laid _ _ _
 obtain⟨w5,Hw5⟩:∃ w5,Hid (w5=w9.alloc (.cells #[.int .i64 f.1.op,.int .i64 f.1.n,.string f.1.s,.string f.1.name,.string f.1.src,.slice A2 m2 c2] 32)):=⟨_,rfl⟩
 rw[← Hw5.out] at hal hkx
 have hB15:=(H8.out.2.trans' hB).trans' (But.of_below hal)
 have hs8:=H8.out.2.size
 have hs9:=hB.size
 have hx5:ExAt (Fr w1) D w5 (row6 f.1 A2 m2 c2) f.1:=ExAt.conv (fun k (hk:w8.heap.size≤k)=>by show w1.heap.size≤k;omega) (Kept.of_below hal) D (Nat.le_refl _) hx
 have H5:=Lhd (And.intro (hP.below hal) (And.intro hB15 (And.intro hx5 (And.intro hkx (show g≠w9.heap.size by have:=Hz.out;omega)))))
 clear hx hP hB hal hkx hB15 hs8 hs9 hx5
 go_upto_region 24 with (fail)
 rw[← Hw5.out]
 go_wp2_with (fail)
 refine(Htk.out _ H5.out.1).mono ?_
 rintro e w6 ⟨rfl,hP,hB⟩
 have hone:But (fun k=>k=g) w6 (w6.setCell ⟨g,2,none⟩ (.int .i64 (wrap64 (sm.deep-1)))):=but_cell (But.refl _ _) 2 _
 have hP7:=deep_leave hP
 have hB57:=hB.trans' hone
 have hkx7:=one_blk H5.out.2.2.2.1 hB57 H5.out.2.2.2.2
 have hx7:=H5.out.2.2.1.kept (Kept.of_but hB57 fun k (hk:w1.heap.size≤k) (e:k=g)=>by have:=Hz.out;omega)
 obtain⟨hk,he1,he2⟩:=lay6_end (x:=f.1) hx7 hP7 (H5.out.2.1.trans' hB57) Hb1.out Hk1.out (Nat.le_refl _) Hz.out.1
 obtain⟨B,n,c,c0,c1,c2',c3,c4,cg,cf⟩:=hP.cells
 obtain⟨w7,Hw7⟩:∃ w7,Hid (w7=w6.setCell ⟨g,2,none⟩ (.int .i64 (wrap64 (sm.deep-1)))):=⟨_,rfl⟩
 rw[← Hw7.out] at hk he1 he2 hkx7
 have H:=Lhd (And.intro he1 he2)
 have HkK:=Lhd (And.intro hk hkx7)
 clear hP hB hone hP7 hB57 hkx7 hx7 hk he1 he2 c0 c1 c3 c4
 go_upto_region 26 with (fail)
 rw[← Hw7.out]
 clear c2' cg cf
 obtain⟨x0,x1,x2,x3,x4,x5,xl⟩:=cells6 HkK.out.1
 obtain⟨y0,y1,y2,y3,y4,y5,yl⟩:=cells6 HkK.out.2
 have fx:=HkK.out.1.frozen
 go_wp2
 rw[lay6_eq]
 exact bodyPost_ret (ret_ex Tryz.results67 rfl H.out.1 rfl) rfl H.out.2
theorem dSingle_var (g gw:Nat) (W:Wds) (s:PSt) (w:World) (h:DAt g gw W s w) (hbad:s.bad=false) (h_neg:mayP W (str [45]) s=(false,s)) (h_k1:(!s.bad&&((W.look s.at_).kind==1))=false) (h_k2:(!s.bad&&((W.look s.at_).kind==2))=false) (h_true:mayP W (str [116,114,117,101]) s=(false,s)) (h_false:mayP W (str [102,97,108,115,101]) s=(false,s)) (h_par:mayP W (str [40]) s=(false,s)) (h_w0:(mayP W (str [99,111,117,110,116]) s).1=false) (h_w1:(mayP W (str [115,117,109]) s).1=false) (h_w2:(mayP W (str [109,105,110]) s).1=false) (h_w3:(mayP W (str [109,97,120]) s).1=false) (hd:mayP W (str [46]) (nameP W s).2=(false,(nameP W s).2)) :
  Calls Tryz.prog 67 #[.pointer (some ⟨g,0,none⟩)] w (GivesD g gw W ((nameP W s).2) (.mk 4 0 nil0 (nameP W s).1 nil0 []) w):=by
 have hz:=And.intro h.lt h.wl
 obtain⟨w1,Hw1⟩:∃ w1,Hid (w1=w.alloc (.cells zero6 32)):=⟨_,rfl⟩
 have hb1:Below w.heap.size w w1:=by rw[Hw1.out];exact(Below.refl _ _).alloc (Nat.le_refl _) _
 have hk1:IsBlk w1 w.heap.size 32 zero6:=by rw[Hw1.out];exact IsBlk.laid _ _ _
 have hsz:w1.heap.size=w.heap.size+1:=by rw[Hw1.out];simp
 have h1:=h.below hb1
 have H1:=Lhd (And.intro h1 (But.refl (fun k=>k=g) w1))
 have Hb1:=Lhd (But.of_below (S:=fun k=>k=g) hb1)
 have Hk1:=Lhd hk1
 have Hz:=Lhd (And.intro hz hsz)
 have Hh:=Lhd h
 have T_neg:=Lhd (mayT g gw W s (str [45]) false s h_neg)
 have T_k1:=Lhd (kindT g gw W s 1 false (by decide) h_k1)
 have T_k2:=Lhd (kindT g gw W s 2 false (by decide) h_k2)
 have T_true:=Lhd (mayT g gw W s (str [116,114,117,101]) false s h_true)
 have T_false:=Lhd (mayT g gw W s (str [102,97,108,115,101]) false s h_false)
 have T_par:=Lhd (mayT g gw W s (str [40]) false s h_par)
 have I0:=Lhd (isT g gw W s (str [99,111,117,110,116]) false h_w0)
 have I1:=Lhd (isT g gw W s (str [115,117,109]) false h_w1)
 have I2:=Lhd (isT g gw W s (str [109,105,110]) false h_w2)
 have I3:=Lhd (isT g gw W s (str [109,97,120]) false h_w3)
 simp only[str] at I0 I1 I2 I3
 have HN:=Lhd (nameT g gw W s)
 have Hok1:=Lhd (name_okD h s)
 have HD:=Lhd (mayT g gw W (nameP W s).2 (str [46]) false (nameP W s).2 hd)
 generalize nameP W s=a at *
 obtain⟨na,sa⟩:=a
 simp only at HN Hok1 HD
 simp only[str] at HD
 simp only[str] at T_neg T_true T_false T_par
 obtain⟨Aw,nw,cw,c0,c1,c2,c3,c4,cg,cf⟩:=h1.cells
 rw[hbad] at c4
 clear h h1 hz hb1 hk1 hsz hbad c0 c1 c2 c3 cf h_neg h_k1 h_k2 h_true h_false h_par hd h_w0 h_w1 h_w2 h_w3
 go_enter Tryz.func67,Tryz.ntmps67
 go_upto_region 6 with (fail)
 rw[← Hw1.out]
 go_wp2_with (fail)
 refine(T_neg.out _ H1.out.1).mono ?_
 rintro e w2 ⟨rfl,hP,hB⟩
 have H2:=Lhd (And.intro hP (H1.out.2.trans' hB))
 clear hP hB c4 cg
 go_wp2_with (fail)
 refine(T_k1.out _ H2.out.1).mono ?_
 rintro e w3 ⟨rfl,hP,hB⟩
 have H3:=Lhd (And.intro hP (H2.out.2.trans' hB))
 clear hP hB
 go_wp2_with (fail)
 refine(T_k2.out _ H3.out.1).mono ?_
 rintro e w4 ⟨rfl,hP,hB⟩
 have H4:=Lhd (And.intro hP (H3.out.2.trans' hB))
 clear hP hB
 go_wp2_with (fail)
 refine(T_true.out _ H4.out.1).mono ?_
 rintro e w5 ⟨rfl,hP,hB⟩
 have H5:=Lhd (And.intro hP (H4.out.2.trans' hB))
 clear hP hB
 go_wp2_with (fail)
 refine(T_false.out _ H5.out.1).mono ?_
 rintro e w6 ⟨rfl,hP,hB⟩
 have H6:=Lhd (And.intro hP (H5.out.2.trans' hB))
 clear hP hB
 go_wp2_with (fail)
 refine(T_par.out _ H6.out.1).mono ?_
 rintro e w7 ⟨rfl,hP,hB⟩
 have H7:=Lhd (And.intro hP (H6.out.2.trans' hB))
 clear hP hB
 go_wp2_with (fail)
 refine(I0.out _ H7.out.1).mono ?_
 rintro e w8 ⟨rfl,hP,hB⟩
 have H8:=Lhd (And.intro hP (H7.out.2.trans' hB))
 clear hP hB
 go_wp2_with (fail)
 refine(I1.out _ H8.out.1).mono ?_
 rintro e w9 ⟨rfl,hP,hB⟩
 have H9:=Lhd (And.intro hP (H8.out.2.trans' hB))
 clear hP hB
 go_wp2_with (fail)
 refine(I2.out _ H9.out.1).mono ?_
 rintro e w10 ⟨rfl,hP,hB⟩
 have H10:=Lhd (And.intro hP (H9.out.2.trans' hB))
 clear hP hB
 go_wp2_with (fail)
 refine(I3.out _ H10.out.1).mono ?_
 rintro e w11 ⟨rfl,hP,hB⟩
 have H11:=Lhd (And.intro hP (H10.out.2.trans' hB))
 clear hP hB
 go_wp2_with (fail)
 refine(HN.out _ H11.out.1).mono ?_
 rintro e w12 ⟨rfl,hP,hB⟩
 have hB2:=H11.out.2.trans' hB
 have hal:=(Below.refl w12.heap.size w12).alloc (Nat.le_refl _) (.cells #[.int .i64 4,.int .i64 0,.string ⟨#[]⟩,.string na,.string ⟨#[]⟩,.slice none 0 0] 32)
 have hk8:IsBlk (w12.alloc (.cells #[.int .i64 4,.int .i64 0,.string ⟨#[]⟩,.string na,.string ⟨#[]⟩,.slice none 0 0] 32)) w12.heap.size 32 #[.int .i64 4,.int .i64 0,.string ⟨#[]⟩,.string na,.string ⟨#[]⟩,.slice none 0 0]:=IsBlk.laid _ _ _
 obtain⟨w20,Hw20⟩:∃ w20,Hid (w20=w12.alloc (.cells #[.int .i64 4,.int .i64 0,.string ⟨#[]⟩,.string na,.string ⟨#[]⟩,.slice none 0 0] 32)):=⟨_,rfl⟩
 rw[← Hw20.out] at hal hk8
 have hs:=hB2.size
 have H20:=Lhd (And.intro (hP.below hal) (And.intro (hB2.trans' (But.of_below hal)) (And.intro hk8 (And.intro (show g≠w12.heap.size by have:=Hz.out;omega) (show w1.heap.size≤w12.heap.size by omega)))))
 clear hP hB hB2 hal hk8 hs
 go_upto_region 2 with (fail)
 rw[← Hw20.out]
 go_wp2_with (fail)
 refine(HD.out _ H20.out.1).mono ?_
 rintro e w21 ⟨rfl,hP,hB⟩
 have hk9:=one_blk H20.out.2.2.1 hB H20.out.2.2.2.1
 have hB21:=H20.out.2.1.trans' hB
 obtain⟨hk,he1,he2⟩:=lay6_end (x:=.mk 4 0 nil0 na nil0 []) (leaf_at (Fr w1) w21 4 0 ⟨#[]⟩ na (by decide) (by decide) (by constructor<;>simp) okS_0 Hok1.out) hP hB21 Hb1.out Hk1.out (Nat.le_refl _) Hz.out.1
 have H:=Lhd (And.intro he1 he2)
 obtain⟨x0,x1,x2,x3,x4,x5,xl⟩:=cells6 hk
 obtain⟨y0,y1,y2,y3,y4,y5,yl⟩:=cells6 hk9
 have fx:=hk.frozen
 clear hk he1 he2 hk9 hP hB hB21
 go_wp2
 rw[lay6_eq]
 exact bodyPost_ret (ret_ex Tryz.results67 rfl H.out.1 rfl) rfl H.out.2
theorem dSingle_col (g gw:Nat) (W:Wds) (s:PSt) (w:World) (h:DAt g gw W s w) (hbad:s.bad=false) (h_neg:mayP W (str [45]) s=(false,s)) (h_k1:(!s.bad&&((W.look s.at_).kind==1))=false) (h_k2:(!s.bad&&((W.look s.at_).kind==2))=false) (h_true:mayP W (str [116,114,117,101]) s=(false,s)) (h_false:mayP W (str [102,97,108,115,101]) s=(false,s)) (h_par:mayP W (str [40]) s=(false,s)) (h_w0:(mayP W (str [99,111,117,110,116]) s).1=false) (h_w1:(mayP W (str [115,117,109]) s).1=false) (h_w2:(mayP W (str [109,105,110]) s).1=false) (h_w3:(mayP W (str [109,97,120]) s).1=false) (hd:mayP W (str [46]) (nameP W s).2=(true,(nameP W s).2.on)) :
  Calls Tryz.prog 67 #[.pointer (some ⟨g,0,none⟩)] w (GivesD g gw W ((nameP W (nameP W s).2.on).2) (.mk 5 0 (nameP W (nameP W s).2.on).1 (nameP W s).1 nil0 []) w):=by
 have hz:=And.intro h.lt h.wl
 obtain⟨w1,Hw1⟩:∃ w1,Hid (w1=w.alloc (.cells zero6 32)):=⟨_,rfl⟩
 have hb1:Below w.heap.size w w1:=by rw[Hw1.out];exact(Below.refl _ _).alloc (Nat.le_refl _) _
 have hk1:IsBlk w1 w.heap.size 32 zero6:=by rw[Hw1.out];exact IsBlk.laid _ _ _
 have hsz:w1.heap.size=w.heap.size+1:=by rw[Hw1.out];simp
 have h1:=h.below hb1
 have H1:=Lhd (And.intro h1 (But.refl (fun k=>k=g) w1))
 have Hb1:=Lhd (But.of_below (S:=fun k=>k=g) hb1)
 have Hk1:=Lhd hk1
 have Hz:=Lhd (And.intro hz hsz)
 have Hh:=Lhd h
 have T_neg:=Lhd (mayT g gw W s (str [45]) false s h_neg)
 have T_k1:=Lhd (kindT g gw W s 1 false (by decide) h_k1)
 have T_k2:=Lhd (kindT g gw W s 2 false (by decide) h_k2)
 have T_true:=Lhd (mayT g gw W s (str [116,114,117,101]) false s h_true)
 have T_false:=Lhd (mayT g gw W s (str [102,97,108,115,101]) false s h_false)
 have T_par:=Lhd (mayT g gw W s (str [40]) false s h_par)
 have I0:=Lhd (isT g gw W s (str [99,111,117,110,116]) false h_w0)
 have I1:=Lhd (isT g gw W s (str [115,117,109]) false h_w1)
 have I2:=Lhd (isT g gw W s (str [109,105,110]) false h_w2)
 have I3:=Lhd (isT g gw W s (str [109,97,120]) false h_w3)
 simp only[str] at I0 I1 I2 I3
 have HN:=Lhd (nameT g gw W s)
 have Hok1:=Lhd (name_okD h s)
 have HD:=Lhd (mayT g gw W (nameP W s).2 (str [46]) true (nameP W s).2.on hd)
 have HN2:=Lhd (nameT g gw W (nameP W s).2.on)
 have Hok2:=Lhd (name_okD h (nameP W s).2.on)
 generalize nameP W s=a at *
 obtain⟨na,sa⟩:=a
 simp only at HN2 Hok2
 generalize nameP W sa.on=b at *
 obtain⟨nb,sb⟩:=b
 simp only at HN2 Hok2
 simp only at HN Hok1 HD
 simp only[str] at HD
 simp only[str] at T_neg T_true T_false T_par
 obtain⟨Aw,nw,cw,c0,c1,c2,c3,c4,cg,cf⟩:=h1.cells
 rw[hbad] at c4
 clear h h1 hz hb1 hk1 hsz hbad c0 c1 c2 c3 cf h_neg h_k1 h_k2 h_true h_false h_par hd h_w0 h_w1 h_w2 h_w3
 go_enter Tryz.func67,Tryz.ntmps67
 go_upto_region 6 with (fail)
 rw[← Hw1.out]
 go_wp2_with (fail)
 refine(T_neg.out _ H1.out.1).mono ?_
 rintro e w2 ⟨rfl,hP,hB⟩
 have H2:=Lhd (And.intro hP (H1.out.2.trans' hB))
 clear hP hB c4 cg
 go_wp2_with (fail)
 refine(T_k1.out _ H2.out.1).mono ?_
 rintro e w3 ⟨rfl,hP,hB⟩
 have H3:=Lhd (And.intro hP (H2.out.2.trans' hB))
 clear hP hB
 go_wp2_with (fail)
 refine(T_k2.out _ H3.out.1).mono ?_
 rintro e w4 ⟨rfl,hP,hB⟩
 have H4:=Lhd (And.intro hP (H3.out.2.trans' hB))
 clear hP hB
 go_wp2_with (fail)
 refine(T_true.out _ H4.out.1).mono ?_
 rintro e w5 ⟨rfl,hP,hB⟩
 have H5:=Lhd (And.intro hP (H4.out.2.trans' hB))
 clear hP hB
 go_wp2_with (fail)
 refine(T_false.out _ H5.out.1).mono ?_
 rintro e w6 ⟨rfl,hP,hB⟩
 have H6:=Lhd (And.intro hP (H5.out.2.trans' hB))
 clear hP hB
 go_wp2_with (fail)
 refine(T_par.out _ H6.out.1).mono ?_
 rintro e w7 ⟨rfl,hP,hB⟩
 have H7:=Lhd (And.intro hP (H6.out.2.trans' hB))
 clear hP hB
 go_wp2_with (fail)
 refine(I0.out _ H7.out.1).mono ?_
 rintro e w8 ⟨rfl,hP,hB⟩
 have H8:=Lhd (And.intro hP (H7.out.2.trans' hB))
 clear hP hB
 go_wp2_with (fail)
 refine(I1.out _ H8.out.1).mono ?_
 rintro e w9 ⟨rfl,hP,hB⟩
 have H9:=Lhd (And.intro hP (H8.out.2.trans' hB))
 clear hP hB
 go_wp2_with (fail)
 refine(I2.out _ H9.out.1).mono ?_
 rintro e w10 ⟨rfl,hP,hB⟩
 have H10:=Lhd (And.intro hP (H9.out.2.trans' hB))
 clear hP hB
 go_wp2_with (fail)
 refine(I3.out _ H10.out.1).mono ?_
 rintro e w11 ⟨rfl,hP,hB⟩
 have H11:=Lhd (And.intro hP (H10.out.2.trans' hB))
 clear hP hB
 go_wp2_with (fail)
 refine(HN.out _ H11.out.1).mono ?_
 rintro e w12 ⟨rfl,hP,hB⟩
 have hB2:=H11.out.2.trans' hB
 have hal:=(Below.refl w12.heap.size w12).alloc (Nat.le_refl _) (.cells #[.int .i64 4,.int .i64 0,.string ⟨#[]⟩,.string na,.string ⟨#[]⟩,.slice none 0 0] 32)
 have hk8:IsBlk (w12.alloc (.cells #[.int .i64 4,.int .i64 0,.string ⟨#[]⟩,.string na,.string ⟨#[]⟩,.slice none 0 0] 32)) w12.heap.size 32 #[.int .i64 4,.int .i64 0,.string ⟨#[]⟩,.string na,.string ⟨#[]⟩,.slice none 0 0]:=IsBlk.laid _ _ _
 obtain⟨w20,Hw20⟩:∃ w20,Hid (w20=w12.alloc (.cells #[.int .i64 4,.int .i64 0,.string ⟨#[]⟩,.string na,.string ⟨#[]⟩,.slice none 0 0] 32)):=⟨_,rfl⟩
 rw[← Hw20.out] at hal hk8
 have hs:=hB2.size
 have H20:=Lhd (And.intro (hP.below hal) (And.intro (hB2.trans' (But.of_below hal)) (And.intro hk8 (And.intro (show g≠w12.heap.size by have:=Hz.out;omega) (show w1.heap.size≤w12.heap.size by omega)))))
 clear hP hB hB2 hal hk8 hs
 go_upto_region 2 with (fail)
 rw[← Hw20.out]
 go_wp2_with (fail)
 refine(HD.out _ H20.out.1).mono ?_
 rintro e w21 ⟨rfl,hP,hB⟩
 have hk9:=one_blk H20.out.2.2.1 hB H20.out.2.2.2.1
 have hB21:=H20.out.2.1.trans' hB
 have hc:But (fun k=>k=w12.heap.size) w21 (w21.setCell ⟨w12.heap.size,0,none⟩ (.int .i64 5)):=but_cell (g:=w12.heap.size) (But.refl _ _) 0 _
 have hg8:=H20.out.2.2.2
 have hP22:DAt g gw W sa.on (w21.setCell ⟨w12.heap.size,0,none⟩ (.int .i64 5)):=hP.elsewhere hc hg8.1 (by have:=Hz.out;omega)
 have hB22:But (fun k=>k=g) w1 (w21.setCell ⟨w12.heap.size,0,none⟩ (.int .i64 5)):=hB21.trans hc (fun i hi=>.inr (by omega))
 have hk22:=hk9.stored 0 (.int .i64 5)
 obtain⟨y0,y1,y2,y3,y4,y5,yl⟩:=cells6 hk9
 have fy:=hk9.frozen
 obtain⟨w22,Hw22⟩:∃ w22,Hid (w22=w21.setCell ⟨w12.heap.size,0,none⟩ (.int .i64 5)):=⟨_,rfl⟩
 rw[← Hw22.out] at hP22 hB22 hk22
 have H22:=Lhd (And.intro hP22 (And.intro hB22 hk22))
 have Hg8:=Lhd hg8
 clear hP hB hk9 hB21 hc hP22 hB22 hk22 hg8
 go_upto_region 4 with (fail)
 rw[← Hw22.out]
 clear y0 y1 y2 y3 y4 y5 yl fy
 go_wp2_with (fail)
 refine(HN2.out _ H22.out.1).mono ?_
 rintro e w23 ⟨rfl,hP,hB⟩
 have hk23:=one_blk H22.out.2.2 hB Hg8.out.1
 have hB23:=H22.out.2.1.trans' hB
 have hc:But (fun k=>k=w12.heap.size) w23 (w23.setCell ⟨w12.heap.size,2,none⟩ (.string nb)):=but_cell (g:=w12.heap.size) (But.refl _ _) 2 _
 have hP24:DAt g gw W sb (w23.setCell ⟨w12.heap.size,2,none⟩ (.string nb)):=hP.elsewhere hc Hg8.out.1 (by have:=Hz.out;have:=Hg8.out;omega)
 have hB24:But (fun k=>k=g) w1 (w23.setCell ⟨w12.heap.size,2,none⟩ (.string nb)):=hB23.trans hc (fun i hi=>.inr (by have:=Hg8.out;omega))
 have hk24:=hk23.stored 2 (.string nb)
 obtain⟨y0,y1,y2,y3,y4,y5,yl⟩:=cells6 hk23
 have fy:=hk23.frozen
 obtain⟨w24,Hw24⟩:∃ w24,Hid (w24=w23.setCell ⟨w12.heap.size,2,none⟩ (.string nb)):=⟨_,rfl⟩
 rw[← Hw24.out] at hP24 hB24 hk24
 obtain⟨hk,he1,he2⟩:=lay6_end (x:=.mk 5 0 nb na nil0 []) (leaf_at (Fr w1) w24 5 0 nb na (by decide) (by decide) (by constructor<;>simp) Hok2.out Hok1.out) hP24 hB24 Hb1.out Hk1.out (Nat.le_refl _) Hz.out.1
 have H:=Lhd (And.intro he1 he2)
 have HkK:=Lhd (And.intro hk hk24)
 clear hP hB hk23 hB23 hc hP24 hB24 hk24 hk he1 he2
 go_upto_region 5 with (fail)
 rw[← Hw24.out]
 clear y0 y1 y2 y3 y4 y5 yl fy
 obtain⟨x0,x1,x2,x3,x4,x5,xl⟩:=cells6 HkK.out.1
 obtain⟨y0,y1,y2,y3,y4,y5,yl⟩:=cells6 HkK.out.2
 have fx:=HkK.out.1.frozen
 go_wp2
 rw[lay6_eq]
 exact bodyPost_ret (ret_ex Tryz.results67 rfl H.out.1 rfl) rfl H.out.2
end Go.Proofs.YtdgapmnojmhllaaGreatDoor

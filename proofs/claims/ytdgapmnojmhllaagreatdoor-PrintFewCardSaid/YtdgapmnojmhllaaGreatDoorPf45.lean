/- Parts of this proof, one behind the other: RgK. -/
import Derived.Test.YtdgapmnojmhllaaGreatDoorPf44
import Derived.StillTailTactics
set_option maxRecDepth 1000000
set_option maxHeartbeats 40000000
namespace Go.Proofs.YtdgapmnojmhllaaGreatDoor
open Go.RowKit Go.Afx
theorem look_ok {g gw:Nat} {W:Wds} {s:PSt} {w:World} (h:DAt g gw W s w) {i:Nat} (hi:i<W.l.length):okW (W.look i):=by
 obtain⟨_,_,_,_,_,_,hw,_⟩:=h.word hi
 exact hw.ok
theorem name_okD {g gw:Nat} {W:Wds} {s:PSt} {w:World} (h:DAt g gw W s w) (s':PSt):okS (nameP W s').1:=by
 by_cases hc:s'.bad=false∧(W.look s'.at_).kind=3∧resB (W.look s'.at_).text=false
 ·rw[nameP_yes hc.1 hc.2.1 hc.2.2]
  exact(look_ok h (kind_in (by decide) hc.2.1)).2.1
 ·rw[nameP_no hc]
  exact okS_0
theorem lay6_end {g gw gx:Nat} {W:Wds} {s':PSt} {x:Ex} {w w1 wk:World} {D:Nat} {A:Option Addr} {m c:Nat} (hx:ExAt (Fr w1) D wk (row6 x A m c) x) (hP:DAt g gw W s' wk) (hB:But (fun k=>k=g) w1 wk) (hb:But (fun k=>k=g) w w1) (hk1:IsBlk w1 gx 32 zero6) (hg1:w.heap.size≤gx) (hz:g<w.heap.size∧gw<w.heap.size) :
  IsBlk wk gx 32 zero6∧IsBlk (lay6 wk gx (.int .i64 x.op) (.int .i64 x.n) (.string x.s) (.string x.name) (.string x.src) (.slice A m c)) gx 32 #[.int .i64 x.op,.int .i64 x.n,.string x.s,.string x.name,.string x.src,.slice A m c] ∧
  GivesD g gw W s' x w (.returned (.agg #[.int .i64 x.op,.int .i64 x.n,.string x.s,.string x.name,.string x.src,.slice A m c])) (lay6 wk gx (.int .i64 x.op) (.int .i64 x.n) (.string x.s) (.string x.name) (.string x.src) (.slice A m c)):=by
 have hk:=one_blk hk1 hB (by omega)
 exact⟨hk,gives_ofD hx hP (hb.trans' hB) hk hg1 hk1.lt hz⟩
theorem dSingle_bad (g gw:Nat) (W:Wds) (s:PSt) (w:World) (h:DAt g gw W s w) (hbad:s.bad=true) :
  Calls Tryz.prog 67 #[.pointer (some ⟨g,0,none⟩)] w (GivesD g gw W s ex0 w):=by
 have hz:=And.intro h.lt h.wl
 obtain⟨w1,Hw1⟩:∃ w1,Hid (w1=w.alloc (.cells zero6 32)):=⟨_,rfl⟩
 have hb1:Below w.heap.size w w1:=by rw[Hw1.out];exact(Below.refl _ _).alloc (Nat.le_refl _) _
 have hk1:IsBlk w1 w.heap.size 32 zero6:=by rw[Hw1.out];exact IsBlk.laid _ _ _
 have h1:=h.below hb1
 obtain⟨hk,he1,he2⟩:=lay6_end (x:=ex0) (leaf_at (Fr w1) w1 0 0 ⟨#[]⟩ ⟨#[]⟩ (by decide) (by decide) (by constructor<;>simp) okS_0 okS_0) h1 (But.refl (fun k=>k=g) w1) (But.of_below (S:=fun k=>k=g) hb1) hk1 (Nat.le_refl _) hz
 have H:=Lhd (And.intro he1 he2)
 obtain⟨Aw,nw,cw,c0,c1,c2,c3,c4,cg,cf⟩:=h1.cells
 rw[hbad] at c4
 obtain⟨x0,x1,x2,x3,x4,x5,xl⟩:=cells6 hk
 have fx:=hk.frozen
 clear h h1 hz hb1 hk1 hbad c0 c1 c2 c3 cf hk he1 he2
 go_enter Tryz.func67,Tryz.ntmps67
 go_upto_region 6 with (fail)
 rw[← Hw1.out]
 go_wp2
 rw[lay6_eq]
 exact bodyPost_ret (ret_ex Tryz.results67 rfl H.out.1 rfl) rfl H.out.2
theorem dSingle_neg (g gw:Nat) (W:Wds) (s:PSt) (w:World) (h:DAt g gw W s w) (hbad:s.bad=false)  (f:Ex×PSt) (hneg:mayP W (str [45]) s=(true,s.on)) (hS:∀ w2,DAt g gw W (enterP s.on) w2→Calls Tryz.prog 67 #[.pointer (some ⟨g,0,none⟩)] w2 (GivesD g gw W f.2 f.1 w2)) :
  Calls Tryz.prog 67 #[.pointer (some ⟨g,0,none⟩)] w (GivesD g gw W (leaveP f.2) (oneP 20 f.1) w):=by
 have hz:=And.intro h.lt h.wl
 obtain⟨w1,Hw1⟩:∃ w1,Hid (w1=w.alloc (.cells zero6 32)):=⟨_,rfl⟩
 have hb1:Below w.heap.size w w1:=by rw[Hw1.out];exact(Below.refl _ _).alloc (Nat.le_refl _) _
 have hk1:IsBlk w1 w.heap.size 32 zero6:=by rw[Hw1.out];exact IsBlk.laid _ _ _
 have hsz:w1.heap.size=w.heap.size+1:=by rw[Hw1.out];simp
 have h1:=h.below hb1
 have H1:=Lhd (And.intro h1 (But.refl (fun k=>k=g) w1))
 have Hb1:=Lhd (But.of_below (S:=fun k=>k=g) hb1)
 have Hk1:=Lhd hk1
 have Hz:=Lhd (And.intro hz hsz)
 have Hh:=Lhd h
 have TY:=Lhd (mayT g gw W s (str [45]) true s.on hneg)
 have Hent:=Lhd (enterT g gw W s.on)
 have HS:=Lhd hS
 simp only[str] at TY
 obtain⟨Aw,nw,cw,c0,c1,c2,c3,c4,cg,cf⟩:=h1.cells
 rw[hbad] at c4
 clear h h1 hz hb1 hk1 hsz hbad c0 c1 c2 c3 cf hneg hS
 go_enter Tryz.func67,Tryz.ntmps67
 go_upto_region 6 with (fail)
 rw[← Hw1.out]
 go_wp2_with (fail)
 refine(TY.out _ H1.out.1).mono ?_
 rintro e w2 ⟨rfl,hP,hB⟩
 have H2:=Lhd (And.intro hP (H1.out.2.trans' hB))
 clear hP hB c4 cg
 go_wp2_with (fail)
 refine(Hent.out _ H2.out.1).mono ?_
 rintro e w3 ⟨rfl,hP,hB⟩
 have H3:=Lhd (And.intro hP (H2.out.2.trans' hB))
 clear hP hB
 go_wp2_with (fail)
 refine(HS.out _ H3.out.1).mono ?_
 rintro e w4 ⟨row,D,rfl,hx,hP,hB⟩
 obtain⟨A2,m2,c2,rfl⟩:=ex_row6 hx
 have hal:=(Below.refl w4.heap.size w4).alloc (Nat.le_refl _) (.cells #[.int .i64 f.1.op,.int .i64 f.1.n,.string f.1.s,.string f.1.name,.string f.1.src,.slice A2 m2 c2] 32)
 have hkx:IsBlk (w4.alloc (.cells #[.int .i64 f.1.op,.int .i64 f.1.n,.string f.1.s,.string f.1.name,.string f.1.src,.slice A2 m2 c2] 32)) w4.heap.size 32 #[.int .i64 f.1.op,.int .i64 f.1.n,.string f.1.s,.string f.1.name,.string f.1.src,.slice A2 m2 c2]:=IsBlk.laid _ _ _
 obtain⟨w5,Hw5⟩:∃ w5,Hid (w5=w4.alloc (.cells #[.int .i64 f.1.op,.int .i64 f.1.n,.string f.1.s,.string f.1.name,.string f.1.src,.slice A2 m2 c2] 32)):=⟨_,rfl⟩
 rw[← Hw5.out] at hal hkx
 have hP5:=hP.below hal
 have hB14:=H3.out.2.trans' hB
 have hk5:=(one_blk Hk1.out hB14 (by have:=Hz.out;omega)).as_was (hal.block _ (Nat.lt_of_lt_of_le Hk1.out.lt hB14.size))
 have hs3:=H3.out.2.size
 have hs4:=hB.size
 have hs5:=hal.size
 have hx5:ExAt (Fr w1) D w5 (row6 f.1 A2 m2 c2) f.1:=ExAt.conv (fun k (hk:w3.heap.size≤k)=>by show w1.heap.size≤k;omega) (Kept.of_below hal) D (Nat.le_refl _) hx
 have hB5:=(Hb1.out.trans' hB14).trans' (But.of_below hal)
 have hne:g≠w4.heap.size:=by have:=Hz.out;omega
 have hone:But (fun k=>k=g) w5 (w5.setCell ⟨g,2,none⟩ (.int .i64 (wrap64 (f.2.deep-1)))):=but_cell (But.refl _ _) 2 _
 have hP6:=deep_leave hP5
 have hk6:=one_blk hk5 hone (by have:=Hz.out;omega)
 have hkx6:=one_blk hkx hone hne
 have hx6:ExAt (Fr w1) D (w5.setCell ⟨g,2,none⟩ (.int .i64 (wrap64 (f.2.deep-1)))) (row6 f.1 A2 m2 c2) f.1:=ExAt.conv (fun _ h=>h) (Kept.of_but hone fun k (hk:w1.heap.size≤k) (e:k=g)=>by have:=Hz.out;omega) D (Nat.le_refl _) hx5
 obtain⟨B,n,c,c0,c1,c2',c3,c4,cg,cf⟩:=hP5.cells
 obtain⟨w6,Hw6⟩:∃ w6,Hid (w6=w5.setCell ⟨g,2,none⟩ (.int .i64 (wrap64 (f.2.deep-1)))):=⟨_,rfl⟩
 rw[← Hw6.out] at hP6 hk6 hkx6 hx6 hone
 have hs6:=hone.size
 have H:=Lhd (one_endD (op:=20) (w:=w) hx6 hP6 (hB5.trans' hone) hk6 (Nat.le_refl _) (by have:=Hz.out;omega) Hz.out.1 (by omega) (by decide) (by decide))
 have Hk6:=Lhd hk6
 have Hkx6:=Lhd hkx6
 clear hx hP hB hal hkx hP5 hk5 hx5 hB5 hone hP6 hk6 hkx6 hx6 c0 c1 c3 c4 hs3 hs4 hs5 hs6 hne hB14
 go_upto_region 10 with (fail)
 rw[← Hw5.out]
 go_upto_region 11 with (fail)
 rw[← Hw6.out]
 clear c2' cg cf
 obtain⟨x0,x1,x2,x3,x4,x5,xl⟩:=cells6 Hk6.out
 obtain⟨y0,y1,y2,y3,y4,y5,yl⟩:=cells6 Hkx6.out
 have f6:=Hk6.out.frozen
 go_wp2
 rw[lay6_eq,← lay6_alloc xl]
 exact bodyPost_ret (ret_ex Tryz.results67 rfl H.out.1 rfl) rfl H.out.2
theorem dSingle_int (g gw:Nat) (W:Wds) (s:PSt) (w:World) (h:DAt g gw W s w) (hbad:s.bad=false) (h_neg:mayP W (str [45]) s=(false,s)) (hk:(W.look s.at_).kind=1) :
  Calls Tryz.prog 67 #[.pointer (some ⟨g,0,none⟩)] w (GivesD g gw W (s.on) (.mk 1 (W.look s.at_).n nil0 nil0 nil0 []) w):=by
 have hz:=And.intro h.lt h.wl
 obtain⟨w1,Hw1⟩:∃ w1,Hid (w1=w.alloc (.cells zero6 32)):=⟨_,rfl⟩
 have hb1:Below w.heap.size w w1:=by rw[Hw1.out];exact(Below.refl _ _).alloc (Nat.le_refl _) _
 have hk1:IsBlk w1 w.heap.size 32 zero6:=by rw[Hw1.out];exact IsBlk.laid _ _ _
 have hsz:w1.heap.size=w.heap.size+1:=by rw[Hw1.out];simp
 have h1:=h.below hb1
 have H1:=Lhd (And.intro h1 (But.refl (fun k=>k=g) w1))
 have Hb1:=Lhd (But.of_below (S:=fun k=>k=g) hb1)
 have Hk1:=Lhd hk1
 have Hz:=Lhd (And.intro hz hsz)
 have Hh:=Lhd h
 have T_neg:=Lhd (mayT g gw W s (str [45]) false s h_neg)
 have TK:=Lhd (kindT g gw W s 1 true (by decide) (by rw[hbad,hk];rfl))
 have hnum:numP W s=((W.look s.at_).n,s.on):=by
  unfold numP
  rw[hbad,if_neg Bool.false_ne_true,if_pos hk]
 have HN:=Lhd (numberT g gw W s)
 rw[hnum] at HN
 have Hok:=Lhd (look_ok h (kind_in (by decide) hk))
 simp only[str] at T_neg
 obtain⟨Aw,nw,cw,c0,c1,c2,c3,c4,cg,cf⟩:=h1.cells
 rw[hbad] at c4
 clear h h1 hz hb1 hk1 hsz hbad c0 c1 c2 c3 cf h_neg hk hnum
 go_enter Tryz.func67,Tryz.ntmps67
 go_upto_region 6 with (fail)
 rw[← Hw1.out]
 go_wp2_with (fail)
 refine(T_neg.out _ H1.out.1).mono ?_
 rintro e w2 ⟨rfl,hP,hB⟩
 have H2:=Lhd (And.intro hP (H1.out.2.trans' hB))
 clear hP hB c4 cg
 go_wp2_with (fail)
 refine(TK.out _ H2.out.1).mono ?_
 rintro e w3 ⟨rfl,hP,hB⟩
 have H3:=Lhd (And.intro hP (H2.out.2.trans' hB))
 clear hP hB
 go_wp2_with (fail)
 refine(HN.out _ H3.out.1).mono ?_
 rintro e w4 ⟨rfl,hP,hB⟩
 have H4:=Lhd (And.intro hP (H3.out.2.trans' hB))
 clear hP hB
 obtain⟨hk,he1,he2⟩:=lay6_end (x:=.mk 1 (W.look s.at_).n nil0 nil0 nil0 []) (leaf_at (Fr w1) w4 1 (W.look s.at_).n ⟨#[]⟩ ⟨#[]⟩ (by decide) (by decide) Hok.out.2.2.1 okS_0 okS_0) H4.out.1 H4.out.2 Hb1.out Hk1.out (Nat.le_refl _) Hz.out.1
 have H:=Lhd (And.intro he1 he2)
 obtain⟨x0,x1,x2,x3,x4,x5,xl⟩:=cells6 hk
 have fx:=hk.frozen
 clear hk he1 he2
 go_wp2
 rw[lay6_eq]
 exact bodyPost_ret (ret_ex Tryz.results67 rfl H.out.1 rfl) rfl H.out.2
theorem dSingle_true (g gw:Nat) (W:Wds) (s:PSt) (w:World) (h:DAt g gw W s w) (hbad:s.bad=false) (h_neg:mayP W (str [45]) s=(false,s)) (h_k1:(!s.bad&&((W.look s.at_).kind==1))=false) (h_k2:(!s.bad&&((W.look s.at_).kind==2))=false) (ht:mayP W (str [116,114,117,101]) s=(true,s.on)) :
  Calls Tryz.prog 67 #[.pointer (some ⟨g,0,none⟩)] w (GivesD g gw W (s.on) (.mk 3 1 nil0 nil0 nil0 []) w):=by
 have hz:=And.intro h.lt h.wl
 obtain⟨w1,Hw1⟩:∃ w1,Hid (w1=w.alloc (.cells zero6 32)):=⟨_,rfl⟩
 have hb1:Below w.heap.size w w1:=by rw[Hw1.out];exact(Below.refl _ _).alloc (Nat.le_refl _) _
 have hk1:IsBlk w1 w.heap.size 32 zero6:=by rw[Hw1.out];exact IsBlk.laid _ _ _
 have hsz:w1.heap.size=w.heap.size+1:=by rw[Hw1.out];simp
 have h1:=h.below hb1
 have H1:=Lhd (And.intro h1 (But.refl (fun k=>k=g) w1))
 have Hb1:=Lhd (But.of_below (S:=fun k=>k=g) hb1)
 have Hk1:=Lhd hk1
 have Hz:=Lhd (And.intro hz hsz)
 have Hh:=Lhd h
 have T_neg:=Lhd (mayT g gw W s (str [45]) false s h_neg)
 have T_k1:=Lhd (kindT g gw W s 1 false (by decide) h_k1)
 have T_k2:=Lhd (kindT g gw W s 2 false (by decide) h_k2)
 have TY:=Lhd (mayT g gw W s (str [116,114,117,101]) true s.on ht)
 simp only[str] at TY
 simp only[str] at T_neg
 obtain⟨Aw,nw,cw,c0,c1,c2,c3,c4,cg,cf⟩:=h1.cells
 rw[hbad] at c4
 clear h h1 hz hb1 hk1 hsz hbad c0 c1 c2 c3 cf h_neg h_k1 h_k2 ht
 go_enter Tryz.func67,Tryz.ntmps67
 go_upto_region 6 with (fail)
 rw[← Hw1.out]
 go_wp2_with (fail)
 refine(T_neg.out _ H1.out.1).mono ?_
 rintro e w2 ⟨rfl,hP,hB⟩
 have H2:=Lhd (And.intro hP (H1.out.2.trans' hB))
 clear hP hB c4 cg
 go_wp2_with (fail)
 refine(T_k1.out _ H2.out.1).mono ?_
 rintro e w3 ⟨rfl,hP,hB⟩
 have H3:=Lhd (And.intro hP (H2.out.2.trans' hB))
 clear hP hB
 go_wp2_with (fail)
 refine(T_k2.out _ H3.out.1).mono ?_
 rintro e w4 ⟨rfl,hP,hB⟩
 have H4:=Lhd (And.intro hP (H3.out.2.trans' hB))
 clear hP hB
 go_wp2_with (fail)
 refine(TY.out _ H4.out.1).mono ?_
 rintro e w5 ⟨rfl,hP,hB⟩
 have H5:=Lhd (And.intro hP (H4.out.2.trans' hB))
 clear hP hB
 obtain⟨hk,he1,he2⟩:=lay6_end (x:=.mk 3 1 nil0 nil0 nil0 []) (leaf_at (Fr w1) w5 3 1 ⟨#[]⟩ ⟨#[]⟩ (by decide) (by decide) (by constructor<;>simp) okS_0 okS_0) H5.out.1 H5.out.2 Hb1.out Hk1.out (Nat.le_refl _) Hz.out.1
 have H:=Lhd (And.intro he1 he2)
 obtain⟨x0,x1,x2,x3,x4,x5,xl⟩:=cells6 hk
 have fx:=hk.frozen
 clear hk he1 he2
 go_wp2
 rw[lay6_eq]
 exact bodyPost_ret (ret_ex Tryz.results67 rfl H.out.1 rfl) rfl H.out.2
theorem dSingle_false (g gw:Nat) (W:Wds) (s:PSt) (w:World) (h:DAt g gw W s w) (hbad:s.bad=false) (h_neg:mayP W (str [45]) s=(false,s)) (h_k1:(!s.bad&&((W.look s.at_).kind==1))=false) (h_k2:(!s.bad&&((W.look s.at_).kind==2))=false) (h_true:mayP W (str [116,114,117,101]) s=(false,s)) (ht:mayP W (str [102,97,108,115,101]) s=(true,s.on)) :
  Calls Tryz.prog 67 #[.pointer (some ⟨g,0,none⟩)] w (GivesD g gw W (s.on) (.mk 3 0 nil0 nil0 nil0 []) w):=by
 have hz:=And.intro h.lt h.wl
 obtain⟨w1,Hw1⟩:∃ w1,Hid (w1=w.alloc (.cells zero6 32)):=⟨_,rfl⟩
 have hb1:Below w.heap.size w w1:=by rw[Hw1.out];exact(Below.refl _ _).alloc (Nat.le_refl _) _
 have hk1:IsBlk w1 w.heap.size 32 zero6:=by rw[Hw1.out];exact IsBlk.laid _ _ _
 have hsz:w1.heap.size=w.heap.size+1:=by rw[Hw1.out];simp
 have h1:=h.below hb1
 have H1:=Lhd (And.intro h1 (But.refl (fun k=>k=g) w1))
 have Hb1:=Lhd (But.of_below (S:=fun k=>k=g) hb1)
 have Hk1:=Lhd hk1
 have Hz:=Lhd (And.intro hz hsz)
 have Hh:=Lhd h
 have T_neg:=Lhd (mayT g gw W s (str [45]) false s h_neg)
 have T_k1:=Lhd (kindT g gw W s 1 false (by decide) h_k1)
 have T_k2:=Lhd (kindT g gw W s 2 false (by decide) h_k2)
 have T_true:=Lhd (mayT g gw W s (str [116,114,117,101]) false s h_true)
 have TY:=Lhd (mayT g gw W s (str [102,97,108,115,101]) true s.on ht)
 simp only[str] at TY
 simp only[str] at T_neg T_true
 obtain⟨Aw,nw,cw,c0,c1,c2,c3,c4,cg,cf⟩:=h1.cells
 rw[hbad] at c4
 clear h h1 hz hb1 hk1 hsz hbad c0 c1 c2 c3 cf h_neg h_k1 h_k2 h_true ht
 go_enter Tryz.func67,Tryz.ntmps67
 go_upto_region 6 with (fail)
 rw[← Hw1.out]
 go_wp2_with (fail)
 refine(T_neg.out _ H1.out.1).mono ?_
 rintro e w2 ⟨rfl,hP,hB⟩
 have H2:=Lhd (And.intro hP (H1.out.2.trans' hB))
 clear hP hB c4 cg
 go_wp2_with (fail)
 refine(T_k1.out _ H2.out.1).mono ?_
 rintro e w3 ⟨rfl,hP,hB⟩
 have H3:=Lhd (And.intro hP (H2.out.2.trans' hB))
 clear hP hB
 go_wp2_with (fail)
 refine(T_k2.out _ H3.out.1).mono ?_
 rintro e w4 ⟨rfl,hP,hB⟩
 have H4:=Lhd (And.intro hP (H3.out.2.trans' hB))
 clear hP hB
 go_wp2_with (fail)
 refine(T_true.out _ H4.out.1).mono ?_
 rintro e w5 ⟨rfl,hP,hB⟩
 have H5:=Lhd (And.intro hP (H4.out.2.trans' hB))
 clear hP hB
 go_wp2_with (fail)
 refine(TY.out _ H5.out.1).mono ?_
 rintro e w6 ⟨rfl,hP,hB⟩
 have H6:=Lhd (And.intro hP (H5.out.2.trans' hB))
 clear hP hB
 obtain⟨hk,he1,he2⟩:=lay6_end (x:=.mk 3 0 nil0 nil0 nil0 []) (leaf_at (Fr w1) w6 3 0 ⟨#[]⟩ ⟨#[]⟩ (by decide) (by decide) (by constructor<;>simp) okS_0 okS_0) H6.out.1 H6.out.2 Hb1.out Hk1.out (Nat.le_refl _) Hz.out.1
 have H:=Lhd (And.intro he1 he2)
 obtain⟨x0,x1,x2,x3,x4,x5,xl⟩:=cells6 hk
 have fx:=hk.frozen
 clear hk he1 he2
 go_wp2
 rw[lay6_eq]
 exact bodyPost_ret (ret_ex Tryz.results67 rfl H.out.1 rfl) rfl H.out.2
end Go.Proofs.YtdgapmnojmhllaaGreatDoor

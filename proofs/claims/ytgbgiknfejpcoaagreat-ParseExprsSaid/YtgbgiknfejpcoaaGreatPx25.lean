/- Parts of this proof, one behind the other: ParY. -/
import Derived.Test.YtgbgiknfejpcoaaGreatPx24
set_option maxRecDepth 1000000
set_option maxHeartbeats 40000000
namespace Go.Proofs.YtgbgiknfejpcoaaGreat
open Go.RowKit Go.Afx
theorem forP_eq (W:Wds) (B:PSt→List St×PSt) (s:PSt):forP W B s=(.mk 6 (rowsP W s).1.1 (rowsP W s).1.2 (if (mayP W (str [108,105,109,105,116]) (whereP W (expr1 W) (rowsP W s).2).2).1 then limitP W (mayP W (str [108,105,109,105,116]) (whereP W (expr1 W) (rowsP W s).2).2).2 else (0,(whereP W (expr1 W) (rowsP W s).2).2)).1 [] [(whereP W (expr1 W) (rowsP W s).2).1] (B (if (mayP W (str [108,105,109,105,116]) (whereP W (expr1 W) (rowsP W s).2).2).1 then limitP W (mayP W (str [108,105,109,105,116]) (whereP W (expr1 W) (rowsP W s).2).2).2 else (0,(whereP W (expr1 W) (rowsP W s).2).2)).2).1 [],(B (if (mayP W (str [108,105,109,105,116]) (whereP W (expr1 W) (rowsP W s).2).2).1 then limitP W (mayP W (str [108,105,109,105,116]) (whereP W (expr1 W) (rowsP W s).2).2).2 else (0,(whereP W (expr1 W) (rowsP W s).2).2)).2).2):=rfl
theorem ifP_eq (W:Wds) (B:PSt→List St×PSt) (s:PSt):ifP W B s=if (mayP W (str [101,108,115,101]) (B (expr1 W s).2).2).1 then (.mk 7 nil0 nil0 0 [] [(expr1 W s).1] (B (expr1 W s).2).1 (B (mayP W (str [101,108,115,101]) (B (expr1 W s).2).2).2).1,(B (mayP W (str [101,108,115,101]) (B (expr1 W s).2).2).2).2) else (.mk 7 nil0 nil0 0 [] [(expr1 W s).1] (B (expr1 W s).2).1 [],(B (expr1 W s).2).2):=rfl
theorem stmtP_eq (W:Wds) (B:PSt→List St×PSt) (s:PSt):stmtP W B s=if (mayP W (str [102,111,114]) s).1 then forP W B (mayP W (str [102,111,114]) s).2 else if (mayP W (str [105,102]) s).1 then ifP W B (mayP W (str [105,102]) s).2 else ((plainP W s).1,mustP W [(str [59])] (plainP W s).2):=rfl
structure Built (gp gc gw gx:Nat) (W:Wds) (s:PSt) (w w1 wN:World) (op:Int) (nm sc:ByteArray) (n:Int) (Ae:Option Addr) (ax:Ex) (Ab:Option Addr) (nb cb:Nat) (bl:List St) (D:Nat):Prop where
 p:PAt gp gc gw W s wN
 b:But (On2 gp gc) w wN
 k4:IsBlk wN w.heap.size 73 zero8
 k5:IsBlk wN gx 73 #[.int .i64 op,.string nm,.string sc,.int .i64 n,.slice none 0 0,.slice Ae 1 1,.slice Ab nb cb,.slice none 0 0]
 e:ExsAt (fun k=>w1.heap.size≤k∧k≠gx) D wN Ae 1 1 [ax]
 l:StsAt (fun k=>w1.heap.size≤k∧k≠gx) D wN Ab nb cb bl
section
variable {gp gc gw gx:Nat} {W:Wds} {s s':PSt} {w w1 wN w8:World} {op:Int} {nm sc:ByteArray} {n:Int} {Ae:Option Addr} {ax:Ex} {Ab:Option Addr} {nb cb:Nat} {bl:List St} {D:Nat}
theorem Built.on2 (h:Built gp gc gw gx W s w w1 wN op nm sc n Ae ax Ab nb cb bl D) (hz:gp<w.heap.size∧gc<w.heap.size∧gw<w.heap.size) (hs1:w1.heap.size=w.heap.size+1) (hgx:w.heap.size<gx) (hP:PAt gp gc gw W s' w8) (hB:But (On2 gp gc) wN w8):Built gp gc gw gx W s' w w1 w8 op nm sc n Ae ax Ab nb cb bl D :=
 ⟨hP,h.b.trans' hB,on2_blk h.k4 hB (by omega),on2_blk h.k5 hB (by omega),ExsAt.kept h.e (fr_on2 hB (fun k hk=>by omega)),StsAt.kept h.l (fr_on2 hB (fun k hk=>by omega))⟩
theorem Built.num (h:Built gp gc gw gx W s w w1 wN op nm sc n Ae ax none 0 0 [] D) (hz:gp<w.heap.size∧gc<w.heap.size∧gw<w.heap.size) (hgx:w.heap.size<gx) (n':Int):Built gp gc gw gx W s w w1 (wN.setCell ⟨gx,3,none⟩ (.int .i64 n')) op nm sc n' Ae ax none 0 0 [] D:=by
 have hb:=(But.refl (fun k=>k=gx) wN).setCell (p:=⟨gx,3,none⟩) (.inl rfl) (.int .i64 n')
 exact⟨h.p.elsewhere hb (by omega),h.b.trans hb (fun i hi=>.inr (by omega)),h.k4.as_was (hb.block _ h.k4.lt (by omega)),h.k5.stored 3 (.int .i64 n'),ExsAt.kept h.e (Kept.of_but hb fun k hk e=>hk.2 e),sts_nil _ _ _⟩
theorem Built.body {D2:Nat} {A:Option Addr} {m c:Nat} {el:List St} (h:Built gp gc gw gx W s w w1 wN op nm sc n Ae ax none 0 0 [] D) (hz:gp<w.heap.size∧gc<w.heap.size∧gw<w.heap.size) (hs1:w1.heap.size=w.heap.size+1) (hgx:w.heap.size<gx)
  (hx:StsAt (Fr wN) D2 w8 A m c el) (hP:PAt gp gc gw W s' w8) (hB:But (On2 gp gc) wN w8) :
  IsBlk w8 gx 73 #[.int .i64 op,.string nm,.string sc,.int .i64 n,.slice none 0 0,.slice Ae 1 1,.slice none 0 0,.slice none 0 0] ∧
  Built gp gc gw gx W s' w w1 (w8.setCell ⟨gx,6,none⟩ (.slice A m c)) op nm sc n Ae ax A m c el (max D D2):=by
 have hk5:=on2_blk h.k5 hB (by omega)
 have hk4:=on2_blk h.k4 hB (by omega)
 have hb:=(But.refl (fun k=>k=gx) w8).setCell (p:=⟨gx,6,none⟩) (.inl rfl) (.slice A m c)
 have hk56:IsBlk _ gx 73 #[.int .i64 op,.string nm,.string sc,.int .i64 n,.slice none 0 0,.slice Ae 1 1,.slice A m c,.slice none 0 0]:=hk5.stored 6 (.slice A m c)
 have hlt:=h.k5.lt
 refine⟨hk5,hP.elsewhere hb (by omega),(h.b.trans' hB).trans hb (fun i hi=>.inr (by omega)),hk4.as_was (hb.block _ hk4.lt (by omega)),hk56,?_,?_⟩
 ·have h2:=ExsAt.kept h.e (fr_on2 hB (fun k (hk:w1.heap.size≤k∧k≠gx)=>by omega))
  exact ExsAt.conv (fun _ h=>h) (Kept.of_but hb fun k hk e=>hk.2 e) (Nat.le_max_left D D2) h2
 ·have h2:StsAt (fun k=>w1.heap.size≤k∧k≠gx) (max D D2) w8 A m c el:=StsAt.conv (fun k (hf:wN.heap.size≤k)=>⟨by omega,by omega⟩) (Kept.refl _ _) (Nat.le_max_right D D2) hx
  exact StsAt.kept h2 (Kept.of_but hb fun k hk e=>hk.2 e)
theorem Built.out (h:Built gp gc gw gx W s w w1 wN op nm sc n Ae ax Ab nb cb bl D) (hz:gp<w.heap.size∧gc<w.heap.size∧gw<w.heap.size) (hs1:w1.heap.size=w.heap.size+1) (h0:0≤op) (h1:op≤100) (hn:okI n) (hm:okS nm) (hs:okS sc) :
  IsBlk (lay8 wN w.heap.size (.int .i64 op) (.string nm) (.string sc) (.int .i64 n) (.slice none 0 0) (.slice Ae 1 1) (.slice Ab nb cb) (.slice none 0 0)) w.heap.size 73 #[.int .i64 op,.string nm,.string sc,.int .i64 n,.slice none 0 0,.slice Ae 1 1,.slice Ab nb cb,.slice none 0 0] ∧
  GivesS gp gc gw W s (.mk op nm sc n [] [ax] bl []) w (.returned (.agg #[.int .i64 op,.string nm,.string sc,.int .i64 n,.slice none 0 0,.slice Ae 1 1,.slice Ab nb cb,.slice none 0 0])) (lay8 wN w.heap.size (.int .i64 op) (.string nm) (.string sc) (.int .i64 n) (.slice none 0 0) (.slice Ae 1 1) (.slice Ab nb cb) (.slice none 0 0)):=by
 have hst:=st_of h0 h1 hn hm hs (LsAt.nil_ (Fr w1) wN 1 SRow) (ExsAt.conv (F':=Fr w1) (fun k hk=>hk.1) (Kept.refl _ _) (Nat.le_refl D) h.e) (StsAt.conv (F':=Fr w1) (fun k hk=>hk.1) (Kept.refl _ _) (Nat.le_refl D) h.l) (sts_nil (Fr w1) D wN)
 exact gives8_of (x:=.mk op nm sc n [] [ax] bl []) (w3:=w1) hst h.p h.b h.k4 (Nat.le_refl _) (by omega) hz
theorem Built.out2 {D2:Nat} {A:Option Addr} {m c:Nat} {el:List St} (h:Built gp gc gw gx W s w w1 wN op nm sc n Ae ax Ab nb cb bl D) (hz:gp<w.heap.size∧gc<w.heap.size∧gw<w.heap.size) (hs1:w1.heap.size=w.heap.size+1) (hgx:w.heap.size<gx) (h0:0≤op) (h1:op≤100) (hn:okI n) (hm:okS nm) (hs:okS sc)
  (hx:StsAt (Fr wN) D2 w8 A m c el) (hP:PAt gp gc gw W s' w8) (hB:But (On2 gp gc) wN w8) :
  IsBlk w8 gx 73 #[.int .i64 op,.string nm,.string sc,.int .i64 n,.slice none 0 0,.slice Ae 1 1,.slice Ab nb cb,.slice none 0 0] ∧
  IsBlk (w8.setCell ⟨gx,7,none⟩ (.slice A m c)) gx 73 #[.int .i64 op,.string nm,.string sc,.int .i64 n,.slice none 0 0,.slice Ae 1 1,.slice Ab nb cb,.slice A m c] ∧
  IsBlk (w8.setCell ⟨gx,7,none⟩ (.slice A m c)) w.heap.size 73 zero8 ∧
  IsBlk (lay8 (w8.setCell ⟨gx,7,none⟩ (.slice A m c)) w.heap.size (.int .i64 op) (.string nm) (.string sc) (.int .i64 n) (.slice none 0 0) (.slice Ae 1 1) (.slice Ab nb cb) (.slice A m c)) w.heap.size 73 #[.int .i64 op,.string nm,.string sc,.int .i64 n,.slice none 0 0,.slice Ae 1 1,.slice Ab nb cb,.slice A m c] ∧
  GivesS gp gc gw W s' (.mk op nm sc n [] [ax] bl el) w (.returned (.agg #[.int .i64 op,.string nm,.string sc,.int .i64 n,.slice none 0 0,.slice Ae 1 1,.slice Ab nb cb,.slice A m c])) (lay8 (w8.setCell ⟨gx,7,none⟩ (.slice A m c)) w.heap.size (.int .i64 op) (.string nm) (.string sc) (.int .i64 n) (.slice none 0 0) (.slice Ae 1 1) (.slice Ab nb cb) (.slice A m c)):=by
 have hlt:=h.k5.lt
 have h8:=h.on2 hz hs1 hgx hP hB
 have hb:=(But.refl (fun k=>k=gx) w8).setCell (p:=⟨gx,7,none⟩) (.inl rfl) (.slice A m c)
 have hk57:IsBlk _ gx 73 #[.int .i64 op,.string nm,.string sc,.int .i64 n,.slice none 0 0,.slice Ae 1 1,.slice Ab nb cb,.slice A m c]:=h8.k5.stored 7 (.slice A m c)
 have hk4:=h8.k4.as_was (hb.block _ h8.k4.lt (by omega))
 have he:=ExsAt.kept h8.e (Kept.of_but hb fun k hk e=>hk.2 e)
 have hl:=StsAt.kept h8.l (Kept.of_but hb fun k hk e=>hk.2 e)
 have hx8:=StsAt.kept hx (Kept.of_but hb fun k (hk:wN.heap.size≤k) e=>by omega)
 have hBB:=h8.b.trans hb (fun i hi=>.inr (by omega))
 have hPP:=hP.elsewhere hb (by omega)
 generalize w8.setCell ⟨gx,7,none⟩ (.slice A m c)=w9 at *
 have hst:=st_of h0 h1 hn hm hs (LsAt.nil_ (Fr w1) w9 1 SRow) (ExsAt.conv (F':=Fr w1) (fun k hk=>hk.1) (Kept.refl _ _) (Nat.le_max_left D D2) he) (StsAt.conv (F':=Fr w1) (fun k hk=>hk.1) (Kept.refl _ _) (Nat.le_max_left D D2) hl) (StsAt.conv (F':=Fr w1) (fun k (hk:wN.heap.size≤k)=>by show w1.heap.size≤k;omega) (Kept.refl _ _) (Nat.le_max_right D D2) hx8)
 exact⟨h8.k5,hk57,hk4,gives8_of (x:=.mk op nm sc n [] [ax] bl el) (w3:=w1) hst hPP hBB hk4 (Nat.le_refl _) (by omega) hz⟩
end
theorem exs_turn {F F':Nat→Prop} {w w':World} (hF:∀ k,k<w.heap.size→F k→F' k) (hk:Kept F w w') {d:Nat} {A:Option Addr} {n c:Nat} {es:List Ex} (h:ExsAt F d w A n c es):ExsAt F' d w' A n c es:=by
 refine LsAt.conv h hk (fun a ha hn hf=>hF _ (LsAt.lt h hn a ha) hf) (fun r x _ hx=>?_)
 exact ExAt.turn hF hk d (Nat.le_refl _) hx
theorem pStmt_any (gp gc gw:Nat) (W:Wds) (m:Nat) (hBl:TakesB gp gc gw W m):TakesS gp gc gw W m:=by
 intro s w h hf hm
 have hz:=And.intro h.lt.1 (And.intro h.lt.2 h.wl)
 obtain⟨w1,Hw1⟩:∃ w1,Hid (w1=w.alloc (.cells zero8 73)):=⟨_,rfl⟩
 have hb1:Below w.heap.size w w1:=by rw[Hw1.out];exact(Below.refl _ _).alloc (Nat.le_refl _) _
 have hk4:IsBlk w1 w.heap.size 73 zero8:=by rw[Hw1.out];exact IsBlk.laid _ _ _
 have hsz:w1.heap.size=w.heap.size+1:=by rw[Hw1.out];simp
 have Hsz:=Lhd hsz
 have Hb1:=Lhd hb1
 have Hk4:=Lhd hk4
 have Hz:=Lhd hz
 have H1:=Lhd (And.intro (h.below hb1) (But.refl (On2 gp gc) w1))
 have Hh:=Lhd h
 have Hmay:=Lhd (fun t s' w2 (hW:PAt gp gc gw W s' w2)=>pMay_any gp gc gw W s' t w2 hW)
 have hBo:=fun s' w2 (hW:PAt gp gc gw W s' w2) (hF:Fit W m s')=>hBl s' w2 hW hF hm
 have hUB:=up_block W m
 have hfin:=stmtP_eq W (blockP W m) s
 generalize stmtP W (blockP W m) s=fin at *
 generalize blockP W m=B at *
 have HBo:=Lhd hBo
 have HUB:=Lhd hUB
 have Hfin:=Lhd hfin
 have Hf:=Lhd hf
 clear hz hb1 hk4 hsz h hBo hBl hUB hfin hf hm
 go_enter Tryz.func172,Tryz.ntmps172
 go_upto_region 1 with (fail)
 rw[← Hw1.out]
 rcases may_cases W (str [102,111,114]) s with h1|⟨h1,_,_⟩
 ·have hm:=Hmay.out (str [102,111,114]) s w1 H1.out.1
  rw[h1] at hm
  simp only[str] at hm
  have Hm:=Lhd hm
  have Hh1:=Lhd h1
  clear hm h1
  go_wp2_with (fail)
  refine Hm.out.mono ?_
  rintro e w2 ⟨rfl,hP,hB⟩
  have H2:=Lhd (And.intro hP (H1.out.2.trans' hB))
  clear hP hB Hm
  rcases may_cases W (str [105,102]) s with h1|⟨h1,_,_⟩
  ·have hm:=Hmay.out (str [105,102]) s w2 H2.out.1
   rw[h1] at hm
   simp only[str] at hm
   have Hm:=Lhd hm
   have hf:=Hfin.out
   simp only[Hh1.out,h1,Bool.false_eq_true,if_false] at hf
   clear hm h1 Hfin
   have hc:=fun w2 (hW:PAt gp gc gw W s w2)=>pPlain_any gp gc gw W s w2 hW
   generalize plainP W s=r at *
   obtain⟨x,sx⟩:=r
   simp only at hf hc
   have hmu:=fun g w2 (hW:PAt gp gc gw W sx w2) (hg:g=w2.heap.size)=>pMust_any gp gc gw g W sx (str [59]) w2 hW hg
   generalize mustP W [str [59]] sx=sm at *
   simp only[str] at hmu
   have HF:=Lhd hf
   have Hc:=Lhd hc
   have Hmu:=Lhd hmu
   clear hf hc hmu
   go_wp2_with (fail)
   refine Hm.out.mono ?_
   rintro e w3 ⟨rfl,hP,hB⟩
   have H3:=Lhd (And.intro hP (H2.out.2.trans' hB))
   clear hP hB
   go_wp2_with (fail)
   refine(Hc.out _ H3.out.1).mono ?_
   rintro e w4 ⟨row,D,rfl,hx,hP,hB⟩
   obtain⟨Ac,nc,cc,Ae,ne,ce,Ab,nb,cb,Al,nl,cl,rfl⟩:=st_row8 hx
   have hal:=(Below.refl w4.heap.size w4).alloc (Nat.le_refl _) (.cells #[.int .i64 x.op,.string x.name,.string x.src,.int .i64 x.n,.slice Ac nc cc,.slice Ae ne ce,.slice Ab nb cb,.slice Al nl cl] 73)
   have hk5:IsBlk (w4.alloc (.cells #[.int .i64 x.op,.string x.name,.string x.src,.int .i64 x.n,.slice Ac nc cc,.slice Ae ne ce,.slice Ab nb cb,.slice Al nl cl] 73)) w4.heap.size 73 #[.int .i64 x.op,.string x.name,.string x.src,.int .i64 x.n,.slice Ac nc cc,.slice Ae ne ce,.slice Ab nb cb,.slice Al nl cl]:=IsBlk.laid _ _ _
   have hP5:=hP.below hal
   have hB5:=(H3.out.2.trans' hB).trans' (But.of_below hal)
   have hx5:=StAt.below hx hal
   have hs3:=H3.out.2.size
   have hs4:=hB.size
   obtain⟨w5,Hw5⟩:∃ w5,Hid (w5=w4.alloc (.cells #[.int .i64 x.op,.string x.name,.string x.src,.int .i64 x.n,.slice Ac nc cc,.slice Ae ne ce,.slice Ab nb cb,.slice Al nl cl] 73)):=⟨_,rfl⟩
   have hs5:w4.heap.size+1=w5.heap.size:=by rw[Hw5.out];simp
   rw[← Hw5.out] at hk5 hP5 hB5 hx5
   have H5:=Lhd (And.intro hP5 (And.intro hB5 (And.intro hk5 (And.intro hx5 (And.intro hs5 (And.intro hs3 hs4))))))
   clear hx hP hB hal hk5 hP5 hB5 hx5 hs3 hs4 hs5
   go_wp2_with (fail)
   rw[← Hw5.out]
   refine(Hmu.out _ _ H5.out.1 H5.out.2.2.2.2.1).mono ?_
   rintro e w6 ⟨rfl,hP,hB⟩
   have hs:=H5.out.2.2.2.2.2
   have hz:=Hz.out
   have hs1:=Hsz.out
   have hk5:=on2_blk H5.out.2.2.1 hB (by omega)
   have hk4:=on2_blk (on2_blk Hk4.out H5.out.2.1 (by omega)) hB (by omega)
   obtain⟨x0,x1,x2,x3,x4,x5,x6,x7,xl⟩:=cells8 hk5
   obtain⟨y0,y1,y2,y3,y4,y5,y6,y7,yl⟩:=cells8 hk4
   have f4:=hk4.frozen
   have hst:=StAt.kept H5.out.2.2.2.1 (fr_on2 hB (fun k (hk:w3.heap.size≤k)=>by omega))
   have H:=Lhd (gives8_of (w3:=w3) hst hP ((But.of_below Hb1.out).trans' (H5.out.2.1.trans' hB)) hk4 (Nat.le_refl _) (by omega) Hz.out)
   clear hP hB hs hz hs1 hk5 hk4 hst
   go_wp2
   rw[lay8_eq]
   refine bodyPost_ret (ret_st Tryz.results172 rfl H.out.1 rfl) rfl ?_
   rw[HF.out]
   exact H.out.2
  ·have hm:=Hmay.out (str [105,102]) s w2 H2.out.1
   rw[h1] at hm
   simp only[str] at hm
   have Hm:=Lhd hm
   have hf:=Hfin.out
   simp only[Hh1.out,h1,Bool.false_eq_true,if_false,if_true] at hf
   rw[ifP_eq] at hf
   clear hm h1 Hfin
   have hfa:Fit W m (expr1 W s.on).2:=(Hf.out.ge (ge_on s)).ge (up_expr1 W _)
   have hc:=fun w2 (hW:PAt gp gc gw W s.on w2)=>pExpr1_any gp gc gw W s.on w2 hW
   generalize expr1 W s.on=r at *
   obtain⟨ax,sa⟩:=r
   simp only at hf hc hfa
   have hb:=fun w2 hW=>HBo.out sa w2 hW hfa
   have hub:=HUB.out sa
   generalize B sa=r at *
   obtain⟨bl,sb⟩:=r
   simp only at hf hb hub
   have HF:=Lhd hf
   have Hc:=Lhd hc
   have Hb:=Lhd hb
   have Hfb:=Lhd (hfa.ge hub)
   clear hf hc hb hub hfa
   go_wp2_with (fail)
   refine Hm.out.mono ?_
   rintro e w3 ⟨rfl,hP,hB⟩
   have H3:=Lhd (And.intro hP (H2.out.2.trans' hB))
   clear hP hB Hm
   go_wp2_with (fail)
   refine(Hc.out _ H3.out.1).mono ?_
   rintro e w4 ⟨row,D,rfl,hx,hP,hB⟩
   obtain⟨A9,m9,c9,rfl⟩:=ex_row6 hx
   have hs3:=H3.out.2.size
   have hs4:=hB.size
   have hz:=Hz.out
   have hs1:=Hsz.out
   have hxl:=one_ex (F:=fun k=>w1.heap.size≤k) (g5:=w.heap.size) (g:=w4.heap.size) hx (But.refl _ w4) (by omega) rfl (fun k hk=>by omega) hs4
   have hal:=(Below.refl w4.heap.size w4).alloc (Nat.le_refl _) (.cells #[.int .i64 ax.op,.int .i64 ax.n,.string ax.s,.string ax.name,.string ax.src,.slice A9 m9 c9] 60)
   have hP5:=hP.below hal
   have hB5:=(H3.out.2.trans' hB).trans' (But.of_below hal)
   have hsa:(w4.alloc (.cells #[.int .i64 ax.op,.int .i64 ax.n,.string ax.s,.string ax.name,.string ax.src,.slice A9 m9 c9] 60)).heap.size=w4.heap.size+1:=by simp
   generalize hWa:w4.alloc (.cells #[.int .i64 ax.op,.int .i64 ax.n,.string ax.s,.string ax.name,.string ax.src,.slice A9 m9 c9] 60)=wa at *
   have HWa:=Lhd hWa
   have hal2:=(Below.refl wa.heap.size wa).alloc (Nat.le_refl _) (.cells #[.int .i64 7,.string ⟨#[]⟩,.string ⟨#[]⟩,.int .i64 0,.slice none 0 0,.slice (some ⟨w4.heap.size,0,none⟩) 1 1,.slice none 0 0,.slice none 0 0] 73)
   have hk5:IsBlk (wa.alloc (.cells #[.int .i64 7,.string ⟨#[]⟩,.string ⟨#[]⟩,.int .i64 0,.slice none 0 0,.slice (some ⟨w4.heap.size,0,none⟩) 1 1,.slice none 0 0,.slice none 0 0] 73)) (w4.heap.size+1) 73 #[.int .i64 7,.string ⟨#[]⟩,.string ⟨#[]⟩,.int .i64 0,.slice none 0 0,.slice (some ⟨w4.heap.size,0,none⟩) 1 1,.slice none 0 0,.slice none 0 0]:=blk_new hsa.symm
   have hP6:=hP5.below hal2
   have hB6:=hB5.trans' (But.of_below hal2)
   have hxl6:=exs_turn (F':=fun k=>w1.heap.size≤k∧k≠w4.heap.size+1) (fun k hk hf=>⟨hf,by omega⟩) (Kept.of_below hal2) hxl
   obtain⟨w5,Hw5⟩:∃ w5,Hid (w5=wa.alloc (.cells #[.int .i64 7,.string ⟨#[]⟩,.string ⟨#[]⟩,.int .i64 0,.slice none 0 0,.slice (some ⟨w4.heap.size,0,none⟩) 1 1,.slice none 0 0,.slice none 0 0] 73)):=⟨_,rfl⟩
   rw[← Hw5.out] at hk5 hP6 hB6 hxl6
   obtain⟨gx,Hgx⟩:∃ gx,Hid (gx=w4.heap.size+1):=⟨_,rfl⟩
   rw[← Hgx.out] at hk5 hxl6
   have hgx:w.heap.size<gx:=by have:=Hgx.out;omega
   have HT:Hid (Built gp gc gw gx W sa w w1 w5 7 nil0 nil0 0 (some ⟨w4.heap.size,0,none⟩) ax none 0 0 [] D):=Lhd ⟨hP6,(But.of_below Hb1.out).trans' hB6,on2_blk Hk4.out hB6 (by omega),hk5,hxl6,sts_nil _ _ _⟩
   have Hgx2:=Lhd hgx
   clear hx hP hB hs3 hs4 hz hs1 hxl hal hP5 hB5 hsa hWa hal2 hk5 hP6 hB6 hxl6 hgx
   go_wp2_with (fail)
   rw[HWa.out,← Hw5.out,← Hgx.out]
   refine(Hb.out _ HT.out.p).mono ?_
   rintro e w6 ⟨A,n,c,D2,rfl,hx,hP,hB⟩
   obtain⟨hk5,hBu⟩:=HT.out.body Hz.out Hsz.out Hgx2.out hx hP hB
   obtain⟨x0,x1,x2,x3,x4,x5,x6,x7,xl⟩:=cells8 hk5
   have f5:=hk5.frozen
   obtain⟨w7,Hw7⟩:∃ w7,Hid (w7=w6.setCell ⟨gx,6,none⟩ (.slice A n c)):=⟨_,rfl⟩
   rw[← Hw7.out] at hBu
   have HT7:=Lhd hBu
   clear hx hP hB hk5 hBu
   rcases may_cases W (str [101,108,115,101]) sb with h1|⟨h1,_,_⟩
   ·have hm:=Hmay.out (str [101,108,115,101]) sb w7 HT7.out.p
    rw[h1] at hm
    simp only[str] at hm
    have Hm:=Lhd hm
    have hf:=HF.out
    simp only[h1,Bool.false_eq_true,if_false] at hf
    have HF2:=Lhd hf
    clear hm h1 HF hf
    go_wp2_with (fail)
    rw[← Hw7.out]
    refine Hm.out.mono ?_
    rintro e w8 ⟨rfl,hP,hB⟩
    have hT:=HT7.out.on2 Hz.out Hsz.out Hgx2.out hP hB
    clear x0 x1 x2 x3 x4 x5 x6 x7 xl f5
    obtain⟨x0,x1,x2,x3,x4,x5,x6,x7,xl⟩:=cells8 hT.k5
    obtain⟨y0,y1,y2,y3,y4,y5,y6,y7,yl⟩:=cells8 hT.k4
    have f4:=hT.k4.frozen
    have H:=Lhd (hT.out Hz.out Hsz.out (by decide) (by decide) okI_0 okS_0 okS_0)
    clear hP hB hT
    go_wp2
    rw[lay8_eq]
    refine bodyPost_ret (ret_st Tryz.results172 rfl H.out.1 rfl) rfl ?_
    rw[HF2.out]
    exact H.out.2
   ·have hm:=Hmay.out (str [101,108,115,101]) sb w7 HT7.out.p
    rw[h1] at hm
    simp only[str] at hm
    have Hm:=Lhd hm
    have hf:=HF.out
    simp only[h1,if_true] at hf
    have hfe:Fit W m sb.on:=Hfb.out.ge (ge_on sb)
    have hb:=fun w2 hW=>HBo.out sb.on w2 hW hfe
    generalize B sb.on=r at *
    obtain⟨el,se⟩:=r
    simp only at hf hb
    have HF2:=Lhd hf
    have Hb2:=Lhd hb
    clear hm h1 HF hf hb hfe
    go_wp2_with (fail)
    rw[← Hw7.out]
    refine Hm.out.mono ?_
    rintro e w8 ⟨rfl,hP,hB⟩
    have HT8:=Lhd (HT7.out.on2 Hz.out Hsz.out Hgx2.out hP hB)
    clear x0 x1 x2 x3 x4 x5 x6 x7 xl f5 hP hB
    go_wp2_with (fail)
    refine(Hb2.out _ HT8.out.p).mono ?_
    rintro e w9 ⟨A2,n2,c2,D3,rfl,hx,hP,hB⟩
    obtain⟨hk5,hk57,hk47,hH⟩:=HT8.out.out2 Hz.out Hsz.out Hgx2.out (by decide) (by decide) okI_0 okS_0 okS_0 hx hP hB
    obtain⟨x0,x1,x2,x3,x4,x5,x6,x7,xl⟩:=cells8 hk5
    have f5:=hk5.frozen
    go_upto_region 14 with (fail)
    clear x0 x1 x2 x3 x4 x5 x6 x7 xl f5
    obtain⟨w10,Hw10⟩:∃ w10,Hid (w10=w9.setCell ⟨gx,7,none⟩ (.slice A2 n2 c2)):=⟨_,rfl⟩
    rw[← Hw10.out] at hk57 hk47 hH ⊢
    obtain⟨x0,x1,x2,x3,x4,x5,x6,x7,xl⟩:=cells8 hk57
    obtain⟨y0,y1,y2,y3,y4,y5,y6,y7,yl⟩:=cells8 hk47
    have f4:=hk47.frozen
    have H:=Lhd hH
    clear hx hP hB hk5 hk57 hk47 hH
    go_wp2
    rw[lay8_eq]
    refine bodyPost_ret (ret_st Tryz.results172 rfl H.out.1 rfl) rfl ?_
    rw[HF2.out]
    exact H.out.2
 ·have hm:=Hmay.out (str [102,111,114]) s w1 H1.out.1
  rw[h1] at hm
  simp only[str] at hm
  have Hm:=Lhd hm
  have hf:=Hfin.out
  simp only[h1,if_true] at hf
  rw[forP_eq] at hf
  clear hm h1 Hfin
  have hfa:Fit W m (whereP W (expr1 W) (rowsP W s.on).2).2:=((Hf.out.ge (ge_on s)).ge (up_rows W _)).ge (up_where W (up_expr1 W) _)
  have hr:=fun w2 (hW:PAt gp gc gw W s.on w2)=>pRows_any gp gc gw W s.on w2 hW
  have hok:=pNamesOk Hh.out s.on
  generalize rowsP W s.on=r at *
  obtain⟨⟨nm,sc⟩,sr⟩:=r
  simp only at hf hr hok hfa
  have hc:=fun w2 (hW:PAt gp gc gw W sr w2)=>pWhere1_any gp gc gw W sr w2 hW
  generalize whereP W (expr1 W) sr=r at *
  obtain⟨ax,sa⟩:=r
  simp only at hf hc hfa
  have HF:=Lhd hf
  have Hr:=Lhd hr
  have Hok:=Lhd hok
  have Hc:=Lhd hc
  have Hfa:=Lhd hfa
  clear hf hr hok hc hfa
  go_wp2_with (fail)
  refine Hm.out.mono ?_
  rintro e w2 ⟨rfl,hP,hB⟩
  have hB:=H1.out.2.trans' hB
  have hal:=(Below.refl w2.heap.size w2).alloc (Nat.le_refl _) (.cells #[.int .i64 6,.string ⟨#[]⟩,.string ⟨#[]⟩,.int .i64 0,.slice none 0 0,.slice none 0 0,.slice none 0 0,.slice none 0 0] 73)
  have hk5:IsBlk (w2.alloc (.cells #[.int .i64 6,.string ⟨#[]⟩,.string ⟨#[]⟩,.int .i64 0,.slice none 0 0,.slice none 0 0,.slice none 0 0,.slice none 0 0] 73)) w2.heap.size 73 #[.int .i64 6,.string ⟨#[]⟩,.string ⟨#[]⟩,.int .i64 0,.slice none 0 0,.slice none 0 0,.slice none 0 0,.slice none 0 0]:=IsBlk.laid _ _ _
  have hP3:=hP.below hal
  have hB3:=hB.trans' (But.of_below hal)
  have hs2:=hB.size
  obtain⟨w3,Hw3⟩:∃ w3,Hid (w3=w2.alloc (.cells #[.int .i64 6,.string ⟨#[]⟩,.string ⟨#[]⟩,.int .i64 0,.slice none 0 0,.slice none 0 0,.slice none 0 0,.slice none 0 0] 73)):=⟨_,rfl⟩
  rw[← Hw3.out] at hk5 hP3 hB3
  obtain⟨gx,Hgx⟩:∃ gx,Hid (gx=w2.heap.size):=⟨_,rfl⟩
  rw[← Hgx.out] at hk5 hs2
  have H3:=Lhd (And.intro hP3 (And.intro hB3 (And.intro hk5 hs2)))
  clear hP hB hal hk5 hP3 hB3 hs2 Hm
  go_wp2_with (fail)
  rw[← Hw3.out,← Hgx.out]
  refine(Hr.out _ H3.out.1).mono ?_
  rintro e w4 ⟨rfl,hP,hB⟩
  have hz:=Hz.out
  have hs1:=Hsz.out
  have hsg:=H3.out.2.2.2
  have hk5:=on2_blk H3.out.2.2.1 hB (by omega)
  have hB4:=H3.out.2.1.trans' hB
  have hk4:=on2_blk Hk4.out hB4 (by omega)
  obtain⟨x0,x1,x2,x3,x4,x5,x6,x7,xl⟩:=cells8 hk5
  have f5:=hk5.frozen
  have hb2:=lay2_but w4 gx 1 2 (.string nm) (.string sc)
  have hk52:IsBlk (lay2 w4 gx 1 2 (.string nm) (.string sc)) gx 73 #[.int .i64 6,.string nm,.string sc,.int .i64 0,.slice none 0 0,.slice none 0 0,.slice none 0 0,.slice none 0 0]:=(hk5.stored 1 (.string nm)).stored 2 (.string sc)
  have hP5:=hP.elsewhere hb2 (by omega)
  have hk42:=hk4.as_was (hb2.block _ hk4.lt (by omega))
  have hB5:=((But.of_below Hb1.out).trans' hB4).trans hb2 (fun i hi=>.inr (by omega))
  have hgl:gx<(lay2 w4 gx 1 2 (.string nm) (.string sc)).heap.size:=hk52.lt
  obtain⟨w5,Hw5⟩:∃ w5,Hid (w5=lay2 w4 gx 1 2 (.string nm) (.string sc)):=⟨_,rfl⟩
  rw[← Hw5.out] at hk52 hP5 hk42 hB5 hgl
  have H5:=Lhd (And.intro hP5 (And.intro hB5 (And.intro hk42 (And.intro hk52 hgl))))
  clear hP hB hz hs1 hsg hk5 hB4 hk4 hb2 hk52 hP5 hk42 hB5 hgl
  go_wp2_with (fail)
  rw[lay2_eq,← Hw5.out]
  refine(Hc.out _ H5.out.1).mono ?_
  clear x0 x1 x2 x3 x4 x5 x6 x7 xl f5
  rintro e w6 ⟨row,D,rfl,hx,hP,hB⟩
  obtain⟨A9,m9,c9,rfl⟩:=ex_row6 hx
  have hz:=Hz.out
  have hs1:=Hsz.out
  have hsg:=H3.out.2.2.2
  have hgl:=H5.out.2.2.2.2
  have hk5:=on2_blk H5.out.2.2.2.1 hB (by omega)
  have hk4:=on2_blk H5.out.2.2.1 hB (by omega)
  have hB6:=H5.out.2.1.trans' hB
  have hs6:=hB.size
  obtain⟨x0,x1,x2,x3,x4,x5,x6,x7,xl⟩:=cells8 hk5
  have f5:=hk5.frozen
  have hbl:=(But.refl (fun k=>k=gx) w6).setCell (p:=⟨gx,5,none⟩) (.inl rfl) (.slice (some ⟨w6.heap.size,0,none⟩) 1 1)
  have hkl:IsBlk (w6.setCell ⟨gx,5,none⟩ (.slice (some ⟨w6.heap.size,0,none⟩) 1 1)) gx 73 #[.int .i64 6,.string nm,.string sc,.int .i64 0,.slice none 0 0,.slice (some ⟨w6.heap.size,0,none⟩) 1 1,.slice none 0 0,.slice none 0 0]:=hk5.stored 5 (.slice (some ⟨w6.heap.size,0,none⟩) 1 1)
  have hsl:(w6.setCell ⟨gx,5,none⟩ (.slice (some ⟨w6.heap.size,0,none⟩) 1 1)).heap.size=w6.heap.size:=by simp[World.setCell]
  have hPl:=hP.elsewhere hbl (by omega)
  have hk4l:=hk4.as_was (hbl.block _ hk4.lt (by omega))
  have hBl:=hB6.trans hbl (fun i hi=>.inr (by omega))
  obtain⟨wL,HWL⟩:∃ wL,Hid (wL=w6.setCell ⟨gx,5,none⟩ (.slice (some ⟨w6.heap.size,0,none⟩) 1 1)):=⟨_,rfl⟩
  rw[← HWL.out] at hbl hkl hsl hPl hk4l hBl
  have hxl:=one_ex (F:=fun k=>w1.heap.size≤k∧k≠gx) (g:=w6.heap.size) hx hbl hgl hsl.symm (fun k hk=>⟨by omega,by omega⟩) (by omega)
  have hal:=(Below.refl wL.heap.size wL).alloc (Nat.le_refl _) (.cells #[.int .i64 ax.op,.int .i64 ax.n,.string ax.s,.string ax.name,.string ax.src,.slice A9 m9 c9] 60)
  obtain⟨w7,Hw7⟩:∃ w7,Hid (w7=wL.alloc (.cells #[.int .i64 ax.op,.int .i64 ax.n,.string ax.s,.string ax.name,.string ax.src,.slice A9 m9 c9] 60)):=⟨_,rfl⟩
  rw[← Hw7.out] at hxl hal
  have HT:Hid (Built gp gc gw gx W sa w w1 w7 6 nm sc 0 (some ⟨w6.heap.size,0,none⟩) ax none 0 0 [] D):=Lhd ⟨hPl.below hal,hBl.trans' (But.of_below hal),hk4l.as_was (hal.block _ hk4l.lt),hkl.as_was (hal.block _ hkl.lt),hxl,sts_nil _ _ _⟩
  have Hgx2:=Lhd (show w.heap.size<gx by omega)
  clear hx hP hB hz hs1 hsg hgl hk5 hk4 hB6 hs6 hbl hkl hsl hPl hk4l hBl hxl hal
  rcases may_cases W (str [108,105,109,105,116]) sa with h1|⟨h1,_,_⟩
  ·have hm:=Hmay.out (str [108,105,109,105,116]) sa w7 HT.out.p
   rw[h1] at hm
   simp only[str] at hm
   have Hm:=Lhd hm
   have hf:=HF.out
   simp only[h1,Bool.false_eq_true,if_false] at hf
   clear hm h1 HF
   have Hfb:=Hfa
   go_wp2_with (fail)
   rw[← HWL.out,← Hw7.out]
   refine Hm.out.mono ?_
   clear x0 x1 x2 x3 x4 x5 x6 x7 xl f5
   rintro e w8 ⟨rfl,hP,hB⟩
   have HT8:=Lhd (HT.out.on2 Hz.out Hsz.out Hgx2.out hP hB)
   clear hP hB
   have hb:=fun w2 hW=>HBo.out sa w2 hW Hfb.out
   generalize B sa=r at *
   obtain⟨bl,sb⟩:=r
   simp only at hf hb
   have HF2:=Lhd hf
   have Hb:=Lhd hb
   clear hf hb
   go_wp2_with (fail)
   refine(Hb.out _ HT8.out.p).mono ?_
   rintro e w20 ⟨A,n,c,D2,rfl,hx,hP,hB⟩
   obtain⟨hk5,hBu⟩:=HT8.out.body Hz.out Hsz.out Hgx2.out hx hP hB
   obtain⟨x0,x1,x2,x3,x4,x5,x6,x7,xl⟩:=cells8 hk5
   have f5:=hk5.frozen
   go_upto_region 8 with (fail)
   clear x0 x1 x2 x3 x4 x5 x6 x7 xl f5
   obtain⟨w21,Hw21⟩:∃ w21,Hid (w21=w20.setCell ⟨gx,6,none⟩ (.slice A n c)):=⟨_,rfl⟩
   rw[← Hw21.out] at hBu ⊢
   obtain⟨x0,x1,x2,x3,x4,x5,x6,x7,xl⟩:=cells8 hBu.k5
   obtain⟨y0,y1,y2,y3,y4,y5,y6,y7,yl⟩:=cells8 hBu.k4
   have f4:=hBu.k4.frozen
   have H:=Lhd (hBu.out Hz.out Hsz.out (by decide) (by decide) okI_0 Hok.out.1 Hok.out.2)
   clear hx hP hB hk5 hBu
   go_wp2
   rw[lay8_eq]
   refine bodyPost_ret (ret_st Tryz.results172 rfl H.out.1 rfl) rfl ?_
   rw[HF2.out]
   exact H.out.2
  ·have hm:=Hmay.out (str [108,105,109,105,116]) sa w7 HT.out.p
   rw[h1] at hm
   simp only[str] at hm
   have Hm:=Lhd hm
   have hf:=HF.out
   simp only[h1,if_true] at hf
   clear hm h1 HF
   have hfl:Fit W m (limitP W sa.on).2:=(Hfa.out.ge (ge_on sa)).ge (up_limit W _)
   have hli:=fun w2 (hW:PAt gp gc gw W sa.on w2)=>pLimit_any gp gc gw W sa.on w2 hW
   have hlo:=lim_ok Hh.out sa.on
   generalize limitP W sa.on=r at *
   obtain⟨nl,sl⟩:=r
   simp only at hf hfl hli hlo
   have Hfb:=Lhd hfl
   have Hli:=Lhd hli
   have Hlo:=Lhd hlo
   have HFx:=Lhd hf
   clear hfl hli hlo hf
   go_wp2_with (fail)
   rw[← HWL.out,← Hw7.out]
   refine Hm.out.mono ?_
   clear x0 x1 x2 x3 x4 x5 x6 x7 xl f5
   rintro e w8 ⟨rfl,hP,hB⟩
   have HT8:=Lhd (HT.out.on2 Hz.out Hsz.out Hgx2.out hP hB)
   clear hP hB
   go_wp2_with (fail)
   refine(Hli.out _ HT8.out.p).mono ?_
   rintro e w9 ⟨rfl,hP,hB⟩
   have hT9:=HT8.out.on2 Hz.out Hsz.out Hgx2.out hP hB
   obtain⟨x0,x1,x2,x3,x4,x5,x6,x7,xl⟩:=cells8 hT9.k5
   have f5:=hT9.k5.frozen
   have hT10:=hT9.num Hz.out Hgx2.out nl
   obtain⟨w10,Hw10⟩:∃ w10,Hid (w10=w9.setCell ⟨gx,3,none⟩ (.int .i64 nl)):=⟨_,rfl⟩
   rw[← Hw10.out] at hT10
   have HT10:=Lhd hT10
   clear hP hB hT9 hT10
   have hf:=HFx.out
   have hb:=fun w2 hW=>HBo.out sl w2 hW Hfb.out
   generalize B sl=r at *
   obtain⟨bl,sb⟩:=r
   simp only at hf hb
   have HF2:=Lhd hf
   have Hb:=Lhd hb
   clear hf hb
   go_wp2_with (fail)
   rw[← Hw10.out]
   clear x0 x1 x2 x3 x4 x5 x6 x7 xl f5
   refine(Hb.out _ HT10.out.p).mono ?_
   rintro e w20 ⟨A,n,c,D2,rfl,hx,hP,hB⟩
   obtain⟨hk5,hBu⟩:=HT10.out.body Hz.out Hsz.out Hgx2.out hx hP hB
   obtain⟨x0,x1,x2,x3,x4,x5,x6,x7,xl⟩:=cells8 hk5
   have f5:=hk5.frozen
   go_upto_region 8 with (fail)
   clear x0 x1 x2 x3 x4 x5 x6 x7 xl f5
   obtain⟨w21,Hw21⟩:∃ w21,Hid (w21=w20.setCell ⟨gx,6,none⟩ (.slice A n c)):=⟨_,rfl⟩
   rw[← Hw21.out] at hBu ⊢
   obtain⟨x0,x1,x2,x3,x4,x5,x6,x7,xl⟩:=cells8 hBu.k5
   obtain⟨y0,y1,y2,y3,y4,y5,y6,y7,yl⟩:=cells8 hBu.k4
   have f4:=hBu.k4.frozen
   have H:=Lhd (hBu.out Hz.out Hsz.out (by decide) (by decide) Hlo.out Hok.out.1 Hok.out.2)
   clear hx hP hB hk5 hBu
   go_wp2
   rw[lay8_eq]
   refine bodyPost_ret (ret_st Tryz.results172 rfl H.out.1 rfl) rfl ?_
   rw[HF2.out]
   exact H.out.2
end Go.Proofs.YtgbgiknfejpcoaaGreat

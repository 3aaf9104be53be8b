/- Parts of this proof, one behind the other: ParY. -/
import Derived.Test.YtjjfkhbajidmdaaGreatDoorPb34
set_option maxRecDepth 1000000
set_option maxHeartbeats 40000000
namespace Go.Proofs.YtjjfkhbajidmdaaGreatDoor
open Go.RowKit Go.Afx
theorem VY (W:aV) (B:au→List St×au) (s:au):MZ W B s=(.mk 6 (bF W s).1.1 (bF W s).1.2 (if (ay W (str [108,105,109,105,116]) (bG W (aZ W) (bF W s).2).2).1 then kE W (ay W (str [108,105,109,105,116]) (bG W (aZ W) (bF W s).2).2).2 else (0,(bG W (aZ W) (bF W s).2).2)).1 [] [(bG W (aZ W) (bF W s).2).1] (B (if (ay W (str [108,105,109,105,116]) (bG W (aZ W) (bF W s).2).2).1 then kE W (ay W (str [108,105,109,105,116]) (bG W (aZ W) (bF W s).2).2).2 else (0,(bG W (aZ W) (bF W s).2).2)).2).1 [],(B (if (ay W (str [108,105,109,105,116]) (bG W (aZ W) (bF W s).2).2).1 then kE W (ay W (str [108,105,109,105,116]) (bG W (aZ W) (bF W s).2).2).2 else (0,(bG W (aZ W) (bF W s).2).2)).2).2):=rfl
theorem abH (W:aV) (B:au→List St×au) (s:au):ifP W B s=if (ay W (str [101,108,115,101]) (B (aZ W s).2).2).1 then (.mk 7 nil0 nil0 0 [] [(aZ W s).1] (B (aZ W s).2).1 (B (ay W (str [101,108,115,101]) (B (aZ W s).2).2).2).1,(B (ay W (str [101,108,115,101]) (B (aZ W s).2).2).2).2) else (.mk 7 nil0 nil0 0 [] [(aZ W s).1] (B (aZ W s).2).1 [],(B (aZ W s).2).2):=rfl
theorem QO (W:aV) (B:au→List St×au) (s:au):jD W B s=if (ay W (str [102,111,114]) s).1 then MZ W B (ay W (str [102,111,114]) s).2 else if (ay W (str [105,102]) s).1 then ifP W B (ay W (str [105,102]) s).2 else ((dH W s).1,ak W [(str [59])] (dH W s).2):=rfl
structure sF (gp gc gw gx:Nat) (W:aV) (s:au) (w w1 wN:World) (op:Int) (nm sc:ByteArray) (n:Int) (Ae:Option Addr) (ax:Ex) (Ab:Option Addr) (nb cb:Nat) (bl:List St) (D:Nat):Prop where
 p:aW gp gc gw W s wN
 b:But (fV gp gc) w wN
 k4:af wN w.heap.size 49 oV
 k5:af wN gx 49 #[.int .i64 op,.string nm,.string sc,.int .i64 n,.slice none 0 0,.slice Ae 1 1,.slice Ab nb cb,.slice none 0 0]
 e:aO (fun k=>w1.heap.size≤k∧k≠gx) D wN Ae 1 1 [ax]
 l:aP (fun k=>w1.heap.size≤k∧k≠gx) D wN Ab nb cb bl
section
variable {gp gc gw gx:Nat} {W:aV} {s s':au} {w w1 wN w8:World} {op:Int} {nm sc:ByteArray} {n:Int} {Ae:Option Addr} {ax:Ex} {Ab:Option Addr} {nb cb:Nat} {bl:List St} {D:Nat}
theorem sF.pO (h:sF gp gc gw gx W s w w1 wN op nm sc n Ae ax Ab nb cb bl D) (hz:gp<w.heap.size∧gc<w.heap.size∧gw<w.heap.size) (hs1:w1.heap.size=w.heap.size+1) (hgx:w.heap.size<gx) (hP:aW gp gc gw W s' w8) (hB:But (fV gp gc) wN w8):sF gp gc gw gx W s' w w1 w8 op nm sc n Ae ax Ab nb cb bl D :=
 ⟨hP,h.b.trans' hB,ah h.k4 hB (by omega),ah h.k5 hB (by omega),aO.kept h.e (fK hB (fun k hk=>by omega)),aP.kept h.l (fK hB (fun k hk=>by omega))⟩
theorem sF.num (h:sF gp gc gw gx W s w w1 wN op nm sc n Ae ax none 0 0 [] D) (hz:gp<w.heap.size∧gc<w.heap.size∧gw<w.heap.size) (hgx:w.heap.size<gx) (n':Int):sF gp gc gw gx W s w w1 (wN.setCell ⟨gx,3,none⟩ (.int .i64 n')) op nm sc n' Ae ax none 0 0 [] D:=by
 have hb:=(But.refl (fun k=>k=gx) wN).setCell (p:=⟨gx,3,none⟩) (.inl rfl) (.int .i64 n')
 exact⟨h.p.elsewhere hb (by omega),h.b.trans hb (fun i hi=>.inr (by omega)),h.k4.ag (hb.block _ h.k4.lt (by omega)),h.k5.stored 3 (.int .i64 n'),aO.kept h.e (Kept.aN hb fun k hk e=>hk.2 e),gK _ _ _⟩
theorem sF.body {D2:Nat} {A:Option Addr} {m c:Nat} {el:List St} (h:sF gp gc gw gx W s w w1 wN op nm sc n Ae ax none 0 0 [] D) (hz:gp<w.heap.size∧gc<w.heap.size∧gw<w.heap.size) (hs1:w1.heap.size=w.heap.size+1) (hgx:w.heap.size<gx)
  (hx:aP (Fr wN) D2 w8 A m c el) (hP:aW gp gc gw W s' w8) (hB:But (fV gp gc) wN w8) :
  af w8 gx 49 #[.int .i64 op,.string nm,.string sc,.int .i64 n,.slice none 0 0,.slice Ae 1 1,.slice none 0 0,.slice none 0 0] ∧
  sF gp gc gw gx W s' w w1 (w8.setCell ⟨gx,6,none⟩ (.slice A m c)) op nm sc n Ae ax A m c el (max D D2):=by
 have hk5:=ah h.k5 hB (by omega)
 have hk4:=ah h.k4 hB (by omega)
 have hb:=(But.refl (fun k=>k=gx) w8).setCell (p:=⟨gx,6,none⟩) (.inl rfl) (.slice A m c)
 have oQ:af _ gx 49 #[.int .i64 op,.string nm,.string sc,.int .i64 n,.slice none 0 0,.slice Ae 1 1,.slice A m c,.slice none 0 0]:=hk5.stored 6 (.slice A m c)
 have hlt:=h.k5.lt
 refine⟨hk5,hP.elsewhere hb (by omega),(h.b.trans' hB).trans hb (fun i hi=>.inr (by omega)),hk4.ag (hb.block _ hk4.lt (by omega)),oQ,?_,?_⟩
 ·have h2:=aO.kept h.e (fK hB (fun k (hk:w1.heap.size≤k∧k≠gx)=>by omega))
  exact aO.conv (fun _ h=>h) (Kept.aN hb fun k hk e=>hk.2 e) (Nat.le_max_left D D2) h2
 ·have h2:aP (fun k=>w1.heap.size≤k∧k≠gx) (max D D2) w8 A m c el:=aP.conv (fun k (hf:wN.heap.size≤k)=>⟨by omega,by omega⟩) (Kept.refl _ _) (Nat.le_max_right D D2) hx
  exact aP.kept h2 (Kept.aN hb fun k hk e=>hk.2 e)
theorem sF.out (h:sF gp gc gw gx W s w w1 wN op nm sc n Ae ax Ab nb cb bl D) (hz:gp<w.heap.size∧gc<w.heap.size∧gw<w.heap.size) (hs1:w1.heap.size=w.heap.size+1) (h0:0≤op) (h1:op≤100) (hn:okI n) (hm:okS nm) (hs:okS sc) :
  af (EN wN w.heap.size (.int .i64 op) (.string nm) (.string sc) (.int .i64 n) (.slice none 0 0) (.slice Ae 1 1) (.slice Ab nb cb) (.slice none 0 0)) w.heap.size 49 #[.int .i64 op,.string nm,.string sc,.int .i64 n,.slice none 0 0,.slice Ae 1 1,.slice Ab nb cb,.slice none 0 0] ∧
  vG gp gc gw W s (.mk op nm sc n [] [ax] bl []) w (.returned (.agg #[.int .i64 op,.string nm,.string sc,.int .i64 n,.slice none 0 0,.slice Ae 1 1,.slice Ab nb cb,.slice none 0 0])) (EN wN w.heap.size (.int .i64 op) (.string nm) (.string sc) (.int .i64 n) (.slice none 0 0) (.slice Ae 1 1) (.slice Ab nb cb) (.slice none 0 0)):=by
 have hst:=D6 h0 h1 hn hm hs (ai.nil_ (Fr w1) wN 1 dL) (aO.conv (F':=Fr w1) (fun k hk=>hk.1) (Kept.refl _ _) (Nat.le_refl D) h.e) (aP.conv (F':=Fr w1) (fun k hk=>hk.1) (Kept.refl _ _) (Nat.le_refl D) h.l) (gK (Fr w1) D wN)
 exact mQ (x:=.mk op nm sc n [] [ax] bl []) (w3:=w1) hst h.p h.b h.k4 (Nat.le_refl _) (by omega) hz
theorem sF.anU {D2:Nat} {A:Option Addr} {m c:Nat} {el:List St} (h:sF gp gc gw gx W s w w1 wN op nm sc n Ae ax Ab nb cb bl D) (hz:gp<w.heap.size∧gc<w.heap.size∧gw<w.heap.size) (hs1:w1.heap.size=w.heap.size+1) (hgx:w.heap.size<gx) (h0:0≤op) (h1:op≤100) (hn:okI n) (hm:okS nm) (hs:okS sc)
  (hx:aP (Fr wN) D2 w8 A m c el) (hP:aW gp gc gw W s' w8) (hB:But (fV gp gc) wN w8) :
  af w8 gx 49 #[.int .i64 op,.string nm,.string sc,.int .i64 n,.slice none 0 0,.slice Ae 1 1,.slice Ab nb cb,.slice none 0 0] ∧
  af (w8.setCell ⟨gx,7,none⟩ (.slice A m c)) gx 49 #[.int .i64 op,.string nm,.string sc,.int .i64 n,.slice none 0 0,.slice Ae 1 1,.slice Ab nb cb,.slice A m c] ∧
  af (w8.setCell ⟨gx,7,none⟩ (.slice A m c)) w.heap.size 49 oV ∧
  af (EN (w8.setCell ⟨gx,7,none⟩ (.slice A m c)) w.heap.size (.int .i64 op) (.string nm) (.string sc) (.int .i64 n) (.slice none 0 0) (.slice Ae 1 1) (.slice Ab nb cb) (.slice A m c)) w.heap.size 49 #[.int .i64 op,.string nm,.string sc,.int .i64 n,.slice none 0 0,.slice Ae 1 1,.slice Ab nb cb,.slice A m c] ∧
  vG gp gc gw W s' (.mk op nm sc n [] [ax] bl el) w (.returned (.agg #[.int .i64 op,.string nm,.string sc,.int .i64 n,.slice none 0 0,.slice Ae 1 1,.slice Ab nb cb,.slice A m c])) (EN (w8.setCell ⟨gx,7,none⟩ (.slice A m c)) w.heap.size (.int .i64 op) (.string nm) (.string sc) (.int .i64 n) (.slice none 0 0) (.slice Ae 1 1) (.slice Ab nb cb) (.slice A m c)):=by
 have hlt:=h.k5.lt
 have h8:=h.pO hz hs1 hgx hP hB
 have hb:=(But.refl (fun k=>k=gx) w8).setCell (p:=⟨gx,7,none⟩) (.inl rfl) (.slice A m c)
 have EO:af _ gx 49 #[.int .i64 op,.string nm,.string sc,.int .i64 n,.slice none 0 0,.slice Ae 1 1,.slice Ab nb cb,.slice A m c]:=h8.k5.stored 7 (.slice A m c)
 have hk4:=h8.k4.ag (hb.block _ h8.k4.lt (by omega))
 have he:=aO.kept h8.e (Kept.aN hb fun k hk e=>hk.2 e)
 have hl:=aP.kept h8.l (Kept.aN hb fun k hk e=>hk.2 e)
 have YE:=aP.kept hx (Kept.aN hb fun k (hk:wN.heap.size≤k) e=>by omega)
 have FY:=h8.b.trans hb (fun i hi=>.inr (by omega))
 have hPP:=hP.elsewhere hb (by omega)
 generalize w8.setCell ⟨gx,7,none⟩ (.slice A m c)=w9 at *
 have hst:=D6 h0 h1 hn hm hs (ai.nil_ (Fr w1) w9 1 dL) (aO.conv (F':=Fr w1) (fun k hk=>hk.1) (Kept.refl _ _) (Nat.le_max_left D D2) he) (aP.conv (F':=Fr w1) (fun k hk=>hk.1) (Kept.refl _ _) (Nat.le_max_left D D2) hl) (aP.conv (F':=Fr w1) (fun k (hk:wN.heap.size≤k)=>by show w1.heap.size≤k;omega) (Kept.refl _ _) (Nat.le_max_right D D2) YE)
 exact⟨h8.k5,EO,hk4,mQ (x:=.mk op nm sc n [] [ax] bl el) (w3:=w1) hst hPP FY hk4 (Nat.le_refl _) (by omega) hz⟩
end
theorem abI {F F':Nat→Prop} {w w':World} (hF:∀ k,k<w.heap.size→F k→F' k) (hk:Kept F w w') {d:Nat} {A:Option Addr} {n c:Nat} {es:List Ex} (h:aO F d w A n c es):aO F' d w' A n c es:=by
 refine ai.conv h hk (fun a ha hn hf=>hF _ (ai.lt h hn a ha) hf) (fun r x _ hx=>?_)
 exact aC.turn hF hk d (Nat.le_refl _) hx
theorem XG (gp gc gw:Nat) (W:aV) (m:Nat) (hBl:Uy gp gc gw W m):abG gp gc gw W m:=by
 intro s w h hf hm
 have hz:=And.intro h.lt.1 (And.intro h.lt.2 h.wl)
 obtain⟨w1,Hw1⟩:∃ w1,Hid (w1=w.alloc (.cells oV 49)):=⟨_,rfl⟩
 have hb1:Below w.heap.size w w1:=by rw[Hw1.out];exact(Below.refl _ _).alloc (Nat.le_refl _) _
 have hk4:af w1 w.heap.size 49 oV:=by rw[Hw1.out];exact af.laid _ _ _
 have hsz:w1.heap.size=w.heap.size+1:=by rw[Hw1.out];simp
 have jM:=ae hsz
 have Hb1:=ae hb1
 have tK:=ae hk4
 have Hz:=ae hz
 have H1:=ae (And.intro (h.below hb1) (But.refl (fV gp gc) w1))
 have Hh:=ae h
 have gB:=ae (fun t s' w2 (hW:aW gp gc gw W s' w2)=>gX gp gc gw W s' t w2 hW)
 have hBo:=fun s' w2 (hW:aW gp gc gw W s' w2) (hF:Fit W m s')=>hBl s' w2 hW hF hm
 have hUB:=xx W m
 have hfin:=QO W (gG W m) s
 generalize jD W (gG W m) s=fin at *
 generalize gG W m=B at *
 have HBo:=ae hBo
 have HUB:=ae hUB
 have bn:=ae hfin
 have Hf:=ae hf
 clear hz hb1 hk4 hsz h hBo hBl hUB hfin hf hm
 go_enter Tryz.func94,Tryz.ntmps94
 go_upto_region 1 with (fail)
 rw[← Hw1.out]
 rcases bC W (str [102,111,114]) s with h1|⟨h1,_,_⟩
 ·have hm:=gB.out (str [102,111,114]) s w1 H1.out.1
  rw[h1] at hm
  simp only[str] at hm
  have Hm:=ae hm
  have MX:=ae h1
  clear hm h1
  go_wp2_with (fail)
  refine Hm.out.mono ?_
  rintro e w2 ⟨rfl,hP,hB⟩
  have H2:=ae (And.intro hP (H1.out.2.trans' hB))
  clear hP hB Hm
  rcases bC W (str [105,102]) s with h1|⟨h1,_,_⟩
  ·have hm:=gB.out (str [105,102]) s w2 H2.out.1
   rw[h1] at hm
   simp only[str] at hm
   have Hm:=ae hm
   have hf:=bn.out
   simp only[MX.out,h1,Bool.false_eq_true,if_false] at hf
   clear hm h1 bn
   have hc:=fun w2 (hW:aW gp gc gw W s w2)=>Uu gp gc gw W s w2 hW
   generalize dH W s=r at *
   obtain⟨x,sx⟩:=r
   simp only at hf hc
   have hmu:=fun g w2 (hW:aW gp gc gw W sx w2) (hg:g=w2.heap.size)=>dR gp gc gw g W sx (str [59]) w2 hW hg
   generalize ak W [str [59]] sx=sm at *
   simp only[str] at hmu
   have HF:=ae hf
   have Hc:=ae hc
   have Xu:=ae hmu
   clear hf hc hmu
   go_wp2_with (fail)
   refine Hm.out.mono ?_
   rintro e w3 ⟨rfl,hP,hB⟩
   have H3:=ae (And.intro hP (H2.out.2.trans' hB))
   clear hP hB
   go_wp2_with (fail)
   refine(Hc.out _ H3.out.1).mono ?_
   rintro e w4 ⟨row,D,rfl,hx,hP,hB⟩
   obtain⟨Ac,nc,cc,Ae,ne,ce,Ab,nb,cb,Al,nl,cl,rfl⟩:=vH hx
   have hal:=(Below.refl w4.heap.size w4).alloc (Nat.le_refl _) (.cells #[.int .i64 x.op,.string x.name,.string x.src,.int .i64 x.n,.slice Ac nc cc,.slice Ae ne ce,.slice Ab nb cb,.slice Al nl cl] 49)
   have hk5:af (w4.alloc (.cells #[.int .i64 x.op,.string x.name,.string x.src,.int .i64 x.n,.slice Ac nc cc,.slice Ae ne ce,.slice Ab nb cb,.slice Al nl cl] 49)) w4.heap.size 49 #[.int .i64 x.op,.string x.name,.string x.src,.int .i64 x.n,.slice Ac nc cc,.slice Ae ne ce,.slice Ab nb cb,.slice Al nl cl]:=af.laid _ _ _
   have pz:=hP.below hal
   have iP:=(H3.out.2.trans' hB).trans' (But.of_below hal)
   have hx5:=bQ.below hx hal
   have hs3:=H3.out.2.size
   have hs4:=hB.size
   obtain⟨w5,Hw5⟩:∃ w5,Hid (w5=w4.alloc (.cells #[.int .i64 x.op,.string x.name,.string x.src,.int .i64 x.n,.slice Ac nc cc,.slice Ae ne ce,.slice Ab nb cb,.slice Al nl cl] 49)):=⟨_,rfl⟩
   have hs5:w4.heap.size+1=w5.heap.size:=by rw[Hw5.out];simp
   rw[← Hw5.out] at hk5 pz iP hx5
   have H5:=ae (And.intro pz (And.intro iP (And.intro hk5 (And.intro hx5 (And.intro hs5 (And.intro hs3 hs4))))))
   clear hx hP hB hal hk5 pz iP hx5 hs3 hs4 hs5
   go_wp2_with (fail)
   rw[← Hw5.out]
   refine(Xu.out _ _ H5.out.1 H5.out.2.2.2.2.1).mono ?_
   rintro e w6 ⟨rfl,hP,hB⟩
   have hs:=H5.out.2.2.2.2.2
   have hz:=Hz.out
   have hs1:=jM.out
   have hk5:=ah H5.out.2.2.1 hB (by omega)
   have hk4:=ah (ah tK.out H5.out.2.1 (by omega)) hB (by omega)
   obtain⟨x0,x1,x2,x3,x4,x5,x6,x7,xl⟩:=bW hk5
   obtain⟨y0,y1,y2,y3,y4,y5,y6,y7,yl⟩:=bW hk4
   have f4:=hk4.frozen
   have hst:=bQ.kept H5.out.2.2.2.1 (fK hB (fun k (hk:w3.heap.size≤k)=>by omega))
   have H:=ae (mQ (w3:=w3) hst hP ((But.of_below Hb1.out).trans' (H5.out.2.1.trans' hB)) hk4 (Nat.le_refl _) (by omega) Hz.out)
   clear hP hB hs hz hs1 hk5 hk4 hst
   go_wp2
   rw[nC]
   refine bodyPost_ret (vI Tryz.results94 rfl H.out.1 rfl) rfl ?_
   rw[HF.out]
   exact H.out.2
  ·have hm:=gB.out (str [105,102]) s w2 H2.out.1
   rw[h1] at hm
   simp only[str] at hm
   have Hm:=ae hm
   have hf:=bn.out
   simp only[MX.out,h1,Bool.false_eq_true,if_false,if_true] at hf
   rw[abH] at hf
   clear hm h1 bn
   have hfa:Fit W m (aZ W s.on).2:=(Hf.out.ge (uK s)).ge (dJ W _)
   have hc:=fun w2 (hW:aW gp gc gw W s.on w2)=>rZ gp gc gw W s.on w2 hW
   generalize aZ W s.on=r at *
   obtain⟨ax,sa⟩:=r
   simp only at hf hc hfa
   have hb:=fun w2 hW=>HBo.out sa w2 hW hfa
   have hub:=HUB.out sa
   generalize B sa=r at *
   obtain⟨bl,sb⟩:=r
   simp only at hf hb hub
   have HF:=ae hf
   have Hc:=ae hc
   have Hb:=ae hb
   have Hfb:=ae (hfa.ge hub)
   clear hf hc hb hub hfa
   go_wp2_with (fail)
   refine Hm.out.mono ?_
   rintro e w3 ⟨rfl,hP,hB⟩
   have H3:=ae (And.intro hP (H2.out.2.trans' hB))
   clear hP hB Hm
   go_wp2_with (fail)
   refine(Hc.out _ H3.out.1).mono ?_
   rintro e w4 ⟨row,D,rfl,hx,hP,hB⟩
   obtain⟨A9,m9,c9,rfl⟩:=bP hx
   have hs3:=H3.out.2.size
   have hs4:=hB.size
   have hz:=Hz.out
   have hs1:=jM.out
   have hxl:=Nl (F:=fun k=>w1.heap.size≤k) (g5:=w.heap.size) (g:=w4.heap.size) hx (But.refl _ w4) (by omega) rfl (fun k hk=>by omega) hs4
   have hal:=(Below.refl w4.heap.size w4).alloc (Nat.le_refl _) (.cells #[.int .i64 ax.op,.int .i64 ax.n,.string ax.s,.string ax.name,.string ax.src,.slice A9 m9 c9] 55)
   have pz:=hP.below hal
   have iP:=(H3.out.2.trans' hB).trans' (But.of_below hal)
   have hsa:(w4.alloc (.cells #[.int .i64 ax.op,.int .i64 ax.n,.string ax.s,.string ax.name,.string ax.src,.slice A9 m9 c9] 55)).heap.size=w4.heap.size+1:=by simp
   generalize hWa:w4.alloc (.cells #[.int .i64 ax.op,.int .i64 ax.n,.string ax.s,.string ax.name,.string ax.src,.slice A9 m9 c9] 55)=wa at *
   have HWa:=ae hWa
   have hal2:=(Below.refl wa.heap.size wa).alloc (Nat.le_refl _) (.cells #[.int .i64 7,.string ⟨#[]⟩,.string ⟨#[]⟩,.int .i64 0,.slice none 0 0,.slice (some ⟨w4.heap.size,0,none⟩) 1 1,.slice none 0 0,.slice none 0 0] 49)
   have hk5:af (wa.alloc (.cells #[.int .i64 7,.string ⟨#[]⟩,.string ⟨#[]⟩,.int .i64 0,.slice none 0 0,.slice (some ⟨w4.heap.size,0,none⟩) 1 1,.slice none 0 0,.slice none 0 0] 49)) (w4.heap.size+1) 49 #[.int .i64 7,.string ⟨#[]⟩,.string ⟨#[]⟩,.int .i64 0,.slice none 0 0,.slice (some ⟨w4.heap.size,0,none⟩) 1 1,.slice none 0 0,.slice none 0 0]:=jr hsa.symm
   have Uh:=pz.below hal2
   have vS:=iP.trans' (But.of_below hal2)
   have aes:=abI (F':=fun k=>w1.heap.size≤k∧k≠w4.heap.size+1) (fun k hk hf=>⟨hf,by omega⟩) (Kept.of_below hal2) hxl
   obtain⟨w5,Hw5⟩:∃ w5,Hid (w5=wa.alloc (.cells #[.int .i64 7,.string ⟨#[]⟩,.string ⟨#[]⟩,.int .i64 0,.slice none 0 0,.slice (some ⟨w4.heap.size,0,none⟩) 1 1,.slice none 0 0,.slice none 0 0] 49)):=⟨_,rfl⟩
   rw[← Hw5.out] at hk5 Uh vS aes
   obtain⟨gx,Hgx⟩:∃ gx,Hid (gx=w4.heap.size+1):=⟨_,rfl⟩
   rw[← Hgx.out] at hk5 aes
   have hgx:w.heap.size<gx:=by have:=Hgx.out;omega
   have HT:Hid (sF gp gc gw gx W sa w w1 w5 7 nil0 nil0 0 (some ⟨w4.heap.size,0,none⟩) ax none 0 0 [] D):=ae ⟨Uh,(But.of_below Hb1.out).trans' vS,ah tK.out vS (by omega),hk5,aes,gK _ _ _⟩
   have JC:=ae hgx
   clear hx hP hB hs3 hs4 hz hs1 hxl hal pz iP hsa hWa hal2 hk5 Uh vS aes hgx
   go_wp2_with (fail)
   rw[HWa.out,← Hw5.out,← Hgx.out]
   refine(Hb.out _ HT.out.p).mono ?_
   rintro e w6 ⟨A,n,c,D2,rfl,hx,hP,hB⟩
   obtain⟨hk5,QP⟩:=HT.out.body Hz.out jM.out JC.out hx hP hB
   obtain⟨x0,x1,x2,x3,x4,x5,x6,x7,xl⟩:=bW hk5
   have f5:=hk5.frozen
   obtain⟨w7,XB⟩:∃ w7,Hid (w7=w6.setCell ⟨gx,6,none⟩ (.slice A n c)):=⟨_,rfl⟩
   rw[← XB.out] at QP
   have VZ:=ae QP
   clear hx hP hB hk5 QP
   rcases bC W (str [101,108,115,101]) sb with h1|⟨h1,_,_⟩
   ·have hm:=gB.out (str [101,108,115,101]) sb w7 VZ.out.p
    rw[h1] at hm
    simp only[str] at hm
    have Hm:=ae hm
    have hf:=HF.out
    simp only[h1,Bool.false_eq_true,if_false] at hf
    have HF2:=ae hf
    clear hm h1 HF hf
    go_wp2_with (fail)
    rw[← XB.out]
    refine Hm.out.mono ?_
    rintro e w8 ⟨rfl,hP,hB⟩
    have hT:=VZ.out.pO Hz.out jM.out JC.out hP hB
    clear x0 x1 x2 x3 x4 x5 x6 x7 xl f5
    obtain⟨x0,x1,x2,x3,x4,x5,x6,x7,xl⟩:=bW hT.k5
    obtain⟨y0,y1,y2,y3,y4,y5,y6,y7,yl⟩:=bW hT.k4
    have f4:=hT.k4.frozen
    have H:=ae (hT.out Hz.out jM.out (by decide) (by decide) xu lT lT)
    clear hP hB hT
    go_wp2
    rw[nC]
    refine bodyPost_ret (vI Tryz.results94 rfl H.out.1 rfl) rfl ?_
    rw[HF2.out]
    exact H.out.2
   ·have hm:=gB.out (str [101,108,115,101]) sb w7 VZ.out.p
    rw[h1] at hm
    simp only[str] at hm
    have Hm:=ae hm
    have hf:=HF.out
    simp only[h1,if_true] at hf
    have hfe:Fit W m sb.on:=Hfb.out.ge (uK sb)
    have hb:=fun w2 hW=>HBo.out sb.on w2 hW hfe
    generalize B sb.on=r at *
    obtain⟨el,se⟩:=r
    simp only at hf hb
    have HF2:=ae hf
    have Hb2:=ae hb
    clear hm h1 HF hf hb hfe
    go_wp2_with (fail)
    rw[← XB.out]
    refine Hm.out.mono ?_
    rintro e w8 ⟨rfl,hP,hB⟩
    have XH:=ae (VZ.out.pO Hz.out jM.out JC.out hP hB)
    clear x0 x1 x2 x3 x4 x5 x6 x7 xl f5 hP hB
    go_wp2_with (fail)
    refine(Hb2.out _ XH.out.p).mono ?_
    rintro e w9 ⟨A2,n2,c2,D3,rfl,hx,hP,hB⟩
    obtain⟨hk5,EO,vW,hH⟩:=XH.out.anU Hz.out jM.out JC.out (by decide) (by decide) xu lT lT hx hP hB
    obtain⟨x0,x1,x2,x3,x4,x5,x6,x7,xl⟩:=bW hk5
    have f5:=hk5.frozen
    go_upto_region 14 with (fail)
    clear x0 x1 x2 x3 x4 x5 x6 x7 xl f5
    obtain⟨w10,QM⟩:∃ w10,Hid (w10=w9.setCell ⟨gx,7,none⟩ (.slice A2 n2 c2)):=⟨_,rfl⟩
    rw[← QM.out] at EO vW hH ⊢
    obtain⟨x0,x1,x2,x3,x4,x5,x6,x7,xl⟩:=bW EO
    obtain⟨y0,y1,y2,y3,y4,y5,y6,y7,yl⟩:=bW vW
    have f4:=vW.frozen
    have H:=ae hH
    clear hx hP hB hk5 EO vW hH
    go_wp2
    rw[nC]
    refine bodyPost_ret (vI Tryz.results94 rfl H.out.1 rfl) rfl ?_
    rw[HF2.out]
    exact H.out.2
 ·have hm:=gB.out (str [102,111,114]) s w1 H1.out.1
  rw[h1] at hm
  simp only[str] at hm
  have Hm:=ae hm
  have hf:=bn.out
  simp only[h1,if_true] at hf
  rw[VY] at hf
  clear hm h1 bn
  have hfa:Fit W m (bG W (aZ W) (bF W s.on).2).2:=((Hf.out.ge (uK s)).ge (kN W _)).ge (jB W (dJ W) _)
  have hr:=fun w2 (hW:aW gp gc gw W s.on w2)=>xX gp gc gw W s.on w2 hW
  have hok:=Ju Hh.out s.on
  generalize bF W s.on=r at *
  obtain⟨⟨nm,sc⟩,sr⟩:=r
  simp only at hf hr hok hfa
  have hc:=fun w2 (hW:aW gp gc gw W sr w2)=>xh gp gc gw W sr w2 hW
  generalize bG W (aZ W) sr=r at *
  obtain⟨ax,sa⟩:=r
  simp only at hf hc hfa
  have HF:=ae hf
  have Hr:=ae hr
  have zG:=ae hok
  have Hc:=ae hc
  have Hfa:=ae hfa
  clear hf hr hok hc hfa
  go_wp2_with (fail)
  refine Hm.out.mono ?_
  rintro e w2 ⟨rfl,hP,hB⟩
  have hB:=H1.out.2.trans' hB
  have hal:=(Below.refl w2.heap.size w2).alloc (Nat.le_refl _) (.cells #[.int .i64 6,.string ⟨#[]⟩,.string ⟨#[]⟩,.int .i64 0,.slice none 0 0,.slice none 0 0,.slice none 0 0,.slice none 0 0] 49)
  have hk5:af (w2.alloc (.cells #[.int .i64 6,.string ⟨#[]⟩,.string ⟨#[]⟩,.int .i64 0,.slice none 0 0,.slice none 0 0,.slice none 0 0,.slice none 0 0] 49)) w2.heap.size 49 #[.int .i64 6,.string ⟨#[]⟩,.string ⟨#[]⟩,.int .i64 0,.slice none 0 0,.slice none 0 0,.slice none 0 0,.slice none 0 0]:=af.laid _ _ _
  have hP3:=hP.below hal
  have hB3:=hB.trans' (But.of_below hal)
  have hs2:=hB.size
  obtain⟨w3,KT⟩:∃ w3,Hid (w3=w2.alloc (.cells #[.int .i64 6,.string ⟨#[]⟩,.string ⟨#[]⟩,.int .i64 0,.slice none 0 0,.slice none 0 0,.slice none 0 0,.slice none 0 0] 49)):=⟨_,rfl⟩
  rw[← KT.out] at hk5 hP3 hB3
  obtain⟨gx,Hgx⟩:∃ gx,Hid (gx=w2.heap.size):=⟨_,rfl⟩
  rw[← Hgx.out] at hk5 hs2
  have H3:=ae (And.intro hP3 (And.intro hB3 (And.intro hk5 hs2)))
  clear hP hB hal hk5 hP3 hB3 hs2 Hm
  go_wp2_with (fail)
  rw[← KT.out,← Hgx.out]
  refine(Hr.out _ H3.out.1).mono ?_
  rintro e w4 ⟨rfl,hP,hB⟩
  have hz:=Hz.out
  have hs1:=jM.out
  have hsg:=H3.out.2.2.2
  have hk5:=ah H3.out.2.2.1 hB (by omega)
  have hB4:=H3.out.2.1.trans' hB
  have hk4:=ah tK.out hB4 (by omega)
  obtain⟨x0,x1,x2,x3,x4,x5,x6,x7,xl⟩:=bW hk5
  have f5:=hk5.frozen
  have hb2:=xe w4 gx 1 2 (.string nm) (.string sc)
  have aeu:af (DV w4 gx 1 2 (.string nm) (.string sc)) gx 49 #[.int .i64 6,.string nm,.string sc,.int .i64 0,.slice none 0 0,.slice none 0 0,.slice none 0 0,.slice none 0 0]:=(hk5.stored 1 (.string nm)).stored 2 (.string sc)
  have pz:=hP.elsewhere hb2 (by omega)
  have ah8:=hk4.ag (hb2.block _ hk4.lt (by omega))
  have iP:=((But.of_below Hb1.out).trans' hB4).trans hb2 (fun i hi=>.inr (by omega))
  have hgl:gx<(DV w4 gx 1 2 (.string nm) (.string sc)).heap.size:=aeu.lt
  obtain⟨w5,Hw5⟩:∃ w5,Hid (w5=DV w4 gx 1 2 (.string nm) (.string sc)):=⟨_,rfl⟩
  rw[← Hw5.out] at aeu pz ah8 iP hgl
  have H5:=ae (And.intro pz (And.intro iP (And.intro ah8 (And.intro aeu hgl))))
  clear hP hB hz hs1 hsg hk5 hB4 hk4 hb2 aeu pz ah8 iP hgl
  go_wp2_with (fail)
  rw[DW,← Hw5.out]
  refine(Hc.out _ H5.out.1).mono ?_
  clear x0 x1 x2 x3 x4 x5 x6 x7 xl f5
  rintro e w6 ⟨row,D,rfl,hx,hP,hB⟩
  obtain⟨A9,m9,c9,rfl⟩:=bP hx
  have hz:=Hz.out
  have hs1:=jM.out
  have hsg:=H3.out.2.2.2
  have hgl:=H5.out.2.2.2.2
  have hk5:=ah H5.out.2.2.2.1 hB (by omega)
  have hk4:=ah H5.out.2.2.1 hB (by omega)
  have vS:=H5.out.2.1.trans' hB
  have hs6:=hB.size
  obtain⟨x0,x1,x2,x3,x4,x5,x6,x7,xl⟩:=bW hk5
  have f5:=hk5.frozen
  have hbl:=(But.refl (fun k=>k=gx) w6).setCell (p:=⟨gx,5,none⟩) (.inl rfl) (.slice (some ⟨w6.heap.size,0,none⟩) 1 1)
  have hkl:af (w6.setCell ⟨gx,5,none⟩ (.slice (some ⟨w6.heap.size,0,none⟩) 1 1)) gx 49 #[.int .i64 6,.string nm,.string sc,.int .i64 0,.slice none 0 0,.slice (some ⟨w6.heap.size,0,none⟩) 1 1,.slice none 0 0,.slice none 0 0]:=hk5.stored 5 (.slice (some ⟨w6.heap.size,0,none⟩) 1 1)
  have hsl:(w6.setCell ⟨gx,5,none⟩ (.slice (some ⟨w6.heap.size,0,none⟩) 1 1)).heap.size=w6.heap.size:=by simp[World.setCell]
  have hPl:=hP.elsewhere hbl (by omega)
  have aev:=hk4.ag (hbl.block _ hk4.lt (by omega))
  have hBl:=vS.trans hbl (fun i hi=>.inr (by omega))
  obtain⟨wL,HWL⟩:∃ wL,Hid (wL=w6.setCell ⟨gx,5,none⟩ (.slice (some ⟨w6.heap.size,0,none⟩) 1 1)):=⟨_,rfl⟩
  rw[← HWL.out] at hbl hkl hsl hPl aev hBl
  have hxl:=Nl (F:=fun k=>w1.heap.size≤k∧k≠gx) (g:=w6.heap.size) hx hbl hgl hsl.symm (fun k hk=>⟨by omega,by omega⟩) (by omega)
  have hal:=(Below.refl wL.heap.size wL).alloc (Nat.le_refl _) (.cells #[.int .i64 ax.op,.int .i64 ax.n,.string ax.s,.string ax.name,.string ax.src,.slice A9 m9 c9] 55)
  obtain⟨w7,XB⟩:∃ w7,Hid (w7=wL.alloc (.cells #[.int .i64 ax.op,.int .i64 ax.n,.string ax.s,.string ax.name,.string ax.src,.slice A9 m9 c9] 55)):=⟨_,rfl⟩
  rw[← XB.out] at hxl hal
  have HT:Hid (sF gp gc gw gx W sa w w1 w7 6 nm sc 0 (some ⟨w6.heap.size,0,none⟩) ax none 0 0 [] D):=ae ⟨hPl.below hal,hBl.trans' (But.of_below hal),aev.ag (hal.block _ aev.lt),hkl.ag (hal.block _ hkl.lt),hxl,gK _ _ _⟩
  have JC:=ae (show w.heap.size<gx by omega)
  clear hx hP hB hz hs1 hsg hgl hk5 hk4 vS hs6 hbl hkl hsl hPl aev hBl hxl hal
  rcases bC W (str [108,105,109,105,116]) sa with h1|⟨h1,_,_⟩
  ·have hm:=gB.out (str [108,105,109,105,116]) sa w7 HT.out.p
   rw[h1] at hm
   simp only[str] at hm
   have Hm:=ae hm
   have hf:=HF.out
   simp only[h1,Bool.false_eq_true,if_false] at hf
   clear hm h1 HF
   have Hfb:=Hfa
   go_wp2_with (fail)
   rw[← HWL.out,← XB.out]
   refine Hm.out.mono ?_
   clear x0 x1 x2 x3 x4 x5 x6 x7 xl f5
   rintro e w8 ⟨rfl,hP,hB⟩
   have XH:=ae (HT.out.pO Hz.out jM.out JC.out hP hB)
   clear hP hB
   have hb:=fun w2 hW=>HBo.out sa w2 hW Hfb.out
   generalize B sa=r at *
   obtain⟨bl,sb⟩:=r
   simp only at hf hb
   have HF2:=ae hf
   have Hb:=ae hb
   clear hf hb
   go_wp2_with (fail)
   refine(Hb.out _ XH.out.p).mono ?_
   rintro e vX ⟨A,n,c,D2,rfl,hx,hP,hB⟩
   obtain⟨hk5,QP⟩:=XH.out.body Hz.out jM.out JC.out hx hP hB
   obtain⟨x0,x1,x2,x3,x4,x5,x6,x7,xl⟩:=bW hk5
   have f5:=hk5.frozen
   go_upto_region 8 with (fail)
   clear x0 x1 x2 x3 x4 x5 x6 x7 xl f5
   obtain⟨uV,XD⟩:∃ uV,Hid (uV=vX.setCell ⟨gx,6,none⟩ (.slice A n c)):=⟨_,rfl⟩
   rw[← XD.out] at QP ⊢
   obtain⟨x0,x1,x2,x3,x4,x5,x6,x7,xl⟩:=bW QP.k5
   obtain⟨y0,y1,y2,y3,y4,y5,y6,y7,yl⟩:=bW QP.k4
   have f4:=QP.k4.frozen
   have H:=ae (QP.out Hz.out jM.out (by decide) (by decide) xu zG.out.1 zG.out.2)
   clear hx hP hB hk5 QP
   go_wp2
   rw[nC]
   refine bodyPost_ret (vI Tryz.results94 rfl H.out.1 rfl) rfl ?_
   rw[HF2.out]
   exact H.out.2
  ·have hm:=gB.out (str [108,105,109,105,116]) sa w7 HT.out.p
   rw[h1] at hm
   simp only[str] at hm
   have Hm:=ae hm
   have hf:=HF.out
   simp only[h1,if_true] at hf
   clear hm h1 HF
   have hfl:Fit W m (kE W sa.on).2:=(Hfa.out.ge (uK sa)).ge (JA W _)
   have hli:=fun w2 (hW:aW gp gc gw W sa.on w2)=>Us gp gc gw W sa.on w2 hW
   have hlo:=ah7 Hh.out sa.on
   generalize kE W sa.on=r at *
   obtain⟨nl,sl⟩:=r
   simp only at hf hfl hli hlo
   have Hfb:=ae hfl
   have Hli:=ae hli
   have Hlo:=ae hlo
   have HFx:=ae hf
   clear hfl hli hlo hf
   go_wp2_with (fail)
   rw[← HWL.out,← XB.out]
   refine Hm.out.mono ?_
   clear x0 x1 x2 x3 x4 x5 x6 x7 xl f5
   rintro e w8 ⟨rfl,hP,hB⟩
   have XH:=ae (HT.out.pO Hz.out jM.out JC.out hP hB)
   clear hP hB
   go_wp2_with (fail)
   refine(Hli.out _ XH.out.p).mono ?_
   rintro e w9 ⟨rfl,hP,hB⟩
   have hT9:=XH.out.pO Hz.out jM.out JC.out hP hB
   obtain⟨x0,x1,x2,x3,x4,x5,x6,x7,xl⟩:=bW hT9.k5
   have f5:=hT9.k5.frozen
   have ah9:=hT9.num Hz.out JC.out nl
   obtain⟨w10,QM⟩:∃ w10,Hid (w10=w9.setCell ⟨gx,3,none⟩ (.int .i64 nl)):=⟨_,rfl⟩
   rw[← QM.out] at ah9
   have Np:=ae ah9
   clear hP hB hT9 ah9
   have hf:=HFx.out
   have hb:=fun w2 hW=>HBo.out sl w2 hW Hfb.out
   generalize B sl=r at *
   obtain⟨bl,sb⟩:=r
   simp only at hf hb
   have HF2:=ae hf
   have Hb:=ae hb
   clear hf hb
   go_wp2_with (fail)
   rw[← QM.out]
   clear x0 x1 x2 x3 x4 x5 x6 x7 xl f5
   refine(Hb.out _ Np.out.p).mono ?_
   rintro e vX ⟨A,n,c,D2,rfl,hx,hP,hB⟩
   obtain⟨hk5,QP⟩:=Np.out.body Hz.out jM.out JC.out hx hP hB
   obtain⟨x0,x1,x2,x3,x4,x5,x6,x7,xl⟩:=bW hk5
   have f5:=hk5.frozen
   go_upto_region 8 with (fail)
   clear x0 x1 x2 x3 x4 x5 x6 x7 xl f5
   obtain⟨uV,XD⟩:∃ uV,Hid (uV=vX.setCell ⟨gx,6,none⟩ (.slice A n c)):=⟨_,rfl⟩
   rw[← XD.out] at QP ⊢
   obtain⟨x0,x1,x2,x3,x4,x5,x6,x7,xl⟩:=bW QP.k5
   obtain⟨y0,y1,y2,y3,y4,y5,y6,y7,yl⟩:=bW QP.k4
   have f4:=QP.k4.frozen
   have H:=ae (QP.out Hz.out jM.out (by decide) (by decide) Hlo.out zG.out.1 zG.out.2)
   clear hx hP hB hk5 QP
   go_wp2
   rw[nC]
   refine bodyPost_ret (vI Tryz.results94 rfl H.out.1 rfl) rfl ?_
   rw[HF2.out]
   exact H.out.2
end Go.Proofs.YtjjfkhbajidmdaaGreatDoor

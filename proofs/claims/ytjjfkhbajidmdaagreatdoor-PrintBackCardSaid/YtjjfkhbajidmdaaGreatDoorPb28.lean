/- Parts of this proof, one behind the other: ParK. -/
import Derived.Test.YtjjfkhbajidmdaaGreatDoorPb27
import Derived.Deep.DeepCutAuto
import Derived.Deep.CutBlock
import Derived.Deep.RegionLaw
set_option maxRecDepth 1000000
set_option maxHeartbeats 40000000
namespace Go.Proofs.YtjjfkhbajidmdaaGreatDoor
open Go.RowKit Go.Afx
theorem wZ {P:Program} {w:World} {ops:Array Oper} {o:Oper} {a:Act} {K:Act→World→Prop} {Q:Exit→Act→World→Prop} {E:Prop} (hgd:o.guard=none) {s x:Operand} {t:TypeId}
  (ho:o.op=.call { callee:=.builtin .append,args:=#[s,x],argTypes:=#[t,t] })
  {base:Nat} {e:TypeId} {sz bytes:Nat} {z:Value} (hT:kC P t e sz bytes z)
  {A:Option Addr} {n c:Nat} {xs:List (List Value)} (hs:a.eval s=.slice A n c) (hown:w.ownsRow base e sz (.slice A n c) n xs.flatten)
  {A':Option Addr} {m c':Nat} {news:List (List Value)} (hx:a.eval x=.slice A' m c') (hnews:az w sz A' m c' news) (hlen:∀ r∈news,r.length=sz) (h1:∀ r∈news,∀ u∈r,u.oneCell'=true)
  (h63:n+m≤maxLen) (hbytes:(n+m)*bytes≤140737488355328) (hbase:base≤w.heap.size)
  (h:∀ A2 c2 w',w'.ownsRow base e sz (.slice A2 (n+m) c2) (n+m) (xs++news).flatten→But (fun k=>A.map (·.block)=some k) w w'→(∀ a2,A2=some a2→A=some a2∨w.heap.size≤a2.block)→K (a.put o.dst (.slice A2 (n+m) c2)) w') :
  if Region.wanted o (yielded ops a.tmps)=true then Oper.wp P o a w K Q else E:=by
 have hw:Region.wanted o (yielded ops a.tmps)=true:=by simp[Region.wanted,hgd]
 rw[if_pos hw]
 obtain⟨A2,c2,w',hr,hown',hb,hf⟩:=LX (P:=P) o.type hT hown hnews hlen h1 h63 hbytes hbase
 unfold Oper.wp execOp
 simp only[ho,resolve,invoke,builtin,Sem.run_bind,Sem.run_pure,Result.andThen_ok,List.map_toArray,List.map_cons,List.map_nil,hs,hx,hr]
 exact h A2 c2 w' hown' hb hf
theorem abb:kC Tryz.prog 42 55 6 88 (.agg #[.int .i64 0,.int .i64 0,.string ByteArray.empty,.string ByteArray.empty,.string ByteArray.empty,.slice none 0 0]):=⟨Tryz.underlying42,by kernel_rfl,rfl,by decide⟩
theorem abd (W:aV) (E:au→Ex×au) (s:au):tY W E s =
  if (dE W s).1=21 then
   (.mk 21 0 nil0 (bF W (aG (ak W [str [40]] (dE W s).2))).1.1 (bF W (aG (ak W [str [40]] (dE W s).2))).1.2 [(bG W E (bF W (aG (ak W [str [40]] (dE W s).2))).2).1],
    dw (ak W [str [41]] (bG W E (bF W (aG (ak W [str [40]] (dE W s).2))).2).2))
  else
   (.mk (dE W s).1 0 nil0 (bF W (aG (ak W [str [40]] (dE W s).2))).1.1 (bF W (aG (ak W [str [40]] (dE W s).2))).1.2 [(bG W E (bF W (aG (ak W [str [40]] (dE W s).2))).2).1,(E (ak W [str [58]] (bG W E (bF W (aG (ak W [str [40]] (dE W s).2))).2).2)).1],
    dw (ak W [str [41]] (E (ak W [str [58]] (bG W E (bF W (aG (ak W [str [40]] (dE W s).2))).2).2)).2)):=rfl
structure VM (gp gc gw:Nat) (W:aV) (s:au) (w:World) (wr:World):Prop where
 p:aW gp gc gw W (dE W s).2 wr
 b:But (fV gp gc) w wr
 k2:af wr w.heap.size 55 zero6
 k3:af wr (w.heap.size+1) 55 #[.int .i64 (dE W s).1,.int .i64 0,.string ⟨#[]⟩,.string ⟨#[]⟩,.string ⟨#[]⟩,.slice none 0 0]
theorem qj (W:aV) (s:au):dE W s=if (ay W (str [99,111,117,110,116]) s).1 then (21,(ay W (str [99,111,117,110,116]) s).2) else if (ay W (str [115,117,109]) s).1 then (22,(ay W (str [115,117,109]) s).2) else if (ay W (str [109,105,110]) s).1 then (23,(ay W (str [109,105,110]) s).2) else (24,ak W [str [109,97,120]] s):=rfl
theorem vw {gp gc gw:Nat} {W:aV} {s:au} {w w1 wr:World} {op:Int} {s':au} (hf:dE W s=(op,s')) (hz:gp<w.heap.size∧gc<w.heap.size∧gw<w.heap.size) (hb1:Below w.heap.size w w1)
  (hk2:af w1 w.heap.size 55 zero6) (hk3:af w1 (w.heap.size+1) 55 zero6) (hP:aW gp gc gw W s' wr) (hB:But (fV gp gc) w1 wr):VM gp gc gw W s w (wr.setCell ⟨w.heap.size+1,0,none⟩ (.int .i64 op)):=by
 have hb:=(But.refl (fun k=>k=w.heap.size+1) wr).setCell (p:=⟨w.heap.size+1,0,none⟩) (.inl rfl) (.int .i64 op)
 refine⟨?_,((But.of_below hb1).trans' hB).trans hb (fun i hi=>.inr (by omega)),?_,?_⟩
 ·rw[hf];exact hP.elsewhere hb (by omega)
 ·exact(ah hk2 hB (by omega)).ag (hb.block _ (ah hk2 hB (by omega)).lt (by omega))
 ·rw[hf];exact(ah hk3 hB (by omega)).stored 0 (.int .i64 op)
def DV (w:World) (g i j:Nat) (v u:Value):World:=(w.setCell ⟨g,i,none⟩ v).setCell ⟨g,j,none⟩ u
theorem DW (w:World) (g i j:Nat) (v u:Value):(w.setCell ⟨g,i,none⟩ v).setCell ⟨g,j,none⟩ u=DV w g i j v u:=rfl
theorem xe (w:World) (g i j:Nat) (v u:Value):But (fun k=>k=g) w (DV w g i j v u):=by
 have h:=(But.refl (fun k=>k=g) w).setCell (p:=⟨g,i,none⟩) (.inl rfl) v
 exact h.setCell (p:=⟨g,j,none⟩) (.inl rfl) u
theorem VN {F:Nat→Prop} {d:Nat} {w:World} {op:Int} {nm sc:ByteArray} {A:Option Addr} {n c:Nat} {es:List Ex} (h0:0≤op) (h1:op≤100) (hn:okS nm) (hs:okS sc) (h:aO F d w A n c es):aC F (d+1) w [.int .i64 op,.int .i64 0,.string ⟨#[]⟩,.string nm,.string sc,.slice A n c] (.mk op 0 nil0 nm sc es):=by
 have h2:okS nil0:=by unfold okS;exact Nat.zero_le _
 exact⟨⟨by show _≤op;omega,by show op≤_;omega⟩,⟨by show (_:Int)≤0;omega,by show (0:Int)≤_;omega⟩,h2,hn,hs,A,n,c,rfl,h⟩
theorem Xp (W:aV) (s:au):0≤(dE W s).1∧(dE W s).1≤100:=by
 rw[qj]
 split
 ·exact⟨by show (0:Int)≤21;decide,by show (21:Int)≤100;decide⟩
 ·split
  ·exact⟨by show (0:Int)≤22;decide,by show (22:Int)≤100;decide⟩
  ·split
   ·exact⟨by show (0:Int)≤23;decide,by show (23:Int)≤100;decide⟩
   ·exact⟨by show (0:Int)≤24;decide,by show (24:Int)≤100;decide⟩
theorem Xq {base n gS:Nat} {T:TypeId} {w12 w6:World} {ahE ahF:List Value} {ax bx:Ex} {D D2:Nat} {A6:Option Addr} {c6:Nat}
  (hown:w6.ownsRow base T 6 (.slice A6 (1+1) c6) (1+1) ([ahE]++[ahF]).flatten) (fE:But (fun k=>k=gS) w12 w6) (hf:∀ a2,A6=some a2→some (⟨gS,0,none⟩:Addr)=some a2∨w12.heap.size≤a2.block)
  (ha:aC (fun b=>n≤b∧b≠gS) D w12 ahE ax) (hb:aC (fun b=>n≤b∧b≠gS) D2 w12 ahF bx) (hn:n≤gS) (hn2:n≤w12.heap.size):aO (fun b=>n≤b) (max D D2) w6 A6 2 c6 [ax,bx]:=by
 have hk:Kept (fun b=>n≤b∧b≠gS) w12 w6:=Kept.aN fE fun k hk e=>hk.2 e
 have ha':=aC.conv (F':=fun b=>n≤b) (fun _ h=>h.1) hk D (Nat.le_max_left D D2) ha
 have hb':=aC.conv (F':=fun b=>n≤b) (fun _ h=>h.1) hk D2 (Nat.le_max_right D D2) hb
 refine⟨[ahE,ahF],az.kS hown (fun r hr=>?_) rfl,fun a h1 h2=>?_,rfl,fun k r x h1 h2=>?_⟩
 ·simp at hr
  rcases hr with rfl|rfl
  ·exact ha.len
  ·exact hb.len
 ·rcases hf a h1 with e|e
  ·injection e with e
   subst e
   exact hn
  ·exact Nat.le_trans hn2 e
 ·rcases k with _|_|k
  ·simp at h1 h2;subst h1 h2;exact⟨ha.len,ha'⟩
  ·simp at h1 h2;subst h1 h2;exact⟨hb.len,hb'⟩
  ·simp at h1
theorem Xr (gp gc gw:Nat) (W:aV) (E:au→Ex×au) (m:Nat) (hE:fB gp gc gw W 126 E m) (hUE:∀ s,Ge s (E s).2):fB gp gc gw W 197 (tY W E) (m+1):=by
 intro s w h hf
 have hz:=And.intro h.lt.1 (And.intro h.lt.2 h.wl)
 obtain⟨w1,Hw1⟩:∃ w1,Hid (w1=(w.alloc (.cells zero6 55)).alloc (.cells zero6 55)):=⟨_,rfl⟩
 have hb1:Below w.heap.size w w1:=by rw[Hw1.out];exact((Below.refl _ _).alloc (Nat.le_refl _) _).alloc (by simp) _
 have hk2:af w1 w.heap.size 55 zero6:=by rw[Hw1.out];exact(af.laid _ _ _).alloc _
 have hk3:af w1 (w.heap.size+1) 55 zero6:=by rw[Hw1.out];exact jr (by simp)
 have hsz:w1.heap.size=w.heap.size+2:=by rw[Hw1.out];simp
 have jM:=ae hsz
 have Hb1:=ae hb1
 have Ig:=ae hk2
 have qi:=ae hk3
 have Hz:=ae hz
 have H1:=ae (h.below hb1)
 have hmay:=fun t s' w2 (hW:aW gp gc gw W s' w2)=>gX gp gc gw W s' t w2 hW
 have gB:=ae hmay
 have abe:=ae (fun t s' w2 (hW:aW gp gc gw W s' w2)=>dR gp gc gw w2.heap.size W s' t w2 hW rfl)
 have agp:Fit W m (dE W s).2:=by
  rw[qj]
  have key:∀ t,(ay W t s).1=true→Fit W m (ay W t s).2:=fun t ht=>by
   rcases bC W t s with h1|⟨h1,hbad,_⟩
   ·rw[h1] at ht;cases ht
   ·rw[h1];exact Fit.on hf
  split
  ·rename_i h1;exact key _ h1
  ·split
   ·rename_i h1;exact key _ h1
   ·split
    ·rename_i h1;exact key _ h1
    ·unfold ak ak
     show Fit W m (if _ then _ else _)
     split
     ·rename_i h1;exact key _ h1
     ·exact .inl rfl
 have akD:=ae agp
 clear hz hb1 hk2 hk3 hsz h hf hmay agp
 have hfin:=abd W E s
 generalize tY W E s=fin at *
 have bn:=ae hfin
 clear hfin
 go_enter Tryz.func197,Tryz.ntmps197
 go_upto_block 0 with (fail)
 rw[← Hw1.out]
 go_cut [] (fun wr=>VM gp gc gw W s w wr)
 case first =>
  obtain⟨x0,x1,x2,x3,x4,x5,xl⟩:=aH qi.out
  rcases bC W (str [99,111,117,110,116]) s with h1|⟨h1,_,_⟩
  ·have hm1:=gB.out (str [99,111,117,110,116]) s w1 H1.out
   rw[h1] at hm1
   simp only[str] at hm1
   have Hm1:=ae hm1
   have MX:=ae h1
   clear hm1 h1
   go_wp2_with (fail)
   refine Hm1.out.mono ?_
   rintro e w2 ⟨rfl,hP2,hB2⟩
   have H2:=ae (And.intro hP2 hB2)
   clear hP2 hB2
   rcases bC W (str [115,117,109]) s with h1|⟨h1,_,_⟩
   ·have hm1:=gB.out (str [115,117,109]) s w2 H2.out.1
    rw[h1] at hm1
    simp only[str] at hm1
    have Hm2:=ae hm1
    have Xt:=ae h1
    clear hm1 h1
    go_wp2_with (fail)
    refine Hm2.out.mono ?_
    rintro e w3 ⟨rfl,hP2,hB2⟩
    have H3:=ae (And.intro hP2 (H2.out.2.trans' hB2))
    clear hP2 hB2
    rcases bC W (str [109,105,110]) s with h1|⟨h1,_,_⟩
    ·have hm1:=gB.out (str [109,105,110]) s w3 H3.out.1
     rw[h1] at hm1
     simp only[str] at hm1
     have Hm3:=ae hm1
     have hfo:dE W s=(24,ak W [str [109,97,120]] s):=by rw[qj];simp[MX.out,Xt.out,h1]
     have YF:=ae hfo
     clear hm1 h1 hfo
     go_wp2_with (fail)
     refine Hm3.out.mono ?_
     rintro e w4 ⟨rfl,hP2,hB2⟩
     have H4:=ae (And.intro hP2 (H3.out.2.trans' hB2))
     have hmu:=abe.out (str [109,97,120]) s w4 hP2
     have hm5:=ak W [str [109,97,120]] s
     generalize ak W [str [109,97,120]] s=sm at *
     simp only[str] at hmu
     have Xu:=ae hmu
     clear hP2 hB2 hmu hm5
     go_wp2_with (fail)
     refine Xu.out.mono ?_
     rintro e w5 ⟨rfl,hP,hB⟩
     have hB:=H4.out.2.trans' hB
     obtain⟨y0,y1,y2,y3,y4,y5,yl⟩:=aH (ah qi.out hB (by have:=Hz.out;omega))
     have f3:=(ah qi.out hB (by have:=Hz.out;omega)).frozen
     have H:=ae (vw YF.out Hz.out Hb1.out Ig.out qi.out hP hB)
     clear hP hB
     go_wp2
     go_meet
     exact H.out
    ·have hm1:=gB.out (str [109,105,110]) s w3 H3.out.1
     rw[h1] at hm1
     simp only[str] at hm1
     have Hm:=ae hm1
     have hfo:dE W s=(23,s.on):=by rw[qj];simp[MX.out,Xt.out,h1]
     have YF:=ae hfo
     clear hm1 hfo h1
     go_wp2_with (fail)
     refine Hm.out.mono ?_
     rintro e w9 ⟨rfl,hP,hB⟩
     have hB:=H3.out.2.trans' hB
     obtain⟨y0,y1,y2,y3,y4,y5,yl⟩:=aH (ah qi.out hB (by have:=Hz.out;omega))
     have f3:=(ah qi.out hB (by have:=Hz.out;omega)).frozen
     have H:=ae (vw YF.out Hz.out Hb1.out Ig.out qi.out hP hB)
     clear hP hB
     go_wp2
     go_meet
     exact H.out
   ·have hm1:=gB.out (str [115,117,109]) s w2 H2.out.1
    rw[h1] at hm1
    simp only[str] at hm1
    have Hm:=ae hm1
    have hfo:dE W s=(22,s.on):=by rw[qj];simp[MX.out,h1]
    have YF:=ae hfo
    clear hm1 hfo h1
    go_wp2_with (fail)
    refine Hm.out.mono ?_
    rintro e w9 ⟨rfl,hP,hB⟩
    have hB:=H2.out.2.trans' hB
    obtain⟨y0,y1,y2,y3,y4,y5,yl⟩:=aH (ah qi.out hB (by have:=Hz.out;omega))
    have f3:=(ah qi.out hB (by have:=Hz.out;omega)).frozen
    have H:=ae (vw YF.out Hz.out Hb1.out Ig.out qi.out hP hB)
    clear hP hB
    go_wp2
    go_meet
    exact H.out
  ·have hm1:=gB.out (str [99,111,117,110,116]) s w1 H1.out
   rw[h1] at hm1
   simp only[str] at hm1
   have Hm:=ae hm1
   have hfo:dE W s=(21,s.on):=by rw[qj];simp[h1]
   have YF:=ae hfo
   clear hm1 hfo h1
   go_wp2_with (fail)
   refine Hm.out.mono ?_
   rintro e w9 ⟨rfl,hP,hB⟩
   obtain⟨y0,y1,y2,y3,y4,y5,yl⟩:=aH (ah qi.out hB (by have:=Hz.out;omega))
   have f3:=(ah qi.out hB (by have:=Hz.out;omega)).frozen
   have H:=ae (vw YF.out Hz.out Hb1.out Ig.out qi.out hP hB)
   clear hP hB
   go_wp2
   go_meet
   exact H.out
 case rest =>
  have H2:=ae hcut
  clear hcut
  have akE:Hid (∀ s' w2,aW gp gc gw W s' w2→Calls Tryz.prog 44 #[.pointer (some ⟨gp,0,none⟩),.slice (some ⟨w2.heap.size,0,none⟩) 1 1] (w2.alloc (.cells #[.string ⟨#[40]⟩] 9)) fun e w'=>e=.returned (.tuple #[])∧aW gp gc gw W (ak W [str [40]] s') w'∧But (fV gp gc) w2 w'):=ae (abe.out (str [40]))
  have agq:Hid (∀ s' g w2,aW gp gc gw W s' w2→g=w2.heap.size→Calls Tryz.prog 44 #[.pointer (some ⟨gp,0,none⟩),.slice (some ⟨g,0,none⟩) 1 1] (w2.alloc (.cells #[.string ⟨#[41]⟩] 9)) fun e w'=>e=.returned (.tuple #[])∧aW gp gc gw W (ak W [str [41]] s') w'∧But (fV gp gc) w2 w'):=ae (fun s' g w2 hW hg=>dR gp gc gw g W s' (str [41]) w2 hW hg)
  have akF:Hid (∀ s' g w2,aW gp gc gw W s' w2→g=w2.heap.size→Calls Tryz.prog 44 #[.pointer (some ⟨gp,0,none⟩),.slice (some ⟨g,0,none⟩) 1 1] (w2.alloc (.cells #[.string ⟨#[58]⟩] 9)) fun e w'=>e=.returned (.tuple #[])∧aW gp gc gw W (ak W [str [58]] s') w'∧But (fV gp gc) w2 w'):=ae (fun s' g w2 hW hg=>dR gp gc gw g W s' (str [58]) w2 hW hg)
  have anr:=ae (fun s' w2 (hW:aW gp gc gw W s' w2)=>kX gp gc gw W s' w2 hW)
  have Hlv:=ae (fun s' w2 (hW:aW gp gc gw W s' w2)=>kW gp gc gw W s' w2 hW)
  have Vu:=ae (fun s' w2 (hW:aW gp gc gw W s' w2)=>xX gp gc gw W s' w2 hW)
  have Hwh:=ae (fun s' w2 (hW:aW gp gc gw W s' w2) (hf:Fit W m s')=>Jj gp gc gw W E m hE s' w2 hW hf)
  have HE:=ae hE
  have HUE:=ae hUE
  clear hE hUE gB abe
  have hfo:=Xp W s
  have YF:=ae hfo
  clear hfo
  generalize akG:dE W s=fo at *
  have H3:=ae (And.intro H2.out.p (And.intro H2.out.b (And.intro H2.out.k2 H2.out.k3)))
  rw[akG] at H3
  clear H2 akG
  obtain⟨op,so⟩:=fo
  have hfo:0≤op∧op≤100:=YF.out
  have akH:=ae hfo
  have hok:okS (bF W (aG (ak W [str [40]] so))).1.1∧okS (bF W (aG (ak W [str [40]] so))).1.2:=⟨jW H3.out.1 _,jW H3.out.1 _⟩
  have hfr:Fit W m (bF W (aG (ak W [str [40]] so))).2:=(((akD.out.ge (bY W _ _)).ge (dW _)).ge (kN W _))
  have hrc:=fun w2 hW=>Vu.out (aG (ak W [str [40]] so)) w2 hW
  clear Vu YF hfo
  generalize bF W (aG (ak W [str [40]] so))=r at *
  obtain⟨⟨nm,sc⟩,sr⟩:=r
  simp only at hok hfr hrc
  have Hrc:=ae hrc
  have zG:=ae hok
  have hac:=fun w2 hW=>Hwh.out sr w2 hW hfr
  have hfa:Fit W m (bG W E sr).2:=hfr.ge (jB W HUE.out sr)
  clear hrc hok Hwh
  generalize bG W E sr=a at *
  obtain⟨ax,sa⟩:=a
  simp only at hfa hac
  have Hac:=ae hac
  have Hfa:=ae hfa
  clear hac hfa hfr
  go_wp2_with (fail)
  refine(akE.out _ _ H3.out.1).mono ?_
  rintro e w4 ⟨rfl,hP,hB⟩
  have H4:=ae (And.intro hP hB)
  clear hP hB
  go_wp2_with (fail)
  refine(anr.out _ _ H4.out.1).mono ?_
  rintro e w5 ⟨rfl,hP,hB⟩
  have H5:=ae (And.intro hP (H4.out.2.trans' hB))
  clear hP hB
  go_wp2_with (fail)
  refine(Hrc.out _ H5.out.1).mono ?_
  rintro e w6 ⟨rfl,hP,hB⟩
  have vS:=H5.out.2.trans' hB
  have DX:=ah H3.out.2.2.2 vS (by have:=Hz.out;omega)
  obtain⟨x0,x1,x2,x3,x4,x5,xl⟩:=aH DX
  have f36:=DX.frozen
  have H6:=ae (And.intro hP (And.intro (H3.out.2.1.trans' vS) (And.intro (ah H3.out.2.2.1 vS (by have:=Hz.out;omega)) DX)))
  clear hP hB vS DX
  go_wp2_with (fail)
  rw[DW]
  have hb7:=xe w6 (w.heap.size+1) 3 4 (.string nm) (.string sc)
  have jk:af (DV w6 (w.heap.size+1) 3 4 (.string nm) (.string sc)) (w.heap.size+1) 55 #[.int .i64 op,.int .i64 0,.string ⟨#[]⟩,.string nm,.string sc,.slice none 0 0]:=(H6.out.2.2.2.stored 3 (.string nm)).stored 4 (.string sc)
  generalize DV w6 (w.heap.size+1) 3 4 (.string nm) (.string sc)=w7 at *
  have akI:=H6.out.2.2.1.ag (hb7.block _ H6.out.2.2.1.lt (by omega))
  have H7:=ae (And.intro (H6.out.1.elsewhere hb7 (by have:=Hz.out;omega)) (And.intro (H6.out.2.1.trans hb7 (fun i hi=>.inr (by omega))) (And.intro akI jk)))
  clear hb7 jk akI x0 x1 x2 x3 x4 x5 xl f36
  refine(Hac.out _ H7.out.1).mono ?_
  rintro e w8 ⟨row,D,rfl,hx,hP,hB⟩
  obtain⟨A2,m2,c2,rfl⟩:=bP hx
  have Ku:=ah H7.out.2.2.2 hB (by have:=Hz.out;omega)
  obtain⟨x0,x1,x2,x3,x4,x5,xl⟩:=aH Ku
  have f38:=Ku.frozen
  have agr:=Ku.lt
  have hs7:=H7.out.2.2.2.lt
  have hb8:=(But.refl (fun k=>k=w.heap.size+1) w8).setCell (p:=⟨w.heap.size+1,5,none⟩) (.inl rfl) (.slice (some ⟨w8.heap.size,0,none⟩) 1 1)
  have VO:af _ (w.heap.size+1) 55 #[.int .i64 op,.int .i64 0,.string ⟨#[]⟩,.string nm,.string sc,.slice (some ⟨w8.heap.size,0,none⟩) 1 1]:=Ku.stored 5 (.slice (some ⟨w8.heap.size,0,none⟩) 1 1)
  have ahH:=ah H7.out.2.2.1 hB (by have:=Hz.out;omega)
  have VP:=ahH.ag (hb8.block _ ahH.lt (by omega))
  have Uc:=hP.elsewhere hb8 (by have:=Hz.out;omega)
  have wu:=(H7.out.2.1.trans' hB).trans hb8 (fun i hi=>.inr (by omega))
  have YE:=hx.kept (Kept.aN hb8 fun k (hk:w7.heap.size≤k) e=>by omega)
  obtain⟨YG,aef⟩:∃ YG,Hid (YG=w8.setCell ⟨w.heap.size+1,5,none⟩ (.slice (some ⟨w8.heap.size,0,none⟩) 1 1)):=⟨_,rfl⟩
  have hz8:YG.heap.size=w8.heap.size:=by rw[aef.out];simp[World.setCell]
  rw[← aef.out] at VO VP Uc wu YE
  have hs8:=hB.size
  have Kr:=xO (F:=Fr w1) (d:=D) (n:=1) (g:=w8.heap.size) (w:=YG) 55 [[.int .i64 ax.op,.int .i64 ax.n,.string ax.s,.string ax.name,.string ax.src,.slice A2 m2 c2]] [ax] hz8.symm (show w1.heap.size≤w8.heap.size by have:=jM.out;omega) rfl (by omega) rfl (fun k r x h1 h2=>by
   rcases k with _|k
   ·simp at h1 h2
    subst h1 h2
    exact aC.conv (fun k (hk:w7.heap.size≤k)=>by have:=jM.out;show w1.heap.size≤k;omega) (Kept.refl _ _) D (Nat.le_refl _) YE
   ·simp at h1)
  simp only[List.flatten_cons,List.flatten_nil,List.append_nil] at Kr
  have hal:=(Below.refl YG.heap.size YG).alloc (Nat.le_refl _) (.cells #[.int .i64 ax.op,.int .i64 ax.n,.string ax.s,.string ax.name,.string ax.src,.slice A2 m2 c2] 55)
  have hown:(YG.alloc (.cells #[.int .i64 ax.op,.int .i64 ax.n,.string ax.s,.string ax.name,.string ax.src,.slice A2 m2 c2] 55)).ownsRow YG.heap.size 55 6 (.slice (some ⟨YG.heap.size,0,none⟩) 1 1) 1 [[.int .i64 ax.op,.int .i64 ax.n,.string ax.s,.string ax.name,.string ax.src,.slice A2 m2 c2]].flatten:=World.ownsRow_lit (base:=YG.heap.size) (e:=55) (size:=6) YG #[.int .i64 ax.op,.int .i64 ax.n,.string ax.s,.string ax.name,.string ax.src,.slice A2 m2 c2] 1 (Nat.le_refl _) (by unfold maxLen;omega) rfl
  rw[hz8] at hown
  have hx9:=aC.turn (F':=fun b=>w1.heap.size≤b∧b≠w8.heap.size) (fun k hk (hf:w7.heap.size≤k)=>by have:=jM.out;constructor<;>omega) (Kept.of_below hal) D (Nat.le_refl _) YE
  obtain⟨w9,Hw9⟩:∃ w9,Hid (w9=YG.alloc (.cells #[.int .i64 ax.op,.int .i64 ax.n,.string ax.s,.string ax.name,.string ax.src,.slice A2 m2 c2] 55)):=⟨_,rfl⟩
  have hz9:w9.heap.size=w8.heap.size+1:=by rw[Hw9.out];simp[hz8]
  have hP9:=Uc.below hal
  have rM:=wu.trans' (But.of_below hal)
  have ahI:=VP.ag (hal.block _ VP.lt)
  have ahJ:=VO.ag (hal.block _ VO.lt)
  rw[← Hw9.out] at Kr hown hx9 hP9 rM ahI ahJ
  have hzz:w8.heap.size<w9.heap.size∧w.heap.size+1<w8.heap.size:=⟨by omega,agr⟩
  have H9:=ae (And.intro hP9 (And.intro rM (And.intro ahI (And.intro ahJ (And.intro Kr (And.intro hown (And.intro hx9 (And.intro hzz hz9))))))))
  clear hx hP hB Ku Kr hal hown YE hz8 agr Uc wu ahH VP VO hb8 ahJ ahI hP9 rM hx9 hz9 hzz hs7 hs8
  rcases Classical.em (op=21) with h0|h0
  ·subst h0
   have hf:=bn.out
   rw[if_pos rfl] at hf
   subst hf
   go_wp2_with (fail)
   rw[← aef.out,← Hw9.out]
   refine(agq.out _ _ _ H9.out.1 H9.out.2.2.2.2.2.2.2.2.symm).mono ?_
   rintro e w10 ⟨rfl,hP,hB⟩
   have H10:=ae (And.intro hP hB)
   clear hP hB
   go_wp2_with (fail)
   refine(Hlv.out _ _ H10.out.1).mono ?_
   rintro e tJ ⟨rfl,hP,hB⟩
   have vz:=H10.out.2.trans' hB
   have hk2:=ah H9.out.2.2.1 vz (by have:=Hz.out;omega)
   have hk3:=ah H9.out.2.2.2.1 vz (by have:=Hz.out;omega)
   obtain⟨x0,x1,x2,x3,x4,x5,xl⟩:=aH hk2
   obtain⟨y0,y1,y2,y3,y4,y5,yl⟩:=aH hk3
   have f2:=hk2.frozen
   have hx:=VN (op:=21) (by decide) (by decide) zG.out.1 zG.out.2 (aO.kept H9.out.2.2.2.2.1 (fK vz (fun k (hk:w1.heap.size≤k)=>by have:=Hz.out;have:=jM.out;omega)))
   have H:=ae (eH (x:=.mk 21 0 nil0 nm sc [ax]) (w3:=w1) hx hP (H9.out.2.1.trans' vz) hk2 (Nat.le_refl _) (by have:=jM.out;omega) Hz.out)
   clear hP hB vz hk2 hk3 hx
   go_wp2
   rw[bJ]
   exact bodyPost_ret (fA Tryz.results197 rfl H.out.1 rfl) rfl H.out.2
  ·have q0:(op !=21)=true:=by simpa using h0
   have hf:=bn.out
   rw[if_neg h0] at hf
   subst hf
   have H0:=ae h0
   clear h0
   go_wp2_with (fail)
   rw[← aef.out,← Hw9.out]
   refine(akF.out _ _ _ H9.out.1 H9.out.2.2.2.2.2.2.2.2.symm).mono ?_
   rintro e w10 ⟨rfl,hP,hB⟩
   have hfit:=Hfa.out.ge (bY W (str [58]) sa)
   generalize ak W [str [58]] sa=s10 at *
   have hec:=fun w2 hW=>HE.out s10 w2 hW hfit
   generalize E s10=b at *
   obtain⟨bx,sb⟩:=b
   simp only at hec
   have Hec:=ae hec
   have hk3:=ah H9.out.2.2.2.1 hB (by have:=Hz.out;omega)
   obtain⟨y0,y1,y2,y3,y4,y5,yl⟩:=aH hk3
   have hd:aW gp gc gw W s10 w10.drew:=hP.below (Below.refl _ _).drew
   have hBd:=hB.drew
   have hkd:af w10.drew (w.heap.size+1) 55 #[.int .i64 op,.int .i64 0,.string ⟨#[]⟩,.string nm,.string sc,.slice (some ⟨w8.heap.size,0,none⟩) 1 1]:=hk3
   have hod:=eP H9.out.2.2.2.2.2.1 hBd (fun g hg e=>by
    have h1:=(H9.out.2.2.2.2.2.1.lt g hg).1
    have:=Hz.out;have:=H9.out.2.2.2.2.2.2.2.1
    rcases e with e|e<;>omega)
   have Hd:=ae (And.intro hd (And.intro hkd (And.intro hod hBd)))
   clear hP hB hk3 hd hBd hkd hod hec hfit
   have hst:∀ (tJ:World) (D11:Nat) (Qw:Option Addr) (m11 c11:Nat),aC (Fr w10.drew) D11 tJ [.int .i64 bx.op,.int .i64 bx.n,.string bx.s,.string bx.name,.string bx.src,.slice Qw m11 c11] bx→But (fV gp gc) w10.drew tJ →
     af tJ (w.heap.size+1) 55 #[.int .i64 op,.int .i64 0,.string ⟨#[]⟩,.string nm,.string sc,.slice (some ⟨w8.heap.size,0,none⟩) 1 1] ∧
     (tJ.alloc (.cells #[.int .i64 bx.op,.int .i64 bx.n,.string bx.s,.string bx.name,.string bx.src,.slice Qw m11 c11] 55)).ownsRow w8.heap.size 55 6 (.slice (some ⟨w8.heap.size,0,none⟩) 1 1) 1 [[.int .i64 ax.op,.int .i64 ax.n,.string ax.s,.string ax.name,.string ax.src,.slice A2 m2 c2]].flatten ∧
     az (tJ.alloc (.cells #[.int .i64 bx.op,.int .i64 bx.n,.string bx.s,.string bx.name,.string bx.src,.slice Qw m11 c11] 55)) 6 (some ⟨tJ.heap.size,0,none⟩) 1 1 [[.int .i64 bx.op,.int .i64 bx.n,.string bx.s,.string bx.name,.string bx.src,.slice Qw m11 c11]] ∧
     (∀ r∈[[Value.int .i64 bx.op,.int .i64 bx.n,.string bx.s,.string bx.name,.string bx.src,.slice Qw m11 c11]],r.length=6)∧(∀ r∈[[Value.int .i64 bx.op,.int .i64 bx.n,.string bx.s,.string bx.name,.string bx.src,.slice Qw m11 c11]],∀ u∈r,u.oneCell'=true) ∧
     af (tJ.alloc (.cells #[.int .i64 bx.op,.int .i64 bx.n,.string bx.s,.string bx.name,.string bx.src,.slice Qw m11 c11] 55)) (w.heap.size+1) 55 #[.int .i64 op,.int .i64 0,.string ⟨#[]⟩,.string nm,.string sc,.slice (some ⟨w8.heap.size,0,none⟩) 1 1] ∧
     w8.heap.size≤(tJ.alloc (.cells #[.int .i64 bx.op,.int .i64 bx.n,.string bx.s,.string bx.name,.string bx.src,.slice Qw m11 c11] 55)).heap.size∧aC (fun b=>w1.heap.size≤b∧b≠w8.heap.size) D (tJ.alloc (.cells #[.int .i64 bx.op,.int .i64 bx.n,.string bx.s,.string bx.name,.string bx.src,.slice Qw m11 c11] 55)) [.int .i64 ax.op,.int .i64 ax.n,.string ax.s,.string ax.name,.string ax.src,.slice A2 m2 c2] ax∧aC (fun b=>w1.heap.size≤b∧b≠w8.heap.size) D11 (tJ.alloc (.cells #[.int .i64 bx.op,.int .i64 bx.n,.string bx.s,.string bx.name,.string bx.src,.slice Qw m11 c11] 55)) [.int .i64 bx.op,.int .i64 bx.n,.string bx.s,.string bx.name,.string bx.src,.slice Qw m11 c11] bx∧af (tJ.alloc (.cells #[.int .i64 bx.op,.int .i64 bx.n,.string bx.s,.string bx.name,.string bx.src,.slice Qw m11 c11] 55)) w.heap.size 55 zero6∧But (fV gp gc) w (tJ.alloc (.cells #[.int .i64 bx.op,.int .i64 bx.n,.string bx.s,.string bx.name,.string bx.src,.slice Qw m11 c11] 55)):=by
    intro tJ D11 Qw m11 c11 Xv vz
    have agt:=ah Hd.out.2.1 vz (by have:=Hz.out;omega)
    refine⟨agt,own_below (eP Hd.out.2.2.1 vz (fun g hg e=>?_)) ((Below.refl tJ.heap.size tJ).alloc (Nat.le_refl _) _),az.nG _ _ 1 rfl rfl (by simp) rfl (by unfold maxLen;omega),by simp,?_,agt.alloc _,?_,?_,?_,?_,?_⟩
    ·have h1:=(Hd.out.2.2.1.lt g hg).1
     have:=Hz.out;have:=H9.out.2.2.2.2.2.2.2.1
     rcases e with e|e<;>omega
    ·intro r hr
     simp only[List.mem_singleton] at hr
     subst hr
     exact aC.one Xv
    ·have h1:=Hd.out.2.2.2.size;have h2:=vz.size;have:=H9.out.2.2.2.2.2.2.2.1
     simp
     omega
    ·exact((H9.out.2.2.2.2.2.2.1.kept (fK Hd.out.2.2.2 (fun k hk=>by have:=Hz.out;have:=jM.out;omega))).kept (fK vz (fun k hk=>by have:=Hz.out;have:=jM.out;omega))).below ((Below.refl tJ.heap.size tJ).alloc (Nat.le_refl _) _)
    ·exact aC.conv (fun k (hk:w10.drew.heap.size≤k)=>by have h1:=Hd.out.2.2.2.size;have:=H9.out.2.2.2.2.2.2.2.1;have:=jM.out;constructor<;>omega) (Kept.of_below ((Below.refl tJ.heap.size tJ).alloc (Nat.le_refl _) _)) D11 (Nat.le_refl _) Xv
    ·exact(ah (ah H9.out.2.2.1 Hd.out.2.2.2 (by have:=Hz.out;omega)) vz (by have:=Hz.out;omega)).alloc _
    ·exact(H9.out.2.1.trans' (Hd.out.2.2.2.trans' vz)).alloc _
   have J6:=ae hst
   clear hst
   have hmx:1+1≤maxLen:=by unfold maxLen;omega
   go_upto_region 16 with (fail)
   go_region_law (first
    | (refine wZ (base:=w8.heap.size) (xs:=[[.int .i64 ax.op,.int .i64 ax.n,.string ax.s,.string ax.name,.string ax.src,.slice A2 m2 c2]]) (news:=[[.int .i64 bx.op,.int .i64 bx.n,.string bx.s,.string bx.name,.string bx.src,.slice Qw m11 c11]]) rfl rfl abb rfl s2 rfl s3 s4 s5 hmx (by omega) s7 ?_;intro A6 c6 w6 hown6 dS FM;have DX:=s6.ag (dS.block _ s6.lt (by have:=H9.out.2.2.2.2.2.2.2.1;simp;omega));obtain⟨v0,v1,v2,v3,v4,v5,vl⟩:=aH DX;have f36:=DX.frozen)
    | (go_simp;go_at_call 126;refine(Hec.out _ Hd.out.1).mono ?_;rintro e11 tJ ⟨aoU,D11,rfl,Xv,akK,vz⟩;obtain⟨Qw,m11,c11,rfl⟩:=bP Xv;obtain⟨s1,s2,s3,s4,s5,s6,s7,s8,s9,aeg,s11⟩:=J6.out _ _ _ _ _ Xv vz;obtain⟨z0,z1,z2,z3,z4,z5,zl⟩:=aH s1))
   all_goals
    have hz9:=H9.out.2.2.2.2.2.2.2.1
    have hb6:But (fun k=>k=w8.heap.size) _ w6:=dS.mono (fun i hi=>.inl (by simpa using hi.symm))
    have Uh:=(akK.below ((Below.refl tJ.heap.size tJ).alloc (Nat.le_refl _) (.cells #[.int .i64 bx.op,.int .i64 bx.n,.string bx.s,.string bx.name,.string bx.src,.slice Qw m11 c11] 55))).elsewhere hb6 (by have:=Hz.out;omega)
    have ahK:=aeg.ag (hb6.block _ aeg.lt (by omega))
    have vS:=s11.trans hb6 (fun i hi=>.inr (by omega))
    have hl6:=Xq hown6 hb6 FM s8 s9 (by have:=jM.out;omega) (by have:=aeg.lt;have:=jM.out;omega)
    have hb7:=(But.refl (fun k=>k=w.heap.size+1) w6).setCell (p:=⟨w.heap.size+1,5,none⟩) (.inl rfl) (.slice A6 2 c6)
    have ahL:af _ (w.heap.size+1) 55 #[.int .i64 op,.int .i64 0,.string ⟨#[]⟩,.string nm,.string sc,.slice A6 2 c6]:=DX.stored 5 (.slice A6 2 c6)
    obtain⟨w7',ahM⟩:∃ w7',Hid (w7'=w6.setCell ⟨w.heap.size+1,5,none⟩ (.slice A6 2 c6)):=⟨_,rfl⟩
    have hz7:w6.heap.size=w7'.heap.size:=by rw[ahM.out];simp[World.setCell]
    have hgg:gp<w.heap.size+1∧gc<w.heap.size+1∧gw<w.heap.size+1:=by have:=Hz.out;omega
    have Ir:=Uh.elsewhere hb7 hgg
    have Qx:=ahK.ag (hb7.block _ ahK.lt (by omega))
    have uz:=vS.trans hb7 (fun i hi=>.inr (by omega))
    have hl7:=aO.kept hl6 (Kept.aN hb7 fun k (hk:w1.heap.size≤k) e=>by have:=jM.out;omega)
    rw[← ahM.out] at Ir Qx uz hl7 ahL
    have H7':=ae (And.intro Ir (And.intro uz (And.intro Qx (And.intro ahL (And.intro hl7 hz7)))))
    clear hb7 ahL hz7 hgg Ir Qx uz hl7 hb6 Uh ahK vS hl6 hz9 s1 s2 s3 s4 s5 s6 s7 s8 s9 aeg s11 DX hown6 dS FM Xv akK vz z0 z1 z2 z3 z4 z5 zl y0 y1 y2 y3 y4 y5 yl
    go_wp2_with (fail)
    rw[← ahM.out]
    refine(agq.out _ _ _ H7'.out.1 H7'.out.2.2.2.2.2).mono ?_
    rintro e Sm ⟨rfl,hP,hB⟩
    have H13:=ae (And.intro hP hB)
    clear hP hB v0 v1 v2 v3 v4 v5 vl f36
    go_wp2_with (fail)
    refine(Hlv.out _ _ H13.out.1).mono ?_
    rintro e w14 ⟨rfl,hP,hB⟩
    have abf:=H13.out.2.trans' hB
    have hk2:=ah H7'.out.2.2.1 abf (by have:=Hz.out;omega)
    have hk3:=ah H7'.out.2.2.2.1 abf (by have:=Hz.out;omega)
    obtain⟨x0,x1,x2,x3,x4,x5,xl⟩:=aH hk2
    obtain⟨y0,y1,y2,y3,y4,y5,yl⟩:=aH hk3
    have f2:=hk2.frozen
    have hx:=VN (op:=op) akH.out.1 akH.out.2 zG.out.1 zG.out.2 (aO.kept H7'.out.2.2.2.2.1 (fK abf (fun k (hk:w1.heap.size≤k)=>by have:=Hz.out;have:=jM.out;omega)))
    have H:=ae (eH (x:=.mk op 0 nil0 nm sc [ax,bx]) (w3:=w1) hx hP (H7'.out.2.1.trans' abf) hk2 (Nat.le_refl _) (by have:=jM.out;omega) Hz.out)
    clear hP hB abf hk2 hk3 hx
    go_wp2
    rw[bJ]
    exact bodyPost_ret (fA Tryz.results197 rfl H.out.1 rfl) rfl H.out.2
end Go.Proofs.YtjjfkhbajidmdaaGreatDoor

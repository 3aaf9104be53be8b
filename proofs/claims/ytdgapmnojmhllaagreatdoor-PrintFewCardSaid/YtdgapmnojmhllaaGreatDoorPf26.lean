/- Parts of this proof, one behind the other: ParK. -/
import Derived.Test.YtdgapmnojmhllaaGreatDoorPf25
import Derived.Deep.DeepCutAuto
import Derived.Deep.CutBlock
import Derived.Deep.RegionLaw
set_option maxRecDepth 1000000
set_option maxHeartbeats 40000000
namespace Go.Proofs.YtdgapmnojmhllaaGreatDoor
open Go.RowKit Go.Afx
theorem stepAppP {P:Program} {w:World} {ops:Array Oper} {o:Oper} {a:Act} {K:Act→World→Prop} {Q:Exit→Act→World→Prop} {E:Prop} (hgd:o.guard=none) {s x:Operand} {t:TypeId}
  (ho:o.op=.call { callee:=.builtin .append,args:=#[s,x],argTypes:=#[t,t] })
  {base:Nat} {e:TypeId} {sz bytes:Nat} {z:Value} (hT:ElemTy P t e sz bytes z)
  {A:Option Addr} {n c:Nat} {xs:List (List Value)} (hs:a.eval s=.slice A n c) (hown:w.ownsRow base e sz (.slice A n c) n xs.flatten)
  {A':Option Addr} {m c':Nat} {news:List (List Value)} (hx:a.eval x=.slice A' m c') (hnews:RowsAt w sz A' m c' news) (hlen:∀ r∈news,r.length=sz) (h1:∀ r∈news,∀ u∈r,u.oneCell'=true)
  (h63:n+m≤maxLen) (hbytes:(n+m)*bytes≤140737488355328) (hbase:base≤w.heap.size)
  (h:∀ A2 c2 w',w'.ownsRow base e sz (.slice A2 (n+m) c2) (n+m) (xs++news).flatten→But (fun k=>A.map (·.block)=some k) w w'→(∀ a2,A2=some a2→A=some a2∨w.heap.size≤a2.block)→K (a.put o.dst (.slice A2 (n+m) c2)) w') :
  if Region.wanted o (yielded ops a.tmps)=true then Oper.wp P o a w K Q else E:=by
 have hw:Region.wanted o (yielded ops a.tmps)=true:=by simp[Region.wanted,hgd]
 rw[if_pos hw]
 obtain⟨A2,c2,w',hr,hown',hb,hf⟩:=run_app (P:=P) o.type hT hown hnews hlen h1 h63 hbytes hbase
 unfold Oper.wp execOp
 simp only[ho,resolve,invoke,builtin,Sem.run_bind,Sem.run_pure,Result.andThen_ok,List.map_toArray,List.map_cons,List.map_nil,hs,hx,hr]
 exact h A2 c2 w' hown' hb hf
theorem tyExp:ElemTy Tryz.prog 25 32 6 88 (.agg #[.int .i64 0,.int .i64 0,.string ByteArray.empty,.string ByteArray.empty,.string ByteArray.empty,.slice none 0 0]):=⟨Tryz.underlying25,by kernel_rfl,rfl,by decide⟩
theorem foldP_eq (W:Wds) (E:PSt→Ex×PSt) (s:PSt):foldP W E s =
  if (foldOp W s).1=21 then
   (.mk 21 0 nil0 (rowsP W (enterP (mustP W [str [40]] (foldOp W s).2))).1.1 (rowsP W (enterP (mustP W [str [40]] (foldOp W s).2))).1.2 [(whereP W E (rowsP W (enterP (mustP W [str [40]] (foldOp W s).2))).2).1],
    leaveP (mustP W [str [41]] (whereP W E (rowsP W (enterP (mustP W [str [40]] (foldOp W s).2))).2).2))
  else
   (.mk (foldOp W s).1 0 nil0 (rowsP W (enterP (mustP W [str [40]] (foldOp W s).2))).1.1 (rowsP W (enterP (mustP W [str [40]] (foldOp W s).2))).1.2 [(whereP W E (rowsP W (enterP (mustP W [str [40]] (foldOp W s).2))).2).1,(E (mustP W [str [58]] (whereP W E (rowsP W (enterP (mustP W [str [40]] (foldOp W s).2))).2).2)).1],
    leaveP (mustP W [str [41]] (E (mustP W [str [58]] (whereP W E (rowsP W (enterP (mustP W [str [40]] (foldOp W s).2))).2).2)).2)):=rfl
structure Folding (gp gc gw:Nat) (W:Wds) (s:PSt) (w:World) (wr:World):Prop where
 p:PAt gp gc gw W (foldOp W s).2 wr
 b:But (On2 gp gc) w wr
 k2:IsBlk wr w.heap.size 32 zero6
 k3:IsBlk wr (w.heap.size+1) 32 #[.int .i64 (foldOp W s).1,.int .i64 0,.string ⟨#[]⟩,.string ⟨#[]⟩,.string ⟨#[]⟩,.slice none 0 0]
theorem foldOp_eq (W:Wds) (s:PSt):foldOp W s=if (mayP W (str [99,111,117,110,116]) s).1 then (21,(mayP W (str [99,111,117,110,116]) s).2) else if (mayP W (str [115,117,109]) s).1 then (22,(mayP W (str [115,117,109]) s).2) else if (mayP W (str [109,105,110]) s).1 then (23,(mayP W (str [109,105,110]) s).2) else (24,mustP W [str [109,97,120]] s):=rfl
theorem folding_of {gp gc gw:Nat} {W:Wds} {s:PSt} {w w1 wr:World} {op:Int} {s':PSt} (hf:foldOp W s=(op,s')) (hz:gp<w.heap.size∧gc<w.heap.size∧gw<w.heap.size) (hb1:Below w.heap.size w w1)
  (hk2:IsBlk w1 w.heap.size 32 zero6) (hk3:IsBlk w1 (w.heap.size+1) 32 zero6) (hP:PAt gp gc gw W s' wr) (hB:But (On2 gp gc) w1 wr):Folding gp gc gw W s w (wr.setCell ⟨w.heap.size+1,0,none⟩ (.int .i64 op)):=by
 have hb:=(But.refl (fun k=>k=w.heap.size+1) wr).setCell (p:=⟨w.heap.size+1,0,none⟩) (.inl rfl) (.int .i64 op)
 refine⟨?_,((But.of_below hb1).trans' hB).trans hb (fun i hi=>.inr (by omega)),?_,?_⟩
 ·rw[hf];exact hP.elsewhere hb (by omega)
 ·exact(on2_blk hk2 hB (by omega)).as_was (hb.block _ (on2_blk hk2 hB (by omega)).lt (by omega))
 ·rw[hf];exact(on2_blk hk3 hB (by omega)).stored 0 (.int .i64 op)
def lay2 (w:World) (g i j:Nat) (v u:Value):World:=(w.setCell ⟨g,i,none⟩ v).setCell ⟨g,j,none⟩ u
theorem lay2_eq (w:World) (g i j:Nat) (v u:Value):(w.setCell ⟨g,i,none⟩ v).setCell ⟨g,j,none⟩ u=lay2 w g i j v u:=rfl
theorem lay2_but (w:World) (g i j:Nat) (v u:Value):But (fun k=>k=g) w (lay2 w g i j v u):=by
 have h:=(But.refl (fun k=>k=g) w).setCell (p:=⟨g,i,none⟩) (.inl rfl) v
 exact h.setCell (p:=⟨g,j,none⟩) (.inl rfl) u
theorem fold_ex {F:Nat→Prop} {d:Nat} {w:World} {op:Int} {nm sc:ByteArray} {A:Option Addr} {n c:Nat} {es:List Ex} (h0:0≤op) (h1:op≤100) (hn:okS nm) (hs:okS sc) (h:ExsAt F d w A n c es):ExAt F (d+1) w [.int .i64 op,.int .i64 0,.string ⟨#[]⟩,.string nm,.string sc,.slice A n c] (.mk op 0 nil0 nm sc es):=by
 have h2:okS nil0:=by unfold okS;exact Nat.zero_le _
 exact⟨⟨by show _≤op;omega,by show op≤_;omega⟩,⟨by show (_:Int)≤0;omega,by show (0:Int)≤_;omega⟩,h2,hn,hs,A,n,c,rfl,h⟩
theorem foldOp_bd (W:Wds) (s:PSt):0≤(foldOp W s).1∧(foldOp W s).1≤100:=by
 rw[foldOp_eq]
 split
 ·exact⟨by show (0:Int)≤21;decide,by show (21:Int)≤100;decide⟩
 ·split
  ·exact⟨by show (0:Int)≤22;decide,by show (22:Int)≤100;decide⟩
  ·split
   ·exact⟨by show (0:Int)≤23;decide,by show (23:Int)≤100;decide⟩
   ·exact⟨by show (0:Int)≤24;decide,by show (24:Int)≤100;decide⟩
theorem two_grown {base n gS:Nat} {T:TypeId} {w12 w6:World} {rowa rowb:List Value} {ax bx:Ex} {D D2:Nat} {A6:Option Addr} {c6:Nat}
  (hown:w6.ownsRow base T 6 (.slice A6 (1+1) c6) (1+1) ([rowa]++[rowb]).flatten) (hbut:But (fun k=>k=gS) w12 w6) (hf:∀ a2,A6=some a2→some (⟨gS,0,none⟩:Addr)=some a2∨w12.heap.size≤a2.block)
  (ha:ExAt (fun b=>n≤b∧b≠gS) D w12 rowa ax) (hb:ExAt (fun b=>n≤b∧b≠gS) D2 w12 rowb bx) (hn:n≤gS) (hn2:n≤w12.heap.size):ExsAt (fun b=>n≤b) (max D D2) w6 A6 2 c6 [ax,bx]:=by
 have hk:Kept (fun b=>n≤b∧b≠gS) w12 w6:=Kept.of_but hbut fun k hk e=>hk.2 e
 have ha':=ExAt.conv (F':=fun b=>n≤b) (fun _ h=>h.1) hk D (Nat.le_max_left D D2) ha
 have hb':=ExAt.conv (F':=fun b=>n≤b) (fun _ h=>h.1) hk D2 (Nat.le_max_right D D2) hb
 refine⟨[rowa,rowb],RowsAt.of_own hown (fun r hr=>?_) rfl,fun a h1 h2=>?_,rfl,fun k r x h1 h2=>?_⟩
 ·simp at hr
  rcases hr with rfl|rfl
  ·exact ha.len
  ·exact hb.len
 ·rcases hf a h1 with e|e
  ·injection e with e
   subst e
   exact hn
  ·exact Nat.le_trans hn2 e
 ·rcases k with _|_|k
  ·simp at h1 h2;subst h1 h2;exact⟨ha.len,ha'⟩
  ·simp at h1 h2;subst h1 h2;exact⟨hb.len,hb'⟩
  ·simp at h1
theorem pFold_any (gp gc gw:Nat) (W:Wds) (E:PSt→Ex×PSt) (m:Nat) (hE:TakesE gp gc gw W 24 E m) (hUE:∀ s,Ge s (E s).2):TakesE gp gc gw W 219 (foldP W E) (m+1):=by
 intro s w h hf
 have hz:=And.intro h.lt.1 (And.intro h.lt.2 h.wl)
 obtain⟨w1,Hw1⟩:∃ w1,Hid (w1=(w.alloc (.cells zero6 32)).alloc (.cells zero6 32)):=⟨_,rfl⟩
 have hb1:Below w.heap.size w w1:=by rw[Hw1.out];exact((Below.refl _ _).alloc (Nat.le_refl _) _).alloc (by simp) _
 have hk2:IsBlk w1 w.heap.size 32 zero6:=by rw[Hw1.out];exact(IsBlk.laid _ _ _).alloc _
 have hk3:IsBlk w1 (w.heap.size+1) 32 zero6:=by rw[Hw1.out];exact blk_new (by simp)
 have hsz:w1.heap.size=w.heap.size+2:=by rw[Hw1.out];simp
 have Hsz:=Lhd hsz
 have Hb1:=Lhd hb1
 have Hk2:=Lhd hk2
 have Hk3:=Lhd hk3
 have Hz:=Lhd hz
 have H1:=Lhd (h.below hb1)
 have hmay:=fun t s' w2 (hW:PAt gp gc gw W s' w2)=>pMay_any gp gc gw W s' t w2 hW
 have Hmay:=Lhd hmay
 have Hmust:=Lhd (fun t s' w2 (hW:PAt gp gc gw W s' w2)=>pMust_any gp gc gw w2.heap.size W s' t w2 hW rfl)
 have hfit0:Fit W m (foldOp W s).2:=by
  rw[foldOp_eq]
  have key:∀ t,(mayP W t s).1=true→Fit W m (mayP W t s).2:=fun t ht=>by
   rcases may_cases W t s with h1|⟨h1,hbad,_⟩
   ·rw[h1] at ht;cases ht
   ·rw[h1];exact Fit.on hf
  split
  ·rename_i h1;exact key _ h1
  ·split
   ·rename_i h1;exact key _ h1
   ·split
    ·rename_i h1;exact key _ h1
    ·unfold mustP mustP
     show Fit W m (if _ then _ else _)
     split
     ·rename_i h1;exact key _ h1
     ·exact .inl rfl
 have Hfit0:=Lhd hfit0
 clear hz hb1 hk2 hk3 hsz h hf hmay hfit0
 have hfin:=foldP_eq W E s
 generalize foldP W E s=fin at *
 have Hfin:=Lhd hfin
 clear hfin
 go_enter Tryz.func219,Tryz.ntmps219
 go_upto_block 0 with (fail)
 rw[← Hw1.out]
 go_cut [] (fun wr=>Folding gp gc gw W s w wr)
 case first =>
  obtain⟨x0,x1,x2,x3,x4,x5,xl⟩:=cells6 Hk3.out
  rcases may_cases W (str [99,111,117,110,116]) s with h1|⟨h1,_,_⟩
  ·have hm1:=Hmay.out (str [99,111,117,110,116]) s w1 H1.out
   rw[h1] at hm1
   simp only[str] at hm1
   have Hm1:=Lhd hm1
   have Hh1:=Lhd h1
   clear hm1 h1
   go_wp2_with (fail)
   refine Hm1.out.mono ?_
   rintro e w2 ⟨rfl,hP2,hB2⟩
   have H2:=Lhd (And.intro hP2 hB2)
   clear hP2 hB2
   rcases may_cases W (str [115,117,109]) s with h1|⟨h1,_,_⟩
   ·have hm1:=Hmay.out (str [115,117,109]) s w2 H2.out.1
    rw[h1] at hm1
    simp only[str] at hm1
    have Hm2:=Lhd hm1
    have Hh2:=Lhd h1
    clear hm1 h1
    go_wp2_with (fail)
    refine Hm2.out.mono ?_
    rintro e w3 ⟨rfl,hP2,hB2⟩
    have H3:=Lhd (And.intro hP2 (H2.out.2.trans' hB2))
    clear hP2 hB2
    rcases may_cases W (str [109,105,110]) s with h1|⟨h1,_,_⟩
    ·have hm1:=Hmay.out (str [109,105,110]) s w3 H3.out.1
     rw[h1] at hm1
     simp only[str] at hm1
     have Hm3:=Lhd hm1
     have hfo:foldOp W s=(24,mustP W [str [109,97,120]] s):=by rw[foldOp_eq];simp[Hh1.out,Hh2.out,h1]
     have Hfo:=Lhd hfo
     clear hm1 h1 hfo
     go_wp2_with (fail)
     refine Hm3.out.mono ?_
     rintro e w4 ⟨rfl,hP2,hB2⟩
     have H4:=Lhd (And.intro hP2 (H3.out.2.trans' hB2))
     have hmu:=Hmust.out (str [109,97,120]) s w4 hP2
     have hm5:=mustP W [str [109,97,120]] s
     generalize mustP W [str [109,97,120]] s=sm at *
     simp only[str] at hmu
     have Hmu:=Lhd hmu
     clear hP2 hB2 hmu hm5
     go_wp2_with (fail)
     refine Hmu.out.mono ?_
     rintro e w5 ⟨rfl,hP,hB⟩
     have hB:=H4.out.2.trans' hB
     obtain⟨y0,y1,y2,y3,y4,y5,yl⟩:=cells6 (on2_blk Hk3.out hB (by have:=Hz.out;omega))
     have f3:=(on2_blk Hk3.out hB (by have:=Hz.out;omega)).frozen
     have H:=Lhd (folding_of Hfo.out Hz.out Hb1.out Hk2.out Hk3.out hP hB)
     clear hP hB
     go_wp2
     go_meet
     exact H.out
    ·have hm1:=Hmay.out (str [109,105,110]) s w3 H3.out.1
     rw[h1] at hm1
     simp only[str] at hm1
     have Hm:=Lhd hm1
     have hfo:foldOp W s=(23,s.on):=by rw[foldOp_eq];simp[Hh1.out,Hh2.out,h1]
     have Hfo:=Lhd hfo
     clear hm1 hfo h1
     go_wp2_with (fail)
     refine Hm.out.mono ?_
     rintro e w9 ⟨rfl,hP,hB⟩
     have hB:=H3.out.2.trans' hB
     obtain⟨y0,y1,y2,y3,y4,y5,yl⟩:=cells6 (on2_blk Hk3.out hB (by have:=Hz.out;omega))
     have f3:=(on2_blk Hk3.out hB (by have:=Hz.out;omega)).frozen
     have H:=Lhd (folding_of Hfo.out Hz.out Hb1.out Hk2.out Hk3.out hP hB)
     clear hP hB
     go_wp2
     go_meet
     exact H.out
   ·have hm1:=Hmay.out (str [115,117,109]) s w2 H2.out.1
    rw[h1] at hm1
    simp only[str] at hm1
    have Hm:=Lhd hm1
    have hfo:foldOp W s=(22,s.on):=by rw[foldOp_eq];simp[Hh1.out,h1]
    have Hfo:=Lhd hfo
    clear hm1 hfo h1
    go_wp2_with (fail)
    refine Hm.out.mono ?_
    rintro e w9 ⟨rfl,hP,hB⟩
    have hB:=H2.out.2.trans' hB
    obtain⟨y0,y1,y2,y3,y4,y5,yl⟩:=cells6 (on2_blk Hk3.out hB (by have:=Hz.out;omega))
    have f3:=(on2_blk Hk3.out hB (by have:=Hz.out;omega)).frozen
    have H:=Lhd (folding_of Hfo.out Hz.out Hb1.out Hk2.out Hk3.out hP hB)
    clear hP hB
    go_wp2
    go_meet
    exact H.out
  ·have hm1:=Hmay.out (str [99,111,117,110,116]) s w1 H1.out
   rw[h1] at hm1
   simp only[str] at hm1
   have Hm:=Lhd hm1
   have hfo:foldOp W s=(21,s.on):=by rw[foldOp_eq];simp[h1]
   have Hfo:=Lhd hfo
   clear hm1 hfo h1
   go_wp2_with (fail)
   refine Hm.out.mono ?_
   rintro e w9 ⟨rfl,hP,hB⟩
   obtain⟨y0,y1,y2,y3,y4,y5,yl⟩:=cells6 (on2_blk Hk3.out hB (by have:=Hz.out;omega))
   have f3:=(on2_blk Hk3.out hB (by have:=Hz.out;omega)).frozen
   have H:=Lhd (folding_of Hfo.out Hz.out Hb1.out Hk2.out Hk3.out hP hB)
   clear hP hB
   go_wp2
   go_meet
   exact H.out
 case rest =>
  have H2:=Lhd hcut
  clear hcut
  have Hmu40:Hid (∀ s' w2,PAt gp gc gw W s' w2→Calls Tryz.prog 76 #[.pointer (some ⟨gp,0,none⟩),.slice (some ⟨w2.heap.size,0,none⟩) 1 1] (w2.alloc (.cells #[.string ⟨#[40]⟩] 9)) fun e w'=>e=.returned (.tuple #[])∧PAt gp gc gw W (mustP W [str [40]] s') w'∧But (On2 gp gc) w2 w'):=Lhd (Hmust.out (str [40]))
  have Hmu41:Hid (∀ s' g w2,PAt gp gc gw W s' w2→g=w2.heap.size→Calls Tryz.prog 76 #[.pointer (some ⟨gp,0,none⟩),.slice (some ⟨g,0,none⟩) 1 1] (w2.alloc (.cells #[.string ⟨#[41]⟩] 9)) fun e w'=>e=.returned (.tuple #[])∧PAt gp gc gw W (mustP W [str [41]] s') w'∧But (On2 gp gc) w2 w'):=Lhd (fun s' g w2 hW hg=>pMust_any gp gc gw g W s' (str [41]) w2 hW hg)
  have Hmu58:Hid (∀ s' g w2,PAt gp gc gw W s' w2→g=w2.heap.size→Calls Tryz.prog 76 #[.pointer (some ⟨gp,0,none⟩),.slice (some ⟨g,0,none⟩) 1 1] (w2.alloc (.cells #[.string ⟨#[58]⟩] 9)) fun e w'=>e=.returned (.tuple #[])∧PAt gp gc gw W (mustP W [str [58]] s') w'∧But (On2 gp gc) w2 w'):=Lhd (fun s' g w2 hW hg=>pMust_any gp gc gw g W s' (str [58]) w2 hW hg)
  have Hent:=Lhd (fun s' w2 (hW:PAt gp gc gw W s' w2)=>pEnter_any gp gc gw W s' w2 hW)
  have Hlv:=Lhd (fun s' w2 (hW:PAt gp gc gw W s' w2)=>pLeave_any gp gc gw W s' w2 hW)
  have Hrw:=Lhd (fun s' w2 (hW:PAt gp gc gw W s' w2)=>pRows_any gp gc gw W s' w2 hW)
  have Hwh:=Lhd (fun s' w2 (hW:PAt gp gc gw W s' w2) (hf:Fit W m s')=>pWhere_any gp gc gw W E m hE s' w2 hW hf)
  have HE:=Lhd hE
  have HUE:=Lhd hUE
  clear hE hUE Hmay Hmust
  have hfo:=foldOp_bd W s
  have Hfo:=Lhd hfo
  clear hfo
  generalize hfop:foldOp W s=fo at *
  have H3:=Lhd (And.intro H2.out.p (And.intro H2.out.b (And.intro H2.out.k2 H2.out.k3)))
  rw[hfop] at H3
  clear H2 hfop
  obtain⟨op,so⟩:=fo
  have hfo:0≤op∧op≤100:=Hfo.out
  have Hfob:=Lhd hfo
  have hok:okS (rowsP W (enterP (mustP W [str [40]] so))).1.1∧okS (rowsP W (enterP (mustP W [str [40]] so))).1.2:=⟨name_ok H3.out.1 _,name_ok H3.out.1 _⟩
  have hfr:Fit W m (rowsP W (enterP (mustP W [str [40]] so))).2:=(((Hfit0.out.ge (ge_must W _ _)).ge (ge_enter _)).ge (up_rows W _))
  have hrc:=fun w2 hW=>Hrw.out (enterP (mustP W [str [40]] so)) w2 hW
  clear Hrw Hfo hfo
  generalize rowsP W (enterP (mustP W [str [40]] so))=r at *
  obtain⟨⟨nm,sc⟩,sr⟩:=r
  simp only at hok hfr hrc
  have Hrc:=Lhd hrc
  have Hok:=Lhd hok
  have hac:=fun w2 hW=>Hwh.out sr w2 hW hfr
  have hfa:Fit W m (whereP W E sr).2:=hfr.ge (up_where W HUE.out sr)
  clear hrc hok Hwh
  generalize whereP W E sr=a at *
  obtain⟨ax,sa⟩:=a
  simp only at hfa hac
  have Hac:=Lhd hac
  have Hfa:=Lhd hfa
  clear hac hfa hfr
  go_wp2_with (fail)
  refine(Hmu40.out _ _ H3.out.1).mono ?_
  rintro e w4 ⟨rfl,hP,hB⟩
  have H4:=Lhd (And.intro hP hB)
  clear hP hB
  go_wp2_with (fail)
  refine(Hent.out _ _ H4.out.1).mono ?_
  rintro e w5 ⟨rfl,hP,hB⟩
  have H5:=Lhd (And.intro hP (H4.out.2.trans' hB))
  clear hP hB
  go_wp2_with (fail)
  refine(Hrc.out _ H5.out.1).mono ?_
  rintro e w6 ⟨rfl,hP,hB⟩
  have hB6:=H5.out.2.trans' hB
  have hk36:=on2_blk H3.out.2.2.2 hB6 (by have:=Hz.out;omega)
  obtain⟨x0,x1,x2,x3,x4,x5,xl⟩:=cells6 hk36
  have f36:=hk36.frozen
  have H6:=Lhd (And.intro hP (And.intro (H3.out.2.1.trans' hB6) (And.intro (on2_blk H3.out.2.2.1 hB6 (by have:=Hz.out;omega)) hk36)))
  clear hP hB hB6 hk36
  go_wp2_with (fail)
  rw[lay2_eq]
  have hb7:=lay2_but w6 (w.heap.size+1) 3 4 (.string nm) (.string sc)
  have hk7:IsBlk (lay2 w6 (w.heap.size+1) 3 4 (.string nm) (.string sc)) (w.heap.size+1) 32 #[.int .i64 op,.int .i64 0,.string ⟨#[]⟩,.string nm,.string sc,.slice none 0 0]:=(H6.out.2.2.2.stored 3 (.string nm)).stored 4 (.string sc)
  generalize lay2 w6 (w.heap.size+1) 3 4 (.string nm) (.string sc)=w7 at *
  have hk72:=H6.out.2.2.1.as_was (hb7.block _ H6.out.2.2.1.lt (by omega))
  have H7:=Lhd (And.intro (H6.out.1.elsewhere hb7 (by have:=Hz.out;omega)) (And.intro (H6.out.2.1.trans hb7 (fun i hi=>.inr (by omega))) (And.intro hk72 hk7)))
  clear hb7 hk7 hk72 x0 x1 x2 x3 x4 x5 xl f36
  refine(Hac.out _ H7.out.1).mono ?_
  rintro e w8 ⟨row,D,rfl,hx,hP,hB⟩
  obtain⟨A2,m2,c2,rfl⟩:=ex_row6 hx
  have hk38:=on2_blk H7.out.2.2.2 hB (by have:=Hz.out;omega)
  obtain⟨x0,x1,x2,x3,x4,x5,xl⟩:=cells6 hk38
  have f38:=hk38.frozen
  have hlt38:=hk38.lt
  have hs7:=H7.out.2.2.2.lt
  have hb8:=(But.refl (fun k=>k=w.heap.size+1) w8).setCell (p:=⟨w.heap.size+1,5,none⟩) (.inl rfl) (.slice (some ⟨w8.heap.size,0,none⟩) 1 1)
  have hk38':IsBlk _ (w.heap.size+1) 32 #[.int .i64 op,.int .i64 0,.string ⟨#[]⟩,.string nm,.string sc,.slice (some ⟨w8.heap.size,0,none⟩) 1 1]:=hk38.stored 5 (.slice (some ⟨w8.heap.size,0,none⟩) 1 1)
  have hk28:=on2_blk H7.out.2.2.1 hB (by have:=Hz.out;omega)
  have hk28':=hk28.as_was (hb8.block _ hk28.lt (by omega))
  have hP8:=hP.elsewhere hb8 (by have:=Hz.out;omega)
  have hB8:=(H7.out.2.1.trans' hB).trans hb8 (fun i hi=>.inr (by omega))
  have hx8:=hx.kept (Kept.of_but hb8 fun k (hk:w7.heap.size≤k) e=>by omega)
  obtain⟨w8',Hw8'⟩:∃ w8',Hid (w8'=w8.setCell ⟨w.heap.size+1,5,none⟩ (.slice (some ⟨w8.heap.size,0,none⟩) 1 1)):=⟨_,rfl⟩
  have hz8:w8'.heap.size=w8.heap.size:=by rw[Hw8'.out];simp[World.setCell]
  rw[← Hw8'.out] at hk38' hk28' hP8 hB8 hx8
  have hs8:=hB.size
  have hlit:=exs_lit (F:=Fr w1) (d:=D) (n:=1) (g:=w8.heap.size) (w:=w8') 32 [[.int .i64 ax.op,.int .i64 ax.n,.string ax.s,.string ax.name,.string ax.src,.slice A2 m2 c2]] [ax] hz8.symm (show w1.heap.size≤w8.heap.size by have:=Hsz.out;omega) rfl (by omega) rfl (fun k r x h1 h2=>by
   rcases k with _|k
   ·simp at h1 h2
    subst h1 h2
    exact ExAt.conv (fun k (hk:w7.heap.size≤k)=>by have:=Hsz.out;show w1.heap.size≤k;omega) (Kept.refl _ _) D (Nat.le_refl _) hx8
   ·simp at h1)
  simp only[List.flatten_cons,List.flatten_nil,List.append_nil] at hlit
  have hal:=(Below.refl w8'.heap.size w8').alloc (Nat.le_refl _) (.cells #[.int .i64 ax.op,.int .i64 ax.n,.string ax.s,.string ax.name,.string ax.src,.slice A2 m2 c2] 32)
  have hown:(w8'.alloc (.cells #[.int .i64 ax.op,.int .i64 ax.n,.string ax.s,.string ax.name,.string ax.src,.slice A2 m2 c2] 32)).ownsRow w8'.heap.size 32 6 (.slice (some ⟨w8'.heap.size,0,none⟩) 1 1) 1 [[.int .i64 ax.op,.int .i64 ax.n,.string ax.s,.string ax.name,.string ax.src,.slice A2 m2 c2]].flatten:=World.ownsRow_lit (base:=w8'.heap.size) (e:=32) (size:=6) w8' #[.int .i64 ax.op,.int .i64 ax.n,.string ax.s,.string ax.name,.string ax.src,.slice A2 m2 c2] 1 (Nat.le_refl _) (by unfold maxLen;omega) rfl
  rw[hz8] at hown
  have hx9:=ExAt.turn (F':=fun b=>w1.heap.size≤b∧b≠w8.heap.size) (fun k hk (hf:w7.heap.size≤k)=>by have:=Hsz.out;constructor<;>omega) (Kept.of_below hal) D (Nat.le_refl _) hx8
  obtain⟨w9,Hw9⟩:∃ w9,Hid (w9=w8'.alloc (.cells #[.int .i64 ax.op,.int .i64 ax.n,.string ax.s,.string ax.name,.string ax.src,.slice A2 m2 c2] 32)):=⟨_,rfl⟩
  have hz9:w9.heap.size=w8.heap.size+1:=by rw[Hw9.out];simp[hz8]
  have hP9:=hP8.below hal
  have hB9:=hB8.trans' (But.of_below hal)
  have hk29:=hk28'.as_was (hal.block _ hk28'.lt)
  have hk39:=hk38'.as_was (hal.block _ hk38'.lt)
  rw[← Hw9.out] at hlit hown hx9 hP9 hB9 hk29 hk39
  have hzz:w8.heap.size<w9.heap.size∧w.heap.size+1<w8.heap.size:=⟨by omega,hlt38⟩
  have H9:=Lhd (And.intro hP9 (And.intro hB9 (And.intro hk29 (And.intro hk39 (And.intro hlit (And.intro hown (And.intro hx9 (And.intro hzz hz9))))))))
  clear hx hP hB hk38 hlit hal hown hx8 hz8 hlt38 hP8 hB8 hk28 hk28' hk38' hb8 hk39 hk29 hP9 hB9 hx9 hz9 hzz hs7 hs8
  rcases Classical.em (op=21) with h0|h0
  ·subst h0
   have hf:=Hfin.out
   rw[if_pos rfl] at hf
   subst hf
   go_wp2_with (fail)
   rw[← Hw8'.out,← Hw9.out]
   refine(Hmu41.out _ _ _ H9.out.1 H9.out.2.2.2.2.2.2.2.2.symm).mono ?_
   rintro e w10 ⟨rfl,hP,hB⟩
   have H10:=Lhd (And.intro hP hB)
   clear hP hB
   go_wp2_with (fail)
   refine(Hlv.out _ _ H10.out.1).mono ?_
   rintro e w11 ⟨rfl,hP,hB⟩
   have hB11:=H10.out.2.trans' hB
   have hk2:=on2_blk H9.out.2.2.1 hB11 (by have:=Hz.out;omega)
   have hk3:=on2_blk H9.out.2.2.2.1 hB11 (by have:=Hz.out;omega)
   obtain⟨x0,x1,x2,x3,x4,x5,xl⟩:=cells6 hk2
   obtain⟨y0,y1,y2,y3,y4,y5,yl⟩:=cells6 hk3
   have f2:=hk2.frozen
   have hx:=fold_ex (op:=21) (by decide) (by decide) Hok.out.1 Hok.out.2 (ExsAt.kept H9.out.2.2.2.2.1 (fr_on2 hB11 (fun k (hk:w1.heap.size≤k)=>by have:=Hz.out;have:=Hsz.out;omega)))
   have H:=Lhd (gives_of (x:=.mk 21 0 nil0 nm sc [ax]) (w3:=w1) hx hP (H9.out.2.1.trans' hB11) hk2 (Nat.le_refl _) (by have:=Hsz.out;omega) Hz.out)
   clear hP hB hB11 hk2 hk3 hx
   go_wp2
   rw[lay6_eq]
   exact bodyPost_ret (ret_ex Tryz.results219 rfl H.out.1 rfl) rfl H.out.2
  ·have q0:(op !=21)=true:=by simpa using h0
   have hf:=Hfin.out
   rw[if_neg h0] at hf
   subst hf
   have H0:=Lhd h0
   clear h0
   go_wp2_with (fail)
   rw[← Hw8'.out,← Hw9.out]
   refine(Hmu58.out _ _ _ H9.out.1 H9.out.2.2.2.2.2.2.2.2.symm).mono ?_
   rintro e w10 ⟨rfl,hP,hB⟩
   have hfit:=Hfa.out.ge (ge_must W (str [58]) sa)
   generalize mustP W [str [58]] sa=s10 at *
   have hec:=fun w2 hW=>HE.out s10 w2 hW hfit
   generalize E s10=b at *
   obtain⟨bx,sb⟩:=b
   simp only at hec
   have Hec:=Lhd hec
   have hk3:=on2_blk H9.out.2.2.2.1 hB (by have:=Hz.out;omega)
   obtain⟨y0,y1,y2,y3,y4,y5,yl⟩:=cells6 hk3
   have hd:PAt gp gc gw W s10 w10.drew:=hP.below (Below.refl _ _).drew
   have hBd:=hB.drew
   have hkd:IsBlk w10.drew (w.heap.size+1) 32 #[.int .i64 op,.int .i64 0,.string ⟨#[]⟩,.string nm,.string sc,.slice (some ⟨w8.heap.size,0,none⟩) 1 1]:=hk3
   have hod:=own_but H9.out.2.2.2.2.2.1 hBd (fun g hg e=>by
    have h1:=(H9.out.2.2.2.2.2.1.lt g hg).1
    have:=Hz.out;have:=H9.out.2.2.2.2.2.2.2.1
    rcases e with e|e<;>omega)
   have Hd:=Lhd (And.intro hd (And.intro hkd (And.intro hod hBd)))
   clear hP hB hk3 hd hBd hkd hod hec hfit
   have hst:∀ (w11:World) (D11:Nat) (A11:Option Addr) (m11 c11:Nat),ExAt (Fr w10.drew) D11 w11 [.int .i64 bx.op,.int .i64 bx.n,.string bx.s,.string bx.name,.string bx.src,.slice A11 m11 c11] bx→But (On2 gp gc) w10.drew w11 →
     IsBlk w11 (w.heap.size+1) 32 #[.int .i64 op,.int .i64 0,.string ⟨#[]⟩,.string nm,.string sc,.slice (some ⟨w8.heap.size,0,none⟩) 1 1] ∧
     (w11.alloc (.cells #[.int .i64 bx.op,.int .i64 bx.n,.string bx.s,.string bx.name,.string bx.src,.slice A11 m11 c11] 32)).ownsRow w8.heap.size 32 6 (.slice (some ⟨w8.heap.size,0,none⟩) 1 1) 1 [[.int .i64 ax.op,.int .i64 ax.n,.string ax.s,.string ax.name,.string ax.src,.slice A2 m2 c2]].flatten ∧
     RowsAt (w11.alloc (.cells #[.int .i64 bx.op,.int .i64 bx.n,.string bx.s,.string bx.name,.string bx.src,.slice A11 m11 c11] 32)) 6 (some ⟨w11.heap.size,0,none⟩) 1 1 [[.int .i64 bx.op,.int .i64 bx.n,.string bx.s,.string bx.name,.string bx.src,.slice A11 m11 c11]] ∧
     (∀ r∈[[Value.int .i64 bx.op,.int .i64 bx.n,.string bx.s,.string bx.name,.string bx.src,.slice A11 m11 c11]],r.length=6)∧(∀ r∈[[Value.int .i64 bx.op,.int .i64 bx.n,.string bx.s,.string bx.name,.string bx.src,.slice A11 m11 c11]],∀ u∈r,u.oneCell'=true) ∧
     IsBlk (w11.alloc (.cells #[.int .i64 bx.op,.int .i64 bx.n,.string bx.s,.string bx.name,.string bx.src,.slice A11 m11 c11] 32)) (w.heap.size+1) 32 #[.int .i64 op,.int .i64 0,.string ⟨#[]⟩,.string nm,.string sc,.slice (some ⟨w8.heap.size,0,none⟩) 1 1] ∧
     w8.heap.size≤(w11.alloc (.cells #[.int .i64 bx.op,.int .i64 bx.n,.string bx.s,.string bx.name,.string bx.src,.slice A11 m11 c11] 32)).heap.size∧ExAt (fun b=>w1.heap.size≤b∧b≠w8.heap.size) D (w11.alloc (.cells #[.int .i64 bx.op,.int .i64 bx.n,.string bx.s,.string bx.name,.string bx.src,.slice A11 m11 c11] 32)) [.int .i64 ax.op,.int .i64 ax.n,.string ax.s,.string ax.name,.string ax.src,.slice A2 m2 c2] ax∧ExAt (fun b=>w1.heap.size≤b∧b≠w8.heap.size) D11 (w11.alloc (.cells #[.int .i64 bx.op,.int .i64 bx.n,.string bx.s,.string bx.name,.string bx.src,.slice A11 m11 c11] 32)) [.int .i64 bx.op,.int .i64 bx.n,.string bx.s,.string bx.name,.string bx.src,.slice A11 m11 c11] bx∧IsBlk (w11.alloc (.cells #[.int .i64 bx.op,.int .i64 bx.n,.string bx.s,.string bx.name,.string bx.src,.slice A11 m11 c11] 32)) w.heap.size 32 zero6∧But (On2 gp gc) w (w11.alloc (.cells #[.int .i64 bx.op,.int .i64 bx.n,.string bx.s,.string bx.name,.string bx.src,.slice A11 m11 c11] 32)):=by
    intro w11 D11 A11 m11 c11 hx11 hB11
    have hk311:=on2_blk Hd.out.2.1 hB11 (by have:=Hz.out;omega)
    refine⟨hk311,own_below (own_but Hd.out.2.2.1 hB11 (fun g hg e=>?_)) ((Below.refl w11.heap.size w11).alloc (Nat.le_refl _) _),RowsAt.lit' _ _ 1 rfl rfl (by simp) rfl (by unfold maxLen;omega),by simp,?_,hk311.alloc _,?_,?_,?_,?_,?_⟩
    ·have h1:=(Hd.out.2.2.1.lt g hg).1
     have:=Hz.out;have:=H9.out.2.2.2.2.2.2.2.1
     rcases e with e|e<;>omega
    ·intro r hr
     simp only[List.mem_singleton] at hr
     subst hr
     exact ExAt.one hx11
    ·have h1:=Hd.out.2.2.2.size;have h2:=hB11.size;have:=H9.out.2.2.2.2.2.2.2.1
     simp
     omega
    ·exact((H9.out.2.2.2.2.2.2.1.kept (fr_on2 Hd.out.2.2.2 (fun k hk=>by have:=Hz.out;have:=Hsz.out;omega))).kept (fr_on2 hB11 (fun k hk=>by have:=Hz.out;have:=Hsz.out;omega))).below ((Below.refl w11.heap.size w11).alloc (Nat.le_refl _) _)
    ·exact ExAt.conv (fun k (hk:w10.drew.heap.size≤k)=>by have h1:=Hd.out.2.2.2.size;have:=H9.out.2.2.2.2.2.2.2.1;have:=Hsz.out;constructor<;>omega) (Kept.of_below ((Below.refl w11.heap.size w11).alloc (Nat.le_refl _) _)) D11 (Nat.le_refl _) hx11
    ·exact(on2_blk (on2_blk H9.out.2.2.1 Hd.out.2.2.2 (by have:=Hz.out;omega)) hB11 (by have:=Hz.out;omega)).alloc _
    ·exact(H9.out.2.1.trans' (Hd.out.2.2.2.trans' hB11)).alloc _
   have Hst:=Lhd hst
   clear hst
   have hmx:1+1≤maxLen:=by unfold maxLen;omega
   go_upto_region 16 with (fail)
   go_region_law (first
    | (refine stepAppP (base:=w8.heap.size) (xs:=[[.int .i64 ax.op,.int .i64 ax.n,.string ax.s,.string ax.name,.string ax.src,.slice A2 m2 c2]]) (news:=[[.int .i64 bx.op,.int .i64 bx.n,.string bx.s,.string bx.name,.string bx.src,.slice A11 m11 c11]]) rfl rfl tyExp rfl s2 rfl s3 s4 s5 hmx (by omega) s7 ?_;intro A6 c6 w6 hown6 hbut6 hf6;have hk36:=s6.as_was (hbut6.block _ s6.lt (by have:=H9.out.2.2.2.2.2.2.2.1;simp;omega));obtain⟨v0,v1,v2,v3,v4,v5,vl⟩:=cells6 hk36;have f36:=hk36.frozen)
    | (go_simp;go_at_call 24;refine(Hec.out _ Hd.out.1).mono ?_;rintro e11 w11 ⟨row11,D11,rfl,hx11,hP11,hB11⟩;obtain⟨A11,m11,c11,rfl⟩:=ex_row6 hx11;obtain⟨s1,s2,s3,s4,s5,s6,s7,s8,s9,s10',s11⟩:=Hst.out _ _ _ _ _ hx11 hB11;obtain⟨z0,z1,z2,z3,z4,z5,zl⟩:=cells6 s1))
   all_goals
    have hz9:=H9.out.2.2.2.2.2.2.2.1
    have hb6:But (fun k=>k=w8.heap.size) _ w6:=hbut6.mono (fun i hi=>.inl (by simpa using hi.symm))
    have hP6:=(hP11.below ((Below.refl w11.heap.size w11).alloc (Nat.le_refl _) (.cells #[.int .i64 bx.op,.int .i64 bx.n,.string bx.s,.string bx.name,.string bx.src,.slice A11 m11 c11] 32))).elsewhere hb6 (by have:=Hz.out;omega)
    have hk26:=s10'.as_was (hb6.block _ s10'.lt (by omega))
    have hB6:=s11.trans hb6 (fun i hi=>.inr (by omega))
    have hl6:=two_grown hown6 hb6 hf6 s8 s9 (by have:=Hsz.out;omega) (by have:=s10'.lt;have:=Hsz.out;omega)
    have hb7:=(But.refl (fun k=>k=w.heap.size+1) w6).setCell (p:=⟨w.heap.size+1,5,none⟩) (.inl rfl) (.slice A6 2 c6)
    have hk37:IsBlk _ (w.heap.size+1) 32 #[.int .i64 op,.int .i64 0,.string ⟨#[]⟩,.string nm,.string sc,.slice A6 2 c6]:=hk36.stored 5 (.slice A6 2 c6)
    obtain⟨w7',Hw7'⟩:∃ w7',Hid (w7'=w6.setCell ⟨w.heap.size+1,5,none⟩ (.slice A6 2 c6)):=⟨_,rfl⟩
    have hz7:w6.heap.size=w7'.heap.size:=by rw[Hw7'.out];simp[World.setCell]
    have hgg:gp<w.heap.size+1∧gc<w.heap.size+1∧gw<w.heap.size+1:=by have:=Hz.out;omega
    have hP7:=hP6.elsewhere hb7 hgg
    have hk27:=hk26.as_was (hb7.block _ hk26.lt (by omega))
    have hB7:=hB6.trans hb7 (fun i hi=>.inr (by omega))
    have hl7:=ExsAt.kept hl6 (Kept.of_but hb7 fun k (hk:w1.heap.size≤k) e=>by have:=Hsz.out;omega)
    rw[← Hw7'.out] at hP7 hk27 hB7 hl7 hk37
    have H7':=Lhd (And.intro hP7 (And.intro hB7 (And.intro hk27 (And.intro hk37 (And.intro hl7 hz7)))))
    clear hb7 hk37 hz7 hgg hP7 hk27 hB7 hl7 hb6 hP6 hk26 hB6 hl6 hz9 s1 s2 s3 s4 s5 s6 s7 s8 s9 s10' s11 hk36 hown6 hbut6 hf6 hx11 hP11 hB11 z0 z1 z2 z3 z4 z5 zl y0 y1 y2 y3 y4 y5 yl
    go_wp2_with (fail)
    rw[← Hw7'.out]
    refine(Hmu41.out _ _ _ H7'.out.1 H7'.out.2.2.2.2.2).mono ?_
    rintro e w13 ⟨rfl,hP,hB⟩
    have H13:=Lhd (And.intro hP hB)
    clear hP hB v0 v1 v2 v3 v4 v5 vl f36
    go_wp2_with (fail)
    refine(Hlv.out _ _ H13.out.1).mono ?_
    rintro e w14 ⟨rfl,hP,hB⟩
    have hB14:=H13.out.2.trans' hB
    have hk2:=on2_blk H7'.out.2.2.1 hB14 (by have:=Hz.out;omega)
    have hk3:=on2_blk H7'.out.2.2.2.1 hB14 (by have:=Hz.out;omega)
    obtain⟨x0,x1,x2,x3,x4,x5,xl⟩:=cells6 hk2
    obtain⟨y0,y1,y2,y3,y4,y5,yl⟩:=cells6 hk3
    have f2:=hk2.frozen
    have hx:=fold_ex (op:=op) Hfob.out.1 Hfob.out.2 Hok.out.1 Hok.out.2 (ExsAt.kept H7'.out.2.2.2.2.1 (fr_on2 hB14 (fun k (hk:w1.heap.size≤k)=>by have:=Hz.out;have:=Hsz.out;omega)))
    have H:=Lhd (gives_of (x:=.mk op 0 nil0 nm sc [ax,bx]) (w3:=w1) hx hP (H7'.out.2.1.trans' hB14) hk2 (Nat.le_refl _) (by have:=Hsz.out;omega) Hz.out)
    clear hP hB hB14 hk2 hk3 hx
    go_wp2
    rw[lay6_eq]
    exact bodyPost_ret (ret_ex Tryz.results219 rfl H.out.1 rfl) rfl H.out.2
end Go.Proofs.YtdgapmnojmhllaaGreatDoor

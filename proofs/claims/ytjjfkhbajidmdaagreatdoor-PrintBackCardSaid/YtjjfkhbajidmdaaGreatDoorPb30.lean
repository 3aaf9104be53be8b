/- Parts of this proof, one behind the other: ParN0, ParN, ParO, ParR0. -/
import Derived.Test.YtjjfkhbajidmdaaGreatDoorPb29
import Derived.Test.YtjjfkhbajidmdaaGreatDoorPb26
set_option maxRecDepth 1000000
set_option maxHeartbeats 40000000
namespace Go.Proofs.YtjjfkhbajidmdaaGreatDoor
open Go.RowKit Go.Afx
structure fH (n0 gl:Nat) (w:World) (A:Option Addr) (c:Nat) (rows:List (List Value)) (D:Nat) (xs:List Ex):Prop where
 blk:af w gl 42 #[.slice A xs.length c]
 own:w.ownsRow n0 55 6 (.slice A xs.length c) xs.length rows.flatten
 len:rows.length=xs.length
 at_:∀ (k:Nat) (r:List Value) (x:Ex),rows[k]?=some r→xs[k]?=some x→r.length=6∧aC (fun b=>n0≤b∧A.map (·.block)≠some b) D w r x
theorem fH.low {n0 gl:Nat} {w:World} {A:Option Addr} {c:Nat} {rows:List (List Value)} {D:Nat} {xs:List Ex} (h:fH n0 gl w A c rows D xs):∀ a,A=some a→n0≤a.block∧a.block<w.heap.size:=by
 intro a ha;subst ha;exact h.own.lt a.block rfl
theorem fH.wid {n0 gl:Nat} {w:World} {A:Option Addr} {c:Nat} {rows:List (List Value)} {D:Nat} {xs:List Ex} (h:fH n0 gl w A c rows D xs):∀ r∈rows,r.length=6:=by
 intro r hr
 obtain⟨k,hk,rfl⟩:=List.mem_iff_getElem.1 hr
 exact(h.at_ k _ _ (List.getElem?_eq_getElem hk) (List.getElem?_eq_getElem (by have:=h.len;omega))).1
theorem fH.keep {n0 gl:Nat} {w w':World} {A:Option Addr} {c:Nat} {rows:List (List Value)} {D:Nat} {xs:List Ex} {S:Nat→Prop} (h:fH n0 gl w A c rows D xs) (hb:But S w w') (hS:∀ k,S k→k≠gl∧k<n0):fH n0 gl w' A c rows D xs :=
 ⟨h.blk.ag (hb.block _ h.blk.lt fun hs=>(hS _ hs).1 rfl),eP h.own hb (fun g hg hs=>by have:=(h.own.lt g hg).1;have:=(hS g hs).2;omega),h.len,
  fun k r x hr hx=>⟨(h.at_ k r x hr hx).1,(h.at_ k r x hr hx).2.kept (Kept.aN hb fun b hb hs=>by have:=(hS b hs).2;have:=hb.1;omega)⟩⟩
theorem fH.nil_ {n0 gl:Nat} {w:World} (hk:af w gl 42 #[.slice none 0 0]):fH n0 gl w none 0 [] 0 []:=⟨hk,World.ownsRow_nil _ _ _ _,rfl,fun k r x h=>by simp at h⟩
theorem fH.list {n0 gl:Nat} {w:World} {A:Option Addr} {c:Nat} {rows:List (List Value)} {D:Nat} {xs:List Ex} (h:fH n0 gl w A c rows D xs):aO (fun b=>n0≤b) D w A xs.length c xs :=
 ⟨rows,az.kS h.own h.wid h.len,fun a ha _=>(h.low a ha).1,h.len,fun k r x hr hx=>⟨(h.at_ k r x hr hx).1,aC.conv (fun _ h=>h.1) (Kept.refl _ _) D (Nat.le_refl _) (h.at_ k r x hr hx).2⟩⟩
def jU (w:World) (g o:Nat) (v0 v1 v2 v3 v4 v5:Value):World:=(((((w.setCell ⟨g,o,none⟩ v0).setCell ⟨g,o+1,none⟩ v1).setCell ⟨g,o+2,none⟩ v2).setCell ⟨g,o+3,none⟩ v3).setCell ⟨g,o+4,none⟩ v4).setCell ⟨g,o+5,none⟩ v5
theorem KW (w:World) (g o:Nat) (v0 v1 v2 v3 v4 v5:Value):(((((w.setCell ⟨g,o,none⟩ v0).setCell ⟨g,o+1,none⟩ v1).setCell ⟨g,o+2,none⟩ v2).setCell ⟨g,o+3,none⟩ v3).setCell ⟨g,o+4,none⟩ v4).setCell ⟨g,o+5,none⟩ v5=jU w g o v0 v1 v2 v3 v4 v5:=rfl
theorem Jm (w:World) (g o:Nat) (v0 v1 v2 v3 v4 v5:Value):But (fun k=>k=g) w (jU w g o v0 v1 v2 v3 v4 v5):=by
 have h:=But.refl (fun k=>k=g) w
 have h:=h.setCell (p:=⟨g,o,none⟩) (.inl rfl) v0
 have h:=h.setCell (p:=⟨g,o+1,none⟩) (.inl rfl) v1
 have h:=h.setCell (p:=⟨g,o+2,none⟩) (.inl rfl) v2
 have h:=h.setCell (p:=⟨g,o+3,none⟩) (.inl rfl) v3
 have h:=h.setCell (p:=⟨g,o+4,none⟩) (.inl rfl) v4
 exact h.setCell (p:=⟨g,o+5,none⟩) (.inl rfl) v5
theorem abp {α:Type} (l:List α) (a0 a1 a2 a3 a4 a5 v0 v1 v2 v3 v4 v5:α) (o:Nat) (h:l.length=o):(((((((l++[a0,a1,a2,a3,a4,a5]).set o v0).set (o+1) v1).set (o+2) v2).set (o+3) v3).set (o+4) v4).set (o+5) v5)=l++[v0,v1,v2,v3,v4,v5]:=by
 subst h
 simp
theorem QC {w:World} {base:Nat} {T:TypeId} {g n c:Nat} {rows:List (List Value)} {a0 a1 a2 a3 a4 a5:Value} (v0 v1 v2 v3 v4 v5:Value) (h:w.ownsRow base T 6 (.slice (some ⟨g,0,none⟩) (n+1) c) (n+1) (rows++[[a0,a1,a2,a3,a4,a5]]).flatten) (hw:∀ r∈rows,r.length=6) (hl:rows.length=n) :
  (jU w g (n*6) v0 v1 v2 v3 v4 v5).ownsRow base T 6 (.slice (some ⟨g,0,none⟩) (n+1) c) (n+1) (rows++[[v0,v1,v2,v3,v4,v5]]).flatten:=by
 have hlen:rows.flatten.length=n*6:=by rw[qm rows 6 hw,hl]
 have e1:(rows++[[a0,a1,a2,a3,a4,a5]]).flatten=rows.flatten++[a0,a1,a2,a3,a4,a5]:=by simp
 have e2:(rows++[[v0,v1,v2,v3,v4,v5]]).flatten=rows.flatten++[v0,v1,v2,v3,v4,v5]:=by simp
 rw[e1] at h
 rw[e2,← abp rows.flatten a0 a1 a2 a3 a4 a5 v0 v1 v2 v3 v4 v5 (n*6) hlen]
 exact((((((h.stored (n*6) v0).1.stored (n*6+1) v1).1.stored (n*6+2) v2).1.stored (n*6+3) v3).1.stored (n*6+4) v4).1.stored (n*6+5) v5).1
theorem QD {w:World} {base:Nat} {T:TypeId} {A:Option Addr} {n c:Nat} {rows:List (List Value)} {a0 a1 a2 a3 a4 a5:Value} (h:w.ownsRow base T 6 (.slice A (n+1) c) (n+1) (rows++[[a0,a1,a2,a3,a4,a5]]).flatten) (hw:∀ r∈rows,r.length=6) (hl:rows.length=n) :
  ∃ g,A=some ⟨g,0,none⟩∧base≤g∧g<w.heap.size∧n+1≤c∧(∀ i,w.frozen? ⟨g,i,none⟩=false)∧w.cell? ⟨g,n*6,none⟩=some a0∧w.cell? ⟨g,n*6+1,none⟩=some a1∧w.cell? ⟨g,n*6+2,none⟩=some a2∧w.cell? ⟨g,n*6+3,none⟩=some a3∧w.cell? ⟨g,n*6+4,none⟩=some a4∧w.cell? ⟨g,n*6+5,none⟩=some a5:=by
 obtain⟨A',c',e1,hnc⟩:=ownsRow_form h
 obtain⟨g,cap,hv,hb,hg⟩:=h.form (by omega)
 simp only[Value.slice.injEq] at hv e1
 obtain⟨rfl,_,rfl⟩:=hv
 obtain⟨_,_,rfl⟩:=e1
 have Um:∀ r∈rows++[[a0,a1,a2,a3,a4,a5]],r.length=6:=by
  intro r hr
  rcases List.mem_append.1 hr with hr|hr
  ·exact hw r hr
  ·simp only[List.mem_singleton] at hr;subst hr;rfl
 have hat:∀ i,i<6→w.cell? ⟨g,n*6+i,none⟩=[a0,a1,a2,a3,a4,a5][i]?:=fun i hi=>by
  rw[h.cellAt (n*6+i) (by omega),wC _ 6 Um n i hi,List.getElem?_append_right (by omega),hl]
  simp
 exact⟨g,rfl,hb,hg,hnc,h.frozenAt,by simpa using hat 0 (by omega),hat 1 (by omega),hat 2 (by omega),hat 3 (by omega),hat 4 (by omega),hat 5 (by omega)⟩
theorem aW.off {gp gc gw:Nat} {W:aV} {s:au} {w w':World} {S:Nat→Prop} (h:aW gp gc gw W s w) (hb:But S w w') (hS:∀ k,S k→gp≠k∧gc≠k∧gw≠k):aW gp gc gw W s w':=by
 obtain⟨⟨A,n,c,hk2,hl⟩,h1,h2,h3,h4⟩:=h.cu
 exact⟨h.blk.ag (hb.block _ h.blk.lt fun hs=>(hS _ hs).1 rfl),⟨⟨A,n,c,hk2.ag (hb.block _ hk2.lt fun hs=>(hS _ hs).2.1 rfl),hl.kept (Kept.aN hb fun k hf hs=>(hS k hs).2.2 hf.symm)⟩,h1,h2,h3,h4⟩,h.ne,h.nw,Nat.lt_of_lt_of_le h.wl hb.size⟩
abbrev sD:List Value:=[.int .i64 0,.int .i64 0,.string ⟨#[]⟩,.string ⟨#[]⟩,.string ⟨#[]⟩,.slice none 0 0]
structure Grown (gp gc gw n0:Nat) (W:aV) (s':au) (w:World) (xs:List Ex) (x:Ex) (rows:List (List Value)) (row:List Value) (D:Nat) (A6:Option Addr) (c6:Nat) (W6:World):Prop where
 p:aW gp gc gw W s' W6
 own:W6.ownsRow n0 55 6 (.slice A6 (xs.length+1) c6) (xs.length+1) (rows++[sD]).flatten
 old:∀ (k:Nat) (r:List Value) (y:Ex),rows[k]?=some r→xs[k]?=some y→r.length=6∧aC (fun b=>n0≤b∧A6.map (·.block)≠some b) D W6 r y
 ahT:aC (fun b=>n0≤b∧A6.map (·.block)≠some b) D W6 row x
 but:But (fun k=>k=gp∨k=gc∨n0≤k) w W6
def EF (gp gc gl n0:Nat):Nat→Prop:=fun k=>k=gp∨k=gc∨k=gl∨n0≤k
section
variable {gp gc gw gl n0:Nat} {W:aV} {s s':au} {w Wc w5 w6:World} {A:Option Addr} {c D D5:Nat} {rows:List (List Value)} {xs:List Ex} {x:Ex} {row:List Value}
theorem fH.pO (h:fH n0 gl w A c rows D xs) (hb:But (fV gp gc) w w5) (hg:gp<n0∧gc<n0∧gl≠gp∧gl≠gc):fH n0 gl w5 A c rows D xs :=
 h.keep hb fun k hk=>by rcases hk with e|e<;>subst e<;>exact⟨fun e=>by omega,by omega⟩
theorem Grown.late (h:fH n0 gl w A c rows D xs) (hg:gp<n0∧gc<n0∧gw<n0∧gl≠gp∧gl≠gc) (hn:n0≤w.heap.size) (hB:But (fV gp gc) w w5) (hx:aC (Fr w) D5 w5 row x) (hP:aW gp gc gw W s' w5)
  (hal:Below w5.heap.size w5 Wc) {A6:Option Addr} {c6:Nat} (hown:w6.ownsRow n0 55 6 (.slice A6 (xs.length+1) c6) (xs.length+1) (rows++[sD]).flatten)
  (fE:But (fun k=>A.map (·.block)=some k) Wc w6) (hf:∀ a2,A6=some a2→A=some a2∨Wc.heap.size≤a2.block):Grown gp gc gw n0 W s' w xs x rows row (max D D5) A6 c6 w6:=by
 have h':=h.pO hB ⟨hg.1,hg.2.1,hg.2.2.2⟩
 have hlow:∀ k,A.map (·.block)=some k→n0≤k∧k<w.heap.size:=fun k hk=>by
  cases A with
  | none=>cases hk
  | some a =>
   have e:a.block=k:=by simpa using hk
   subst e
   exact h.low a rfl
 have hne:∀ b,b<w5.heap.size→A.map (·.block)≠some b→A6.map (·.block)≠some b:=fun b hb h1 h2=>by
  cases A6 with
  | none=>cases h2
  | some a6 =>
   have e:a6.block=b:=by simpa using h2
   rcases hf a6 rfl with e2|e2
   ·exact h1 (by rw[e2];simpa using e)
   ·have:=hal.size;omega
 have hs:=hB.size
 refine⟨(hP.below hal).off fE fun k hk=>?_,hown,fun k r y hr hy=>⟨(h'.at_ k r y hr hy).1,?_⟩,?_,(hB.mono fun i hi=>.inl (by rcases hi with e|e;exact .inl e;exact .inr (.inl e))).trans (But.of_below hal |>.trans fE (fun i hi=>.inl hi)) fun i hi=>.inl (.inr (.inr (hlow i hi).1))⟩
 ·have:=hlow k hk;omega
 ·have h1:=aC.turn (F':=fun b=>n0≤b∧A6.map (·.block)≠some b∧A.map (·.block)≠some b) (fun k hk hf=>⟨hf.1,hne k hk hf.2,hf.2⟩) (Kept.of_below hal) D (Nat.le_max_left D D5) (h'.at_ k r y hr hy).2
  exact aC.conv (fun _ h=>⟨h.1,h.2.1⟩) (Kept.aN fE fun b hb hk=>hb.2.2 hk) _ (Nat.le_refl _) h1
 ·have h1:=aC.turn (F':=fun b=>n0≤b∧A6.map (·.block)≠some b∧A.map (·.block)≠some b) (fun k hk (hf:w.heap.size≤k)=>⟨by omega,hne k hk (fun e=>by have:=(hlow k e).2;omega),fun e=>by have:=(hlow k e).2;omega⟩) (Kept.of_below hal) D5 (Nat.le_max_right D D5) hx
  exact aC.conv (fun _ h=>⟨h.1,h.2.1⟩) (Kept.aN fE fun b hb hk=>hb.2.2 hk) _ (Nat.le_refl _) h1
end
theorem fH.grown {gp gc gw gl n0:Nat} {W:aV} {s':au} {w w6:World} {xs:List Ex} {x:Ex} {rows:List (List Value)} {D g6 c6:Nat} {A5:Option Addr} {m5 c5:Nat} {cs:Array Value}
  (hG:Grown gp gc gw n0 W s' w xs x rows [.int .i64 x.op,.int .i64 x.n,.string x.s,.string x.name,.string x.src,.slice A5 m5 c5] D (some ⟨g6,0,none⟩) c6 w6) (hk:af w6 gl 42 cs) (hcs:cs.size=1) (hg:gp<n0∧gc<n0∧gw<n0∧gl≠gp∧gl≠gc) (hg2:gl≠gw∧gl<n0) (hw:∀ r∈rows,r.length=6) (hl:rows.length=xs.length) (h6:n0≤g6) :
  aW gp gc gw W s' ((jU w6 g6 (xs.length*6) (.int .i64 x.op) (.int .i64 x.n) (.string x.s) (.string x.name) (.string x.src) (.slice A5 m5 c5)).setCell ⟨gl,0,none⟩ (.slice (some ⟨g6,0,none⟩) (xs.length+1) c6)) ∧
  (∃ A' c' rows' D',fH n0 gl ((jU w6 g6 (xs.length*6) (.int .i64 x.op) (.int .i64 x.n) (.string x.s) (.string x.name) (.string x.src) (.slice A5 m5 c5)).setCell ⟨gl,0,none⟩ (.slice (some ⟨g6,0,none⟩) (xs.length+1) c6)) A' c' rows' D' (xs++[x])) ∧
  But (EF gp gc gl n0) w ((jU w6 g6 (xs.length*6) (.int .i64 x.op) (.int .i64 x.n) (.string x.s) (.string x.name) (.string x.src) (.slice A5 m5 c5)).setCell ⟨gl,0,none⟩ (.slice (some ⟨g6,0,none⟩) (xs.length+1) c6)):=by
 have hb1:=Jm w6 g6 (xs.length*6) (.int .i64 x.op) (.int .i64 x.n) (.string x.s) (.string x.name) (.string x.src) (.slice A5 m5 c5)
 have ho1:=QC (.int .i64 x.op) (.int .i64 x.n) (.string x.s) (.string x.name) (.string x.src) (.slice A5 m5 c5) hG.own hw hl
 have hp1:=hG.p.off hb1 (fun k hk=>by omega)
 have hk1:=hk.ag (hb1.block _ hk.lt (by omega))
 have abq:∀ (k:Nat) (r:List Value) (y:Ex),rows[k]?=some r→xs[k]?=some y→r.length=6∧aC (fun b=>n0≤b∧(some (⟨g6,0,none⟩:Addr)).map (·.block)≠some b) D (jU w6 g6 (xs.length*6) (.int .i64 x.op) (.int .i64 x.n) (.string x.s) (.string x.name) (.string x.src) (.slice A5 m5 c5)) r y:=fun k r y h1 h2=>⟨(hG.old k r y h1 h2).1,(hG.old k r y h1 h2).2.kept (Kept.aN hb1 fun b hb e=>hb.2 (by simp[e]))⟩
 have IE:=hG.ahT.kept (Kept.aN hb1 fun b hb e=>hb.2 (by simp[e]))
 generalize jU w6 g6 (xs.length*6) (.int .i64 x.op) (.int .i64 x.n) (.string x.s) (.string x.name) (.string x.src) (.slice A5 m5 c5)=w7 at *
 have hb2:=(But.refl (fun k=>k=gl) w7).setCell (p:=⟨gl,0,none⟩) (.inl rfl) (.slice (some ⟨g6,0,none⟩) (xs.length+1) c6)
 have hk2:af (w7.setCell ⟨gl,0,none⟩ (.slice (some ⟨g6,0,none⟩) (xs.length+1) c6)) gl 42 #[.slice (some ⟨g6,0,none⟩) (xs.length+1) c6]:=by
  have h:=hk1.stored 0 (.slice (some ⟨g6,0,none⟩) (xs.length+1) c6)
  have e:cs.setIfInBounds 0 (.slice (some ⟨g6,0,none⟩) (xs.length+1) c6)=#[.slice (some ⟨g6,0,none⟩) (xs.length+1) c6]:=by
   apply Array.ext
   ·simpa using hcs
   ·intro i h1 h2
    have:i=0:=by simp at h2;omega
    subst this
    simp
  rw[e] at h
  exact h
 have hlen:(xs++[x]).length=xs.length+1:=by simp
 refine⟨hp1.off hb2 (fun k hk=>by omega),⟨some ⟨g6,0,none⟩,c6,rows++[[.int .i64 x.op,.int .i64 x.n,.string x.s,.string x.name,.string x.src,.slice A5 m5 c5]],D,⟨by rw[hlen];exact hk2,by rw[hlen];exact eP ho1 hb2 (fun g hg3 e=>by have:=(ho1.lt g hg3).1;omega),by simp[hl],fun k r y hr hy=>?_⟩⟩,?_⟩
 ·rcases Nat.lt_trichotomy k xs.length with h|h|h
  ·rw[List.getElem?_append_left (by omega)] at hr hy
   obtain⟨h1,h2⟩:=abq k r y hr hy
   exact⟨h1,h2.kept (Kept.aN hb2 fun b hb e=>by have:=hb.1;omega)⟩
  ·subst h
   rw[List.getElem?_append_right (by omega)] at hr hy
   rw[hl] at hr
   simp at hr hy
   subst hr hy
   exact⟨rfl,IE.kept (Kept.aN hb2 fun b hb e=>by have:=hb.1;omega)⟩
  ·rw[List.getElem?_eq_none (by simp;omega)] at hy
   cases hy
 ·exact((hG.but.mono (fun i hi=>.inl (by rcases hi with e|e|e;exact .inl e;exact .inr (.inl e);exact .inr (.inr (.inr e))))).trans hb1 (fun i hi=>.inl (.inr (.inr (.inr (by omega)))))).trans hb2 (fun i hi=>.inl (.inr (.inr (.inl hi))))
theorem QE {w:World} {p q:Addr} {u v:Value} (h:p.block≠q.block):(w.setCell p u).setCell q v=(w.setCell q v).setCell p u:=by
 unfold World.setCell
 congr 1
 apply Array.ext_getElem?
 intro i
 simp only[Array.getElem?_modify]
 by_cases h1:q.block=i
 ·subst h1
  simp[h]
 ·by_cases h2:p.block=i
  ·subst h2
   simp[h1]
  ·simp[h1,h2]
theorem abr {w:World} {g6 gl o:Nat} {v0 v1 v2 v3 v4 v5 u:Value} (h:g6≠gl) :
  (((((((w.setCell ⟨gl,0,none⟩ u).setCell ⟨g6,o,none⟩ v0).setCell ⟨g6,o+1,none⟩ v1).setCell ⟨g6,o+2,none⟩ v2).setCell ⟨g6,o+3,none⟩ v3).setCell ⟨g6,o+4,none⟩ v4).setCell ⟨g6,o+5,none⟩ v5) =
  (((((((w.setCell ⟨g6,o,none⟩ v0).setCell ⟨g6,o+1,none⟩ v1).setCell ⟨g6,o+2,none⟩ v2).setCell ⟨g6,o+3,none⟩ v3).setCell ⟨g6,o+4,none⟩ v4).setCell ⟨g6,o+5,none⟩ v5).setCell ⟨gl,0,none⟩ u):=by
 have k:∀ (W:World) (i:Nat) (v:Value),(W.setCell ⟨gl,0,none⟩ u).setCell ⟨g6,i,none⟩ v=(W.setCell ⟨g6,i,none⟩ v).setCell ⟨gl,0,none⟩ u:=fun W i v=>QE (fun e=>h e.symm)
 rw[k,k,k,k,k,k]
open Go.RowKit Go.Afx
theorem Un (gp gc gw gl gb n0:Nat) (W:aV) (s:au) (w:World) (A:Option Addr) (c D:Nat) (rows:List (List Value)) (xs:List Ex) (h:aW gp gc gw W s w) (hl:fH n0 gl w A c rows D xs) (hb:af w gb 63 #[.pointer (some ⟨gp,0,none⟩)])
  (hg:gp<n0∧gc<n0∧gw<n0∧gl≠gp∧gl≠gc) (hg2:gl≠gw∧gl<n0∧gb<n0∧gb≠gp∧gb≠gc∧gb≠gl) (hn:n0≤w.heap.size) (hln:xs.length≤1000000000001) :
  Calls Tryz.prog 169 #[.pointer (some ⟨gl,0,none⟩),.pointer (some ⟨gb,0,none⟩)] w fun e w'=>e=.returned (.tuple #[])∧aW gp gc gw W (aZ W s).2 w'∧(∃ A' c' rows' D',fH n0 gl w' A' c' rows' D' (xs++[(aZ W s).1]))∧But (EF gp gc gl n0) w w':=by
 have hd:aW gp gc gw W s w.drew:=h.below (Below.refl _ _).drew
 have hld:fH n0 gl w.drew A c rows D xs:=hl.keep (S:=fun _=>False) (But.refl _ _).drew (fun _ hf=>hf.elim)
 have hbd:af w.drew gb 63 #[.pointer (some ⟨gp,0,none⟩)]:=hb
 have c1:w.cell? ⟨gl,0,none⟩=some (.slice A xs.length c):=by have:=hl.blk.cell 0;simpa using this
 have c2:w.cell? ⟨gb,0,none⟩=some (.pointer (some ⟨gp,0,none⟩)):=by have:=hb.cell 0;simpa using this
 have l1:=hl.blk.lt
 have l2:=hb.lt
 have hal:=(Below.refl w.drew.heap.size w.drew).alloc (Nat.le_refl _) (.cells sD.toArray 55)
 have Hex:=ae (fun w2 (hW:aW gp gc gw W s w2)=>rZ gp gc gw W s w2 hW)
 have Hd:=ae hd
 have Hld:=ae hld
 have Hbd:=ae hbd
 have KX:=ae hal
 have Hg:=ae hg
 have zV:=ae hg2
 have Hn:=ae hn
 have VD:=ae hln
 generalize aZ W s=fin at *
 obtain⟨x,sx⟩:=fin
 have Hex:Hid (∀ w2,aW gp gc gw W s w2→Calls Tryz.prog 126 #[.pointer (some ⟨gp,0,none⟩)] w2 (jv gp gc gw W sx x w2)):=ae Hex.out
 clear hd hld hbd hal hg hg2 hn hln h hl hb
 have hcl:∀ W2,But (fV gp gc) w.drew W2→W2.cell? ⟨gl,0,none⟩=some (.slice A xs.length c)∧W2.cell? ⟨gb,0,none⟩=some (.pointer (some ⟨gp,0,none⟩))∧gl<W2.heap.size∧gb<W2.heap.size∧(∀ i,W2.frozen? ⟨gl,i,none⟩=false):=fun W2 hW=>by
  have k1:=Hld.out.blk.ag (hW.block _ Hld.out.blk.lt (by rintro(e|e);exact Hg.out.2.2.2.1 e;exact Hg.out.2.2.2.2 e))
  have k2:=Hbd.out.ag (hW.block _ Hbd.out.lt (by rintro(e|e);exact zV.out.2.2.2.1 e;exact zV.out.2.2.2.2.1 e))
  have a1:=k1.cell 0
  have a2:=k2.cell 0
  simp at a1 a2
  exact⟨a1,a2,k1.lt,k2.lt,k1.frozen⟩
 have Hcl:=ae hcl
 have Um:=Hld.out.wid
 have hrl:=Hld.out.len
 have Uo:=ae (And.intro Um hrl)
 clear Um hrl
 have hd1:aW gp gc gw W s (w.drew.alloc (.cells sD.toArray 55)):=Hd.out.below KX.out
 have Hd1:=ae hd1
 have hn0:az (w.drew.alloc (.cells sD.toArray 55)) 6 (some ⟨w.heap.size,0,none⟩) 1 1 [sD]:=az.nG _ _ 1 rfl rfl (by simp) rfl (by unfold maxLen;omega)
 have HN0:=ae hn0
 have hz1:∀ r∈[sD],r.length=6:=by simp
 have hz2:∀ r∈[sD],∀ u∈r,u.oneCell'=true:=by
  intro r hr u hu
  simp only[List.mem_singleton] at hr
  subst hr
  simp only[List.mem_cons,List.not_mem_nil,or_false] at hu
  rcases hu with rfl|rfl|rfl|rfl|rfl|rfl<;>rfl
 have Sr:=ae hz1
 have Hz2:=ae hz2
 have hmx:xs.length+1≤maxLen:=by have:=VD.out;unfold maxLen;omega
 have hby:(xs.length+1)*88≤140737488355328:=by have:=VD.out;omega
 have QF:=ae (And.intro hmx hby)
 have hgz:gp<w.heap.size∧gc<w.heap.size:=by have:=Hg.out;have:=Hn.out;omega
 have Hgz:=ae hgz
 have hbx:∀ w5 Wc w6,But (fV gp gc) w.drew w5→Below w5.heap.size w5 Wc→But (fun k=>A.map (·.block)=some k) Wc w6→w6.cell? ⟨gl,0,none⟩=some (.slice A xs.length c)∧w6.cell? ⟨gb,0,none⟩=some (.pointer (some ⟨gp,0,none⟩))∧gl<w6.heap.size∧gb<w6.heap.size∧(∀ i,w6.frozen? ⟨gl,i,none⟩=false):=fun w5 Wc w6 hB hal fE=>by
  have hlow:∀ k,A.map (·.block)=some k→n0≤k:=fun k hk=>by
   cases A with
   | none=>cases hk
   | some a =>
    have e:a.block=k:=by simpa using hk
    subst e
    exact(Hld.out.low a rfl).1
  have k1:=Hld.out.blk.ag (hB.block _ Hld.out.blk.lt (by rintro(e|e);exact Hg.out.2.2.2.1 e;exact Hg.out.2.2.2.2 e))
  have k2:=Hbd.out.ag (hB.block _ Hbd.out.lt (by rintro(e|e);exact zV.out.2.2.2.1 e;exact zV.out.2.2.2.2.1 e))
  have k3:=k1.ag (hal.block _ k1.lt)
  have k4:=k2.ag (hal.block _ k2.lt)
  have k5:=k3.ag (fE.block _ k3.lt (fun e=>by have:=hlow _ e;have:=zV.out;omega))
  have k6:=k4.ag (fE.block _ k4.lt (fun e=>by have:=hlow _ e;have:=zV.out;omega))
  have a1:=k5.cell 0
  have a2:=k6.cell 0
  simp at a1 a2
  exact⟨a1,a2,k5.lt,k6.lt,k5.frozen⟩
 have ahU:=ae hbx
 have hkk:∀ w5 Wc w6,But (fV gp gc) w.drew w5→Below w5.heap.size w5 Wc→But (fun k=>A.map (·.block)=some k) Wc w6→af w6 gl 42 #[.slice A xs.length c]:=fun w5 Wc w6 hB hal fE=>by
  have hlow:∀ k,A.map (·.block)=some k→n0≤k:=fun k hk=>by
   cases A with
   | none=>cases hk
   | some a =>
    have e:a.block=k:=by simpa using hk
    subst e
    exact(Hld.out.low a rfl).1
  have k1:=Hld.out.blk.ag (hB.block _ Hld.out.blk.lt (by rintro(e|e);exact Hg.out.2.2.2.1 e;exact Hg.out.2.2.2.2 e))
  have k3:=k1.ag (hal.block _ k1.lt)
  exact k3.ag (fE.block _ k3.lt (fun e=>by have:=hlow _ e;have:=zV.out;omega))
 have Hkk:=ae hkk
 clear hkk
 clear hbx
 have hni:(xs.length:Int)<(xs.length:Int)+1:=by omega
 have hng:gl≠gb:=fun e=>zV.out.2.2.2.2.2 e.symm
 have hend:∀ (w5 Wc w6:World) (D5:Nat) (A5:Option Addr) (m5 c5 g6 c6:Nat) (a:Act),But (fV gp gc) w.drew w5→aC (Fr w.drew) D5 w5 [.int .i64 x.op,.int .i64 x.n,.string x.s,.string x.name,.string x.src,.slice A5 m5 c5] x→aW gp gc gw W sx w5→Below w5.heap.size w5 Wc →
   w6.ownsRow n0 55 6 (.slice (some ⟨g6,0,none⟩) (xs.length+1) c6) (xs.length+1) (rows++[sD]).flatten→But (fun k=>A.map (·.block)=some k) Wc w6→(∀ a2,(some ⟨g6,0,none⟩:Option Addr)=some a2→A=some a2∨Wc.heap.size≤a2.block)→n0≤g6→a.defers=[] →
   bodyPost Tryz.prog Tryz.f169 (fun e w'=>e=.returned (.tuple #[])∧aW gp gc gw W sx w'∧(∃ A' c' rows' D',fH n0 gl w' A' c' rows' D' (xs++[x]))∧But (EF gp gc gl n0) w w') Exit.normal a (((((((w6.setCell ⟨g6,xs.length*6,none⟩ (.int .i64 x.op)).setCell ⟨g6,xs.length*6+1,none⟩ (.int .i64 x.n)).setCell ⟨g6,xs.length*6+2,none⟩ (.string x.s)).setCell ⟨g6,xs.length*6+3,none⟩ (.string x.name)).setCell ⟨g6,xs.length*6+4,none⟩ (.string x.src)).setCell ⟨g6,xs.length*6+5,none⟩ (.slice A5 m5 c5)).setCell ⟨gl,0,none⟩ (.slice (some ⟨g6,0,none⟩) (xs.length+1) c6)):=by
  intro w5 Wc w6 D5 A5 m5 c5 g6 c6 a iP hx5 pz jI hown6 dS FM r1 hdef
  have hn2:n0≤w.drew.heap.size:=Hn.out
  have hG:=Grown.late Hld.out Hg.out hn2 iP hx5 pz jI hown6 dS FM
  have hkg:=Hkk.out _ _ _ iP jI dS
  have hend:=fH.grown hG hkg rfl Hg.out ⟨zV.out.1,zV.out.2.1⟩ Uo.out.1 Uo.out.2 r1
  rw[KW]
  refine bodyPost_end (results_none rfl _ _ _) hdef ?_
  exact⟨rfl,hend.1,hend.2.1,((But.refl (EF gp gc gl n0) w).drew).trans' hend.2.2⟩
 have IG:=ae hend
 clear hend
 clear hcl hd1 hn0 hz1 hz2 hmx hby hgz
 go_enter Tryz.func169,Tryz.ntmps169
 go_region_law (first
  | (go_simp;go_at_call 126;refine(Hex.out _ (by first|with_reducible exact Hd.out|exact Hd1.out)).mono ?_;rintro e5 w5 ⟨Ub,D5,rfl,hx5,pz,iP⟩;have Jn:But (fV gp gc) w.drew w5:=(by first|with_reducible exact iP|exact(But.of_below KX.out).trans' iP);have ahV:aC (Fr w.drew) D5 w5 Ub x:=(by first|with_reducible exact hx5|exact aC.conv (fun k hk=>Nat.le_trans KX.out.size hk) (Kept.refl _ _) D5 (Nat.le_refl _) hx5);obtain⟨A5,m5,c5,rfl⟩:=bP hx5;obtain⟨t1,t2,t3,t4,t5⟩:=Hcl.out _ Jn;have hO5:=eP Hld.out.own Jn (fun g hg e=>by (have h1:=(Hld.out.own.lt g hg).1;have:=Hg.out;rcases e with e|e<;>omega));have jI:=(Below.refl w5.heap.size w5).alloc (Nat.le_refl _) (.cells sD.toArray 55))
  | (refine wZ (base:=n0) (xs:=rows) (news:=[sD]) rfl rfl abb rfl (by first|with_reducible exact hO5|exact own_below hO5 jI) rfl (by first|exact az.nG _ _ 1 rfl rfl Sr.out rfl (by unfold maxLen;omega)|exact az.but HN0.out iP (fun a ha _ hs=>by (cases ha;have:=Hgz.out;rcases hs with e|e<;>(simp only at e;omega)))) Sr.out Hz2.out QF.out.1 QF.out.2 (by (have:=Hn.out;have h1:=Jn.size;first|(simp only[World.drew] at h1;omega)|(simp only[World.drew] at h1;simp;omega))) ?_;intro A6 c6 w6 hown6 dS FM;obtain⟨g6,rfl,r1,r2,r3,r4,r5,r6,r7,r8,r9,r10⟩:=QD hown6 Uo.out.1 Uo.out.2;obtain⟨u1,u2,u3,u4,u5⟩:=ahU.out _ _ _ Jn (by first|with_reducible exact jI|exact Below.refl _ _) dS;have e1:g6≠gl:=(by (have:=zV.out;omega));have e2:gl≠g6:=(by (have:=zV.out;omega))))
 all_goals
  try rw[abr e1]
  with_reducible exact IG.out _ _ _ _ _ _ _ _ _ _ Jn ahV pz (by first|with_reducible exact jI|exact Below.refl _ _) hown6 dS FM r1 rfl
theorem Jo {α:Type} {W:aV} {one:au→α×au} {f:Nat} {l:List α} {s:au}:jC W one (f+1) l s=if (ay W (str [44]) s).1 then jC W one f (l++[(one (ay W (str [44]) s).2).1]) (one (ay W (str [44]) s).2).2 else (l,s):=rfl
theorem nz {gp gc gl n0:Nat} {w w':World} (h:But (fV gp gc) w w'):But (EF gp gc gl n0) w w':=h.mono fun i hi=>.inl (by rcases hi with e|e;exact .inl e;exact .inr (.inl e))
theorem QG (gp gc gw gl gb n0:Nat) (W:aV) (s:au) (w:World) (h:aW gp gc gw W s w) (hl:fH n0 gl w none 0 [] 0 []) (hb:af w gb 63 #[.pointer (some ⟨gp,0,none⟩)])
  (hg:gp<n0∧gc<n0∧gw<n0∧gl≠gp∧gl≠gc) (hg2:gl≠gw∧gl<n0∧gb<n0∧gb≠gp∧gb≠gc∧gb≠gl) (hn:n0≤w.heap.size) :
  Calls Tryz.prog 48 #[.pointer (some ⟨gp,0,none⟩),.func (.func 169) #[] #[.pointer (some ⟨gl,0,none⟩),.pointer (some ⟨gb,0,none⟩)]] w fun e w'=>e=.returned (.tuple #[])∧aW gp gc gw W (fG W s).2 w'∧(∃ A' c' rows' D',fH n0 gl w' A' c' rows' D' (fG W s).1)∧But (EF gp gc gl n0) w w':=by
 have hmax:=h.cu.max
 have J6:=ae (fun s' w2 A c D rows xs (hW:aW gp gc gw W s' w2) (hL:fH n0 gl w2 A c rows D xs) (hB:But (EF gp gc gl n0) w w2) (hln:xs.length≤1000000000001) =>
  Un gp gc gw gl gb n0 W s' w2 A c D rows xs hW hL (hb.ag (hB.block _ hb.lt (by rintro(e|e|e|e)<;>omega))) hg hg2 (Nat.le_trans hn hB.size) hln)
 have gB:=ae (fun s' w2 (hW:aW gp gc gw W s' w2)=>gX gp gc gw W s' (str [44]) w2 hW)
 have hfin:fG W s=jC W (aZ W) (W.l.length+1) [(aZ W s).1] (aZ W s).2:=rfl
 generalize fG W s=fin at *
 have bn:=ae hfin
 have H0:=ae (And.intro h hl)
 have Hg:=ae (And.intro hg hg2)
 have QH:=ae hmax
 clear h hl hb hg hg2 hn hfin hmax
 go_enter Tryz.func48,Tryz.ntmps48
 go_wp2_with (fail)
 refine(J6.out s w none 0 0 [] [] H0.out.1 H0.out.2 (But.refl _ _) (by simp)).mono ?_
 rintro e w2 ⟨rfl,hP,hL,hB⟩
 have H2:=ae (And.intro hP (And.intro hL hB))
 clear hP hL hB
 go_wp2
 go_loopw [] (fun wr=>∃ (s':au) (xs:List Ex) (k:Nat),aW gp gc gw W s' wr∧(∃ A' c' rows' D',fH n0 gl wr A' c' rows' D' xs)∧But (EF gp gc gl n0) w wr∧Hid (fin=jC W (aZ W) k xs s')∧Hid (Fit W k s'∧1≤k∧xs.length≤s'.at_+1)) (fun wr=>W.l.length-oP wr gc)
 case atStart=>exact⟨_,_,_,H2.out.1,H2.out.2.1,H2.out.2.2,bn,ae ⟨.inr (by omega),by omega,by simp⟩⟩
 case round =>
  obtain⟨s',xs,k,hP,hL,hB,HF,HS⟩:=hrel
  obtain⟨hfit,hk1,hxl⟩:=HS.out
  obtain⟨k,rfl⟩:∃ k',k=k'+1:=⟨k-1,by omega⟩
  have hle:=hP.le
  have vV:=iQ hP
  have abt:=ae vV
  have hm:=gB.out s' wr hP
  have hgo:=HF.out
  rw[Jo] at hgo
  have H:=ae (And.intro hP (And.intro hL hB))
  have Hle:=ae (And.intro hfit (And.intro hxl hle))
  rcases bC W (str [44]) s' with hc|⟨hc,hbad,hat⟩
  ·rw[hc] at hm hgo
   simp only[Bool.false_eq_true,if_false] at hgo
   subst hgo
   simp only[str] at hm
   have Hm:=ae hm
   clear hm hc hP hL hB hfit hk1 hxl hle vV
   go_wp2_with (fail)
   refine Hm.out.mono ?_
   rintro e3 w3 ⟨rfl,hP,hB⟩
   have hB3:=H.out.2.2.trans' (nz (gl:=gl) (n0:=n0) hB)
   obtain⟨A,c,rows,D,hL⟩:=H.out.2.1
   have hL3:=hL.pO hB ⟨Hg.out.1.1,Hg.out.1.2.1,Hg.out.1.2.2.2⟩
   have H3:=ae (And.intro hP (And.intro (⟨A,c,rows,D,hL3⟩:∃ A' c' rows' D',fH n0 gl w3 A' c' rows' D' xs) hB3))
   clear hP hB hB3 hL hL3
   go_wp2
   refine bodyPost_end (results_none rfl _ _ _) rfl ?_
   exact⟨rfl,H3.out.1,H3.out.2.1,H3.out.2.2⟩
  ·rw[hc] at hm hgo
   simp only[if_true] at hgo
   simp only[str] at hm
   have Hm:=ae hm
   have Hgo:=ae hgo
   have TV:=ae (And.intro hbad hat)
   clear hm hc hP hL hB hfit hk1 hxl hle vV hgo hbad hat
   go_wp2_with (fail)
   refine Hm.out.mono ?_
   rintro e3 w3 ⟨rfl,hP,hB⟩
   have hB3:=H.out.2.2.trans' (nz (gl:=gl) (n0:=n0) hB)
   obtain⟨A,c,rows,D,hL⟩:=H.out.2.1
   have hL3:=hL.pO hB ⟨Hg.out.1.1,Hg.out.1.2.1,Hg.out.1.2.2.2⟩
   have Hs:=ae (J6.out s'.on w3 A c D rows xs hP hL3 hB3 (by have:=Hle.out;have:=QH.out;omega))
   have HB3:=ae hB3
   clear hP hB hB3 hL hL3
   go_wp2_with (fail)
   refine Hs.out.mono ?_
   rintro e4 w4 ⟨rfl,hP,hL,hB⟩
   have hup:=dJ W s'.on
   have hm4:W.l.length-oP w4 gc<W.l.length-oP wr gc:=by
    rw[iQ hP,abt.out]
    have h1:=hup.1
    have h2:s'.on.at_=s'.at_+1:=rfl
    have:=TV.out.2
    omega
   have F5:Fit W k (aZ W s'.on).2∧1≤k∧(xs++[(aZ W s'.on).1]).length≤(aZ W s'.on).2.at_+1:=by
    have h1:=hup.1
    have h2:s'.on.at_=s'.at_+1:=rfl
    have h3:=Hle.out
    have h4:W.l.length<s'.at_+(k+1):=h3.1.elim (fun e=>by rw[TV.out.1] at e;cases e) id
    have h5:=TV.out.2
    refine⟨(Fit.on h3.1).ge hup,by omega,?_⟩
    simp
    omega
   have H4:=ae (And.intro hP (And.intro hL (HB3.out.trans' hB)))
   have Hm4:=ae hm4
   have Hf4:=ae F5
   clear hP hL hB hup hm4 F5
   go_wp2
   go_roundw
   case rel=>exact⟨_,_,k,H4.out.1,H4.out.2.1,H4.out.2.2,Hgo,Hf4⟩
   case measure=>exact Hm4.out
theorem Jp (gp gc gw:Nat) (W:aV) (s:au) (w:World) (h:aW gp gc gw W s w) :
  Calls Tryz.prog 150 #[.pointer (some ⟨gp,0,none⟩)] w fun e w'=>∃ A n c D,e=.returned (.slice A n c)∧aO (Fr w) D w' A n c (fG W s).1∧aW gp gc gw W (fG W s).2 w'∧But (fV gp gc) w w':=by
 have hz:=And.intro h.lt.1 (And.intro h.lt.2 h.wl)
 obtain⟨w1,Hw1⟩:∃ w1,Hid (w1=(w.alloc (.cells #[.pointer (some ⟨gp,0,none⟩)] 63)).alloc (.cells #[.slice none 0 0] 42)):=⟨_,rfl⟩
 have hb1:Below w.heap.size w w1:=by rw[Hw1.out];exact((Below.refl _ _).alloc (Nat.le_refl _) _).alloc (by simp) _
 have hkb:af w1 w.heap.size 63 #[.pointer (some ⟨gp,0,none⟩)]:=by rw[Hw1.out];exact(af.laid _ _ _).alloc _
 have hkl:af w1 (w.heap.size+1) 42 #[.slice none 0 0]:=by rw[Hw1.out];exact jr (by simp)
 have hsz:w1.heap.size=w.heap.size+2:=by rw[Hw1.out];simp
 have hl:=QG gp gc gw (w.heap.size+1) w.heap.size (w.heap.size+2) W s w1 (h.below hb1) (fH.nil_ hkl) hkb (by omega) (by omega) (by omega)
 generalize fG W s=fin at *
 have c1:w1.cell? ⟨w.heap.size,0,none⟩=some (.pointer (some ⟨gp,0,none⟩)):=by have:=hkb.cell 0;simpa using this
 have l1:=hkb.lt
 have Hl:=ae hl
 have Hb1:=ae hb1
 have jM:=ae hsz
 clear hl hb1 hkb hkl hsz h hz
 go_enter Tryz.func150,Tryz.ntmps150
 go_upto_region 2 with (fail)
 rw[← Hw1.out]
 go_wp2_with (fail)
 refine Hl.out.mono ?_
 rintro e w2 ⟨rfl,hP,⟨A,c,rows,D,hL⟩,hB⟩
 have k1:w2.cell? ⟨w.heap.size+1,0,none⟩=some (.slice A fin.1.length c):=by have:=hL.blk.cell 0;simpa using this
 have l2:=hL.blk.lt
 have hx:aO (Fr w) D w2 A fin.1.length c fin.1:=ai.conv hL.list (Kept.refl _ _) (fun a _ _ h=>by show w.heap.size≤_;omega) (fun r x _ hx=>aC.conv (fun k hk=>by show w.heap.size≤k;omega) (Kept.refl _ _) D (Nat.le_refl _) hx)
 have FY:But (fV gp gc) w w2:=(But.of_below Hb1.out).trans hB (fun i hi=>by rcases hi with e|e|e|e;exact .inl (.inl e);exact .inl (.inr e);exact .inr (by omega);exact .inr (by omega))
 have H:=ae (And.intro hx (And.intro hP FY))
 clear hP hL hB hx FY
 go_wp2
 go_ret
 exact⟨A,_,c,D,rfl,H.out.1,H.out.2.1,H.out.2.2⟩
abbrev oV:Array Value:=#[.int .i64 0,.string ⟨#[]⟩,.string ⟨#[]⟩,.int .i64 0,.slice none 0 0,.slice none 0 0,.slice none 0 0,.slice none 0 0]
def vG (gp gc gw:Nat) (W:aV) (s':au) (x:St) (w:World) (e:Ending) (w':World):Prop:=∃ row D,e=.returned (.agg row.toArray)∧bQ (Fr w) D w' row x∧aW gp gc gw W s' w'∧But (fV gp gc) w w'
theorem vH {F:Nat→Prop} {d:Nat} {w:World} {row:List Value} {x:St} (h:bQ F d w row x):∃ Ac nc cc Ae ne ce Ab nb cb Al nl cl,row=[.int .i64 x.op,.string x.name,.string x.src,.int .i64 x.n,.slice Ac nc cc,.slice Ae ne ce,.slice Ab nb cb,.slice Al nl cl]:=by
 cases d with
 | zero=>exact h.elim
 | succ d=>obtain⟨_,_,_,_,Ac,nc,cc,Ae,ne,ce,Ab,nb,cb,Al,nl,cl,h,_⟩:=h.open_;exact⟨Ac,nc,cc,Ae,ne,ce,Ab,nb,cb,Al,nl,cl,h⟩
theorem bW {w:World} {g:Nat} {T:TypeId} {v0 v1 v2 v3 v4 v5 v6 v7:Value} (h:af w g T #[v0,v1,v2,v3,v4,v5,v6,v7]):w.cell? ⟨g,0,none⟩=some v0∧w.cell? ⟨g,1,none⟩=some v1∧w.cell? ⟨g,2,none⟩=some v2∧w.cell? ⟨g,3,none⟩=some v3∧w.cell? ⟨g,4,none⟩=some v4∧w.cell? ⟨g,5,none⟩=some v5∧w.cell? ⟨g,6,none⟩=some v6∧w.cell? ⟨g,7,none⟩=some v7∧g<w.heap.size:=by
 have h0:=h.cell 0;have h1:=h.cell 1;have h2:=h.cell 2;have h3:=h.cell 3;have h4:=h.cell 4;have h5:=h.cell 5;have h6:=h.cell 6;have h7:=h.cell 7
 simp at h0 h1 h2 h3 h4 h5 h6 h7
 exact⟨h0,h1,h2,h3,h4,h5,h6,h7,h.lt⟩
def EN (w:World) (g:Nat) (v0 v1 v2 v3 v4 v5 v6 v7:Value):World:=(((((((w.setCell ⟨g,0,none⟩ v0).setCell ⟨g,1,none⟩ v1).setCell ⟨g,2,none⟩ v2).setCell ⟨g,3,none⟩ v3).setCell ⟨g,4,none⟩ v4).setCell ⟨g,5,none⟩ v5).setCell ⟨g,6,none⟩ v6).setCell ⟨g,7,none⟩ v7
theorem nC (w:World) (g:Nat) (v0 v1 v2 v3 v4 v5 v6 v7:Value):(((((((w.setCell ⟨g,0,none⟩ v0).setCell ⟨g,1,none⟩ v1).setCell ⟨g,2,none⟩ v2).setCell ⟨g,3,none⟩ v3).setCell ⟨g,4,none⟩ v4).setCell ⟨g,5,none⟩ v5).setCell ⟨g,6,none⟩ v6).setCell ⟨g,7,none⟩ v7=EN w g v0 v1 v2 v3 v4 v5 v6 v7:=rfl
theorem Jq {w:World} {g:Nat} {T:TypeId} {u0 u1 u2 u3 u4 u5 u6 u7:Value} (v0 v1 v2 v3 v4 v5 v6 v7:Value) (h:af w g T #[u0,u1,u2,u3,u4,u5,u6,u7]):af (EN w g v0 v1 v2 v3 v4 v5 v6 v7) g T #[v0,v1,v2,v3,v4,v5,v6,v7]:=by
 have h:af _ g T #[v0,u1,u2,u3,u4,u5,u6,u7]:=h.stored 0 v0
 have h:af _ g T #[v0,v1,u2,u3,u4,u5,u6,u7]:=h.stored 1 v1
 have h:af _ g T #[v0,v1,v2,u3,u4,u5,u6,u7]:=h.stored 2 v2
 have h:af _ g T #[v0,v1,v2,v3,u4,u5,u6,u7]:=h.stored 3 v3
 have h:af _ g T #[v0,v1,v2,v3,v4,u5,u6,u7]:=h.stored 4 v4
 have h:af _ g T #[v0,v1,v2,v3,v4,v5,u6,u7]:=h.stored 5 v5
 have h:af _ g T #[v0,v1,v2,v3,v4,v5,v6,u7]:=h.stored 6 v6
 have h:af _ g T #[v0,v1,v2,v3,v4,v5,v6,v7]:=h.stored 7 v7
 exact h
theorem Jr (w:World) (g:Nat) (v0 v1 v2 v3 v4 v5 v6 v7:Value):But (fun k=>k=g) w (EN w g v0 v1 v2 v3 v4 v5 v6 v7):=by
 have h:=But.refl (fun k=>k=g) w
 have h:=h.setCell (p:=⟨g,0,none⟩) (.inl rfl) v0
 have h:=h.setCell (p:=⟨g,1,none⟩) (.inl rfl) v1
 have h:=h.setCell (p:=⟨g,2,none⟩) (.inl rfl) v2
 have h:=h.setCell (p:=⟨g,3,none⟩) (.inl rfl) v3
 have h:=h.setCell (p:=⟨g,4,none⟩) (.inl rfl) v4
 have h:=h.setCell (p:=⟨g,5,none⟩) (.inl rfl) v5
 have h:=h.setCell (p:=⟨g,6,none⟩) (.inl rfl) v6
 exact h.setCell (p:=⟨g,7,none⟩) (.inl rfl) v7
theorem ahX:(Tryz.prog.info? 49).map (·.size)=some 8:=by kernel_rfl
theorem vI {fn:Func} {p:Tmp} {tmps:Array Value} {w:World} {g:Nat} {t:TypeId} {cs:Array Value} (h:fn.results=#[.cell p 49]) (hp:tmps.getD p undef=.pointer (some ⟨g,0,none⟩)) (hk:af w g t cs) (hz:cs.size=8):(results fn tmps).run Tryz.prog w=.ok (.agg cs) w :=
 results_cell_row h tmps w g t cs (0,0) _ hp hk Tryz.underlying49 rfl (by rw[hz];exact ahX)
theorem mQ {gp gc gw g:Nat} {W:aV} {s':au} {x:St} {w w3 w4:World} {D:Nat} {Ac Ae Ab Al:Option Addr} {nc cc ne ce nb cb nl cl:Nat} {T:TypeId} {u0 u1 u2 u3 u4 u5 u6 u7:Value}
  (hx:bQ (Fr w3) D w4 [.int .i64 x.op,.string x.name,.string x.src,.int .i64 x.n,.slice Ac nc cc,.slice Ae ne ce,.slice Ab nb cb,.slice Al nl cl] x) (hP:aW gp gc gw W s' w4) (hB:But (fV gp gc) w w4) (hk:af w4 g T #[u0,u1,u2,u3,u4,u5,u6,u7]) (hg1:w.heap.size≤g) (hg2:g<w3.heap.size) (hz:gp<w.heap.size∧gc<w.heap.size∧gw<w.heap.size) :
  af (EN w4 g (.int .i64 x.op) (.string x.name) (.string x.src) (.int .i64 x.n) (.slice Ac nc cc) (.slice Ae ne ce) (.slice Ab nb cb) (.slice Al nl cl)) g T #[.int .i64 x.op,.string x.name,.string x.src,.int .i64 x.n,.slice Ac nc cc,.slice Ae ne ce,.slice Ab nb cb,.slice Al nl cl] ∧
  vG gp gc gw W s' x w (.returned (.agg #[.int .i64 x.op,.string x.name,.string x.src,.int .i64 x.n,.slice Ac nc cc,.slice Ae ne ce,.slice Ab nb cb,.slice Al nl cl])) (EN w4 g (.int .i64 x.op) (.string x.name) (.string x.src) (.int .i64 x.n) (.slice Ac nc cc) (.slice Ae ne ce) (.slice Ab nb cb) (.slice Al nl cl)):=by
 have hb7:=Jr w4 g (.int .i64 x.op) (.string x.name) (.string x.src) (.int .i64 x.n) (.slice Ac nc cc) (.slice Ae ne ce) (.slice Ab nb cb) (.slice Al nl cl)
 refine⟨Jq _ _ _ _ _ _ _ _ hk,_,D,rfl,?_,hP.elsewhere hb7 (by omega),hB.trans hb7 (fun i hi=>.inr (by omega))⟩
 exact bQ.conv (fun k (hk:w3.heap.size≤k)=>by show w.heap.size≤k;omega) (Kept.aN hb7 fun k (hk:w3.heap.size≤k) e=>by omega) D (Nat.le_refl _) hx
theorem D6 {F:Nat→Prop} {d:Nat} {w:World} {op n:Int} {name src:ByteArray} {cols:List ByteArray} {es:List Ex} {bo el:List St} {Ac Ae Ab Al:Option Addr} {nc cc ne ce nb cb nl cl:Nat} (h0:0≤op) (h1:op≤100) (hn:okI n) (hm:okS name) (hs:okS src)
  (hc:ai F w 1 dL Ac nc cc cols) (he:aO F d w Ae ne ce es) (hb:aP F d w Ab nb cb bo) (hl:aP F d w Al nl cl el):bQ F (d+1) w [.int .i64 op,.string name,.string src,.int .i64 n,.slice Ac nc cc,.slice Ae ne ce,.slice Ab nb cb,.slice Al nl cl] (.mk op name src n cols es bo el) :=
 ⟨⟨by show _≤op;omega,by show op≤_;omega⟩,hn,hm,hs,Ac,nc,cc,Ae,ne,ce,Ab,nb,cb,Al,nl,cl,rfl,hc,he,hb,hl⟩
theorem gK (F:Nat→Prop) (d:Nat) (w:World):aP F d w none 0 0 []:=ai.nil_ _ _ _ _
theorem lT:okS nil0:=by unfold okS;exact Nat.zero_le _
theorem xu:okI 0:=by constructor<;>simp
end Go.Proofs.YtjjfkhbajidmdaaGreatDoor

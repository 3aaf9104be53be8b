/- Parts of this proof, one behind the other: ParN0, ParN, ParO. -/
import Derived.Test.YtgbgiknfejpcoaaGreatPx18
import Derived.Test.YtgbgiknfejpcoaaGreatPx16
set_option maxRecDepth 1000000
set_option maxHeartbeats 40000000
namespace Go.Proofs.YtgbgiknfejpcoaaGreat
open Go.RowKit Go.Afx
structure ExsOwn (n0 gl:Nat) (w:World) (A:Option Addr) (c:Nat) (rows:List (List Value)) (D:Nat) (xs:List Ex):Prop where
 blk:IsBlk w gl 58 #[.slice A xs.length c]
 own:w.ownsRow n0 60 6 (.slice A xs.length c) xs.length rows.flatten
 len:rows.length=xs.length
 at_:∀ (k:Nat) (r:List Value) (x:Ex),rows[k]?=some r→xs[k]?=some x→r.length=6∧ExAt (fun b=>n0≤b∧A.map (·.block)≠some b) D w r x
theorem ExsOwn.low {n0 gl:Nat} {w:World} {A:Option Addr} {c:Nat} {rows:List (List Value)} {D:Nat} {xs:List Ex} (h:ExsOwn n0 gl w A c rows D xs):∀ a,A=some a→n0≤a.block∧a.block<w.heap.size:=by
 intro a ha;subst ha;exact h.own.lt a.block rfl
theorem ExsOwn.wid {n0 gl:Nat} {w:World} {A:Option Addr} {c:Nat} {rows:List (List Value)} {D:Nat} {xs:List Ex} (h:ExsOwn n0 gl w A c rows D xs):∀ r∈rows,r.length=6:=by
 intro r hr
 obtain⟨k,hk,rfl⟩:=List.mem_iff_getElem.1 hr
 exact(h.at_ k _ _ (List.getElem?_eq_getElem hk) (List.getElem?_eq_getElem (by have:=h.len;omega))).1
theorem ExsOwn.keep {n0 gl:Nat} {w w':World} {A:Option Addr} {c:Nat} {rows:List (List Value)} {D:Nat} {xs:List Ex} {S:Nat→Prop} (h:ExsOwn n0 gl w A c rows D xs) (hb:But S w w') (hS:∀ k,S k→k≠gl∧k<n0):ExsOwn n0 gl w' A c rows D xs :=
 ⟨h.blk.as_was (hb.block _ h.blk.lt fun hs=>(hS _ hs).1 rfl),own_but h.own hb (fun g hg hs=>by have:=(h.own.lt g hg).1;have:=(hS g hs).2;omega),h.len,
  fun k r x hr hx=>⟨(h.at_ k r x hr hx).1,(h.at_ k r x hr hx).2.kept (Kept.of_but hb fun b hb hs=>by have:=(hS b hs).2;have:=hb.1;omega)⟩⟩
theorem ExsOwn.nil_ {n0 gl:Nat} {w:World} (hk:IsBlk w gl 58 #[.slice none 0 0]):ExsOwn n0 gl w none 0 [] 0 []:=⟨hk,World.ownsRow_nil _ _ _ _,rfl,fun k r x h=>by simp at h⟩
theorem ExsOwn.list {n0 gl:Nat} {w:World} {A:Option Addr} {c:Nat} {rows:List (List Value)} {D:Nat} {xs:List Ex} (h:ExsOwn n0 gl w A c rows D xs):ExsAt (fun b=>n0≤b) D w A xs.length c xs :=
 ⟨rows,RowsAt.of_own h.own h.wid h.len,fun a ha _=>(h.low a ha).1,h.len,fun k r x hr hx=>⟨(h.at_ k r x hr hx).1,ExAt.conv (fun _ h=>h.1) (Kept.refl _ _) D (Nat.le_refl _) (h.at_ k r x hr hx).2⟩⟩
def lay6At (w:World) (g o:Nat) (v0 v1 v2 v3 v4 v5:Value):World:=(((((w.setCell ⟨g,o,none⟩ v0).setCell ⟨g,o+1,none⟩ v1).setCell ⟨g,o+2,none⟩ v2).setCell ⟨g,o+3,none⟩ v3).setCell ⟨g,o+4,none⟩ v4).setCell ⟨g,o+5,none⟩ v5
theorem lay6At_eq (w:World) (g o:Nat) (v0 v1 v2 v3 v4 v5:Value):(((((w.setCell ⟨g,o,none⟩ v0).setCell ⟨g,o+1,none⟩ v1).setCell ⟨g,o+2,none⟩ v2).setCell ⟨g,o+3,none⟩ v3).setCell ⟨g,o+4,none⟩ v4).setCell ⟨g,o+5,none⟩ v5=lay6At w g o v0 v1 v2 v3 v4 v5:=rfl
theorem lay6At_but (w:World) (g o:Nat) (v0 v1 v2 v3 v4 v5:Value):But (fun k=>k=g) w (lay6At w g o v0 v1 v2 v3 v4 v5):=by
 have h:=But.refl (fun k=>k=g) w
 have h:=h.setCell (p:=⟨g,o,none⟩) (.inl rfl) v0
 have h:=h.setCell (p:=⟨g,o+1,none⟩) (.inl rfl) v1
 have h:=h.setCell (p:=⟨g,o+2,none⟩) (.inl rfl) v2
 have h:=h.setCell (p:=⟨g,o+3,none⟩) (.inl rfl) v3
 have h:=h.setCell (p:=⟨g,o+4,none⟩) (.inl rfl) v4
 exact h.setCell (p:=⟨g,o+5,none⟩) (.inl rfl) v5
theorem set_last {α:Type} (l:List α) (a0 a1 a2 a3 a4 a5 v0 v1 v2 v3 v4 v5:α) (o:Nat) (h:l.length=o):(((((((l++[a0,a1,a2,a3,a4,a5]).set o v0).set (o+1) v1).set (o+2) v2).set (o+3) v3).set (o+4) v4).set (o+5) v5)=l++[v0,v1,v2,v3,v4,v5]:=by
 subst h
 simp
theorem own_last {w:World} {base:Nat} {T:TypeId} {g n c:Nat} {rows:List (List Value)} {a0 a1 a2 a3 a4 a5:Value} (v0 v1 v2 v3 v4 v5:Value) (h:w.ownsRow base T 6 (.slice (some ⟨g,0,none⟩) (n+1) c) (n+1) (rows++[[a0,a1,a2,a3,a4,a5]]).flatten) (hw:∀ r∈rows,r.length=6) (hl:rows.length=n) :
  (lay6At w g (n*6) v0 v1 v2 v3 v4 v5).ownsRow base T 6 (.slice (some ⟨g,0,none⟩) (n+1) c) (n+1) (rows++[[v0,v1,v2,v3,v4,v5]]).flatten:=by
 have hlen:rows.flatten.length=n*6:=by rw[flatten_length rows 6 hw,hl]
 have e1:(rows++[[a0,a1,a2,a3,a4,a5]]).flatten=rows.flatten++[a0,a1,a2,a3,a4,a5]:=by simp
 have e2:(rows++[[v0,v1,v2,v3,v4,v5]]).flatten=rows.flatten++[v0,v1,v2,v3,v4,v5]:=by simp
 rw[e1] at h
 rw[e2,← set_last rows.flatten a0 a1 a2 a3 a4 a5 v0 v1 v2 v3 v4 v5 (n*6) hlen]
 exact((((((h.stored (n*6) v0).1.stored (n*6+1) v1).1.stored (n*6+2) v2).1.stored (n*6+3) v3).1.stored (n*6+4) v4).1.stored (n*6+5) v5).1
theorem own_tail {w:World} {base:Nat} {T:TypeId} {A:Option Addr} {n c:Nat} {rows:List (List Value)} {a0 a1 a2 a3 a4 a5:Value} (h:w.ownsRow base T 6 (.slice A (n+1) c) (n+1) (rows++[[a0,a1,a2,a3,a4,a5]]).flatten) (hw:∀ r∈rows,r.length=6) (hl:rows.length=n) :
  ∃ g,A=some ⟨g,0,none⟩∧base≤g∧g<w.heap.size∧n+1≤c∧(∀ i,w.frozen? ⟨g,i,none⟩=false)∧w.cell? ⟨g,n*6,none⟩=some a0∧w.cell? ⟨g,n*6+1,none⟩=some a1∧w.cell? ⟨g,n*6+2,none⟩=some a2∧w.cell? ⟨g,n*6+3,none⟩=some a3∧w.cell? ⟨g,n*6+4,none⟩=some a4∧w.cell? ⟨g,n*6+5,none⟩=some a5:=by
 obtain⟨A',c',e1,hnc⟩:=ownsRow_form h
 obtain⟨g,cap,hv,hb,hg⟩:=h.form (by omega)
 simp only[Value.slice.injEq] at hv e1
 obtain⟨rfl,_,rfl⟩:=hv
 obtain⟨_,_,rfl⟩:=e1
 have hwid:∀ r∈rows++[[a0,a1,a2,a3,a4,a5]],r.length=6:=by
  intro r hr
  rcases List.mem_append.1 hr with hr|hr
  ·exact hw r hr
  ·simp only[List.mem_singleton] at hr;subst hr;rfl
 have hat:∀ i,i<6→w.cell? ⟨g,n*6+i,none⟩=[a0,a1,a2,a3,a4,a5][i]?:=fun i hi=>by
  rw[h.cellAt (n*6+i) (by omega),flatten_get _ 6 hwid n i hi,List.getElem?_append_right (by omega),hl]
  simp
 exact⟨g,rfl,hb,hg,hnc,h.frozenAt,by simpa using hat 0 (by omega),hat 1 (by omega),hat 2 (by omega),hat 3 (by omega),hat 4 (by omega),hat 5 (by omega)⟩
theorem PAt.off {gp gc gw:Nat} {W:Wds} {s:PSt} {w w':World} {S:Nat→Prop} (h:PAt gp gc gw W s w) (hb:But S w w') (hS:∀ k,S k→gp≠k∧gc≠k∧gw≠k):PAt gp gc gw W s w':=by
 obtain⟨⟨A,n,c,hk2,hl⟩,h1,h2,h3,h4⟩:=h.cu
 exact⟨h.blk.as_was (hb.block _ h.blk.lt fun hs=>(hS _ hs).1 rfl),⟨⟨A,n,c,hk2.as_was (hb.block _ hk2.lt fun hs=>(hS _ hs).2.1 rfl),hl.kept (Kept.of_but hb fun k hf hs=>(hS k hs).2.2 hf.symm)⟩,h1,h2,h3,h4⟩,h.ne,h.nw,Nat.lt_of_lt_of_le h.wl hb.size⟩
abbrev zrow:List Value:=[.int .i64 0,.int .i64 0,.string ⟨#[]⟩,.string ⟨#[]⟩,.string ⟨#[]⟩,.slice none 0 0]
structure Grown (gp gc gw n0:Nat) (W:Wds) (s':PSt) (w:World) (xs:List Ex) (x:Ex) (rows:List (List Value)) (row:List Value) (D:Nat) (A6:Option Addr) (c6:Nat) (W6:World):Prop where
 p:PAt gp gc gw W s' W6
 own:W6.ownsRow n0 60 6 (.slice A6 (xs.length+1) c6) (xs.length+1) (rows++[zrow]).flatten
 old:∀ (k:Nat) (r:List Value) (y:Ex),rows[k]?=some r→xs[k]?=some y→r.length=6∧ExAt (fun b=>n0≤b∧A6.map (·.block)≠some b) D W6 r y
 new_:ExAt (fun b=>n0≤b∧A6.map (·.block)≠some b) D W6 row x
 but:But (fun k=>k=gp∨k=gc∨n0≤k) w W6
def On3 (gp gc gl n0:Nat):Nat→Prop:=fun k=>k=gp∨k=gc∨k=gl∨n0≤k
section
variable {gp gc gw gl n0:Nat} {W:Wds} {s s':PSt} {w Wc w5 w6:World} {A:Option Addr} {c D D5:Nat} {rows:List (List Value)} {xs:List Ex} {x:Ex} {row:List Value}
theorem ExsOwn.on2 (h:ExsOwn n0 gl w A c rows D xs) (hb:But (On2 gp gc) w w5) (hg:gp<n0∧gc<n0∧gl≠gp∧gl≠gc):ExsOwn n0 gl w5 A c rows D xs :=
 h.keep hb fun k hk=>by rcases hk with e|e<;>subst e<;>exact⟨fun e=>by omega,by omega⟩
theorem Grown.late (h:ExsOwn n0 gl w A c rows D xs) (hg:gp<n0∧gc<n0∧gw<n0∧gl≠gp∧gl≠gc) (hn:n0≤w.heap.size) (hB:But (On2 gp gc) w w5) (hx:ExAt (Fr w) D5 w5 row x) (hP:PAt gp gc gw W s' w5)
  (hal:Below w5.heap.size w5 Wc) {A6:Option Addr} {c6:Nat} (hown:w6.ownsRow n0 60 6 (.slice A6 (xs.length+1) c6) (xs.length+1) (rows++[zrow]).flatten)
  (hbut:But (fun k=>A.map (·.block)=some k) Wc w6) (hf:∀ a2,A6=some a2→A=some a2∨Wc.heap.size≤a2.block):Grown gp gc gw n0 W s' w xs x rows row (max D D5) A6 c6 w6:=by
 have h':=h.on2 hB ⟨hg.1,hg.2.1,hg.2.2.2⟩
 have hlow:∀ k,A.map (·.block)=some k→n0≤k∧k<w.heap.size:=fun k hk=>by
  cases A with
  | none=>cases hk
  | some a =>
   have e:a.block=k:=by simpa using hk
   subst e
   exact h.low a rfl
 have hne:∀ b,b<w5.heap.size→A.map (·.block)≠some b→A6.map (·.block)≠some b:=fun b hb h1 h2=>by
  cases A6 with
  | none=>cases h2
  | some a6 =>
   have e:a6.block=b:=by simpa using h2
   rcases hf a6 rfl with e2|e2
   ·exact h1 (by rw[e2];simpa using e)
   ·have:=hal.size;omega
 have hs:=hB.size
 refine⟨(hP.below hal).off hbut fun k hk=>?_,hown,fun k r y hr hy=>⟨(h'.at_ k r y hr hy).1,?_⟩,?_,(hB.mono fun i hi=>.inl (by rcases hi with e|e;exact .inl e;exact .inr (.inl e))).trans (But.of_below hal |>.trans hbut (fun i hi=>.inl hi)) fun i hi=>.inl (.inr (.inr (hlow i hi).1))⟩
 ·have:=hlow k hk;omega
 ·have h1:=ExAt.turn (F':=fun b=>n0≤b∧A6.map (·.block)≠some b∧A.map (·.block)≠some b) (fun k hk hf=>⟨hf.1,hne k hk hf.2,hf.2⟩) (Kept.of_below hal) D (Nat.le_max_left D D5) (h'.at_ k r y hr hy).2
  exact ExAt.conv (fun _ h=>⟨h.1,h.2.1⟩) (Kept.of_but hbut fun b hb hk=>hb.2.2 hk) _ (Nat.le_refl _) h1
 ·have h1:=ExAt.turn (F':=fun b=>n0≤b∧A6.map (·.block)≠some b∧A.map (·.block)≠some b) (fun k hk (hf:w.heap.size≤k)=>⟨by omega,hne k hk (fun e=>by have:=(hlow k e).2;omega),fun e=>by have:=(hlow k e).2;omega⟩) (Kept.of_below hal) D5 (Nat.le_max_right D D5) hx
  exact ExAt.conv (fun _ h=>⟨h.1,h.2.1⟩) (Kept.of_but hbut fun b hb hk=>hb.2.2 hk) _ (Nat.le_refl _) h1
end
theorem ExsOwn.grown {gp gc gw gl n0:Nat} {W:Wds} {s':PSt} {w w6:World} {xs:List Ex} {x:Ex} {rows:List (List Value)} {D g6 c6:Nat} {A5:Option Addr} {m5 c5:Nat} {cs:Array Value}
  (hG:Grown gp gc gw n0 W s' w xs x rows [.int .i64 x.op,.int .i64 x.n,.string x.s,.string x.name,.string x.src,.slice A5 m5 c5] D (some ⟨g6,0,none⟩) c6 w6) (hk:IsBlk w6 gl 58 cs) (hcs:cs.size=1) (hg:gp<n0∧gc<n0∧gw<n0∧gl≠gp∧gl≠gc) (hg2:gl≠gw∧gl<n0) (hw:∀ r∈rows,r.length=6) (hl:rows.length=xs.length) (h6:n0≤g6) :
  PAt gp gc gw W s' ((lay6At w6 g6 (xs.length*6) (.int .i64 x.op) (.int .i64 x.n) (.string x.s) (.string x.name) (.string x.src) (.slice A5 m5 c5)).setCell ⟨gl,0,none⟩ (.slice (some ⟨g6,0,none⟩) (xs.length+1) c6)) ∧
  (∃ A' c' rows' D',ExsOwn n0 gl ((lay6At w6 g6 (xs.length*6) (.int .i64 x.op) (.int .i64 x.n) (.string x.s) (.string x.name) (.string x.src) (.slice A5 m5 c5)).setCell ⟨gl,0,none⟩ (.slice (some ⟨g6,0,none⟩) (xs.length+1) c6)) A' c' rows' D' (xs++[x])) ∧
  But (On3 gp gc gl n0) w ((lay6At w6 g6 (xs.length*6) (.int .i64 x.op) (.int .i64 x.n) (.string x.s) (.string x.name) (.string x.src) (.slice A5 m5 c5)).setCell ⟨gl,0,none⟩ (.slice (some ⟨g6,0,none⟩) (xs.length+1) c6)):=by
 have hb1:=lay6At_but w6 g6 (xs.length*6) (.int .i64 x.op) (.int .i64 x.n) (.string x.s) (.string x.name) (.string x.src) (.slice A5 m5 c5)
 have ho1:=own_last (.int .i64 x.op) (.int .i64 x.n) (.string x.s) (.string x.name) (.string x.src) (.slice A5 m5 c5) hG.own hw hl
 have hp1:=hG.p.off hb1 (fun k hk=>by omega)
 have hk1:=hk.as_was (hb1.block _ hk.lt (by omega))
 have hold1:∀ (k:Nat) (r:List Value) (y:Ex),rows[k]?=some r→xs[k]?=some y→r.length=6∧ExAt (fun b=>n0≤b∧(some (⟨g6,0,none⟩:Addr)).map (·.block)≠some b) D (lay6At w6 g6 (xs.length*6) (.int .i64 x.op) (.int .i64 x.n) (.string x.s) (.string x.name) (.string x.src) (.slice A5 m5 c5)) r y:=fun k r y h1 h2=>⟨(hG.old k r y h1 h2).1,(hG.old k r y h1 h2).2.kept (Kept.of_but hb1 fun b hb e=>hb.2 (by simp[e]))⟩
 have hnew1:=hG.new_.kept (Kept.of_but hb1 fun b hb e=>hb.2 (by simp[e]))
 generalize lay6At w6 g6 (xs.length*6) (.int .i64 x.op) (.int .i64 x.n) (.string x.s) (.string x.name) (.string x.src) (.slice A5 m5 c5)=w7 at *
 have hb2:=(But.refl (fun k=>k=gl) w7).setCell (p:=⟨gl,0,none⟩) (.inl rfl) (.slice (some ⟨g6,0,none⟩) (xs.length+1) c6)
 have hk2:IsBlk (w7.setCell ⟨gl,0,none⟩ (.slice (some ⟨g6,0,none⟩) (xs.length+1) c6)) gl 58 #[.slice (some ⟨g6,0,none⟩) (xs.length+1) c6]:=by
  have h:=hk1.stored 0 (.slice (some ⟨g6,0,none⟩) (xs.length+1) c6)
  have e:cs.setIfInBounds 0 (.slice (some ⟨g6,0,none⟩) (xs.length+1) c6)=#[.slice (some ⟨g6,0,none⟩) (xs.length+1) c6]:=by
   apply Array.ext
   ·simpa using hcs
   ·intro i h1 h2
    have:i=0:=by simp at h2;omega
    subst this
    simp
  rw[e] at h
  exact h
 have hlen:(xs++[x]).length=xs.length+1:=by simp
 refine⟨hp1.off hb2 (fun k hk=>by omega),⟨some ⟨g6,0,none⟩,c6,rows++[[.int .i64 x.op,.int .i64 x.n,.string x.s,.string x.name,.string x.src,.slice A5 m5 c5]],D,⟨by rw[hlen];exact hk2,by rw[hlen];exact own_but ho1 hb2 (fun g hg3 e=>by have:=(ho1.lt g hg3).1;omega),by simp[hl],fun k r y hr hy=>?_⟩⟩,?_⟩
 ·rcases Nat.lt_trichotomy k xs.length with h|h|h
  ·rw[List.getElem?_append_left (by omega)] at hr hy
   obtain⟨h1,h2⟩:=hold1 k r y hr hy
   exact⟨h1,h2.kept (Kept.of_but hb2 fun b hb e=>by have:=hb.1;omega)⟩
  ·subst h
   rw[List.getElem?_append_right (by omega)] at hr hy
   rw[hl] at hr
   simp at hr hy
   subst hr hy
   exact⟨rfl,hnew1.kept (Kept.of_but hb2 fun b hb e=>by have:=hb.1;omega)⟩
  ·rw[List.getElem?_eq_none (by simp;omega)] at hy
   cases hy
 ·exact((hG.but.mono (fun i hi=>.inl (by rcases hi with e|e|e;exact .inl e;exact .inr (.inl e);exact .inr (.inr (.inr e))))).trans hb1 (fun i hi=>.inl (.inr (.inr (.inr (by omega)))))).trans hb2 (fun i hi=>.inl (.inr (.inr (.inl hi))))
theorem set_swap {w:World} {p q:Addr} {u v:Value} (h:p.block≠q.block):(w.setCell p u).setCell q v=(w.setCell q v).setCell p u:=by
 unfold World.setCell
 congr 1
 apply Array.ext_getElem?
 intro i
 simp only[Array.getElem?_modify]
 by_cases h1:q.block=i
 ·subst h1
  simp[h]
 ·by_cases h2:p.block=i
  ·subst h2
   simp[h1]
  ·simp[h1,h2]
theorem lay_swap {w:World} {g6 gl o:Nat} {v0 v1 v2 v3 v4 v5 u:Value} (h:g6≠gl) :
  (((((((w.setCell ⟨gl,0,none⟩ u).setCell ⟨g6,o,none⟩ v0).setCell ⟨g6,o+1,none⟩ v1).setCell ⟨g6,o+2,none⟩ v2).setCell ⟨g6,o+3,none⟩ v3).setCell ⟨g6,o+4,none⟩ v4).setCell ⟨g6,o+5,none⟩ v5) =
  (((((((w.setCell ⟨g6,o,none⟩ v0).setCell ⟨g6,o+1,none⟩ v1).setCell ⟨g6,o+2,none⟩ v2).setCell ⟨g6,o+3,none⟩ v3).setCell ⟨g6,o+4,none⟩ v4).setCell ⟨g6,o+5,none⟩ v5).setCell ⟨gl,0,none⟩ u):=by
 have k:∀ (W:World) (i:Nat) (v:Value),(W.setCell ⟨gl,0,none⟩ u).setCell ⟨g6,i,none⟩ v=(W.setCell ⟨g6,i,none⟩ v).setCell ⟨gl,0,none⟩ u:=fun W i v=>set_swap (fun e=>h e.symm)
 rw[k,k,k,k,k,k]
open Go.RowKit Go.Afx
theorem pExprsStep (gp gc gw gl gb n0:Nat) (W:Wds) (s:PSt) (w:World) (A:Option Addr) (c D:Nat) (rows:List (List Value)) (xs:List Ex) (h:PAt gp gc gw W s w) (hl:ExsOwn n0 gl w A c rows D xs) (hb:IsBlk w gb 98 #[.pointer (some ⟨gp,0,none⟩)])
  (hg:gp<n0∧gc<n0∧gw<n0∧gl≠gp∧gl≠gc) (hg2:gl≠gw∧gl<n0∧gb<n0∧gb≠gp∧gb≠gc∧gb≠gl) (hn:n0≤w.heap.size) (hln:xs.length≤1000000000001) :
  Calls Tryz.prog 233 #[.pointer (some ⟨gl,0,none⟩),.pointer (some ⟨gb,0,none⟩)] w fun e w'=>e=.returned (.tuple #[])∧PAt gp gc gw W (expr1 W s).2 w'∧(∃ A' c' rows' D',ExsOwn n0 gl w' A' c' rows' D' (xs++[(expr1 W s).1]))∧But (On3 gp gc gl n0) w w':=by
 have hd:PAt gp gc gw W s w.drew:=h.below (Below.refl _ _).drew
 have hld:ExsOwn n0 gl w.drew A c rows D xs:=hl.keep (S:=fun _=>False) (But.refl _ _).drew (fun _ hf=>hf.elim)
 have hbd:IsBlk w.drew gb 98 #[.pointer (some ⟨gp,0,none⟩)]:=hb
 have c1:w.cell? ⟨gl,0,none⟩=some (.slice A xs.length c):=by have:=hl.blk.cell 0;simpa using this
 have c2:w.cell? ⟨gb,0,none⟩=some (.pointer (some ⟨gp,0,none⟩)):=by have:=hb.cell 0;simpa using this
 have l1:=hl.blk.lt
 have l2:=hb.lt
 have hal:=(Below.refl w.drew.heap.size w.drew).alloc (Nat.le_refl _) (.cells zrow.toArray 60)
 have Hex:=Lhd (fun w2 (hW:PAt gp gc gw W s w2)=>pExpr1_any gp gc gw W s w2 hW)
 have Hd:=Lhd hd
 have Hld:=Lhd hld
 have Hbd:=Lhd hbd
 have Hal:=Lhd hal
 have Hg:=Lhd hg
 have Hg2:=Lhd hg2
 have Hn:=Lhd hn
 have Hln:=Lhd hln
 generalize expr1 W s=fin at *
 obtain⟨x,sx⟩:=fin
 have Hex:Hid (∀ w2,PAt gp gc gw W s w2→Calls Tryz.prog 34 #[.pointer (some ⟨gp,0,none⟩)] w2 (GivesE gp gc gw W sx x w2)):=Lhd Hex.out
 clear hd hld hbd hal hg hg2 hn hln h hl hb
 have hcl:∀ W2,But (On2 gp gc) w.drew W2→W2.cell? ⟨gl,0,none⟩=some (.slice A xs.length c)∧W2.cell? ⟨gb,0,none⟩=some (.pointer (some ⟨gp,0,none⟩))∧gl<W2.heap.size∧gb<W2.heap.size∧(∀ i,W2.frozen? ⟨gl,i,none⟩=false):=fun W2 hW=>by
  have k1:=Hld.out.blk.as_was (hW.block _ Hld.out.blk.lt (by rintro(e|e);exact Hg.out.2.2.2.1 e;exact Hg.out.2.2.2.2 e))
  have k2:=Hbd.out.as_was (hW.block _ Hbd.out.lt (by rintro(e|e);exact Hg2.out.2.2.2.1 e;exact Hg2.out.2.2.2.2.1 e))
  have a1:=k1.cell 0
  have a2:=k2.cell 0
  simp at a1 a2
  exact⟨a1,a2,k1.lt,k2.lt,k1.frozen⟩
 have Hcl:=Lhd hcl
 have hwid:=Hld.out.wid
 have hrl:=Hld.out.len
 have Hwid:=Lhd (And.intro hwid hrl)
 clear hwid hrl
 have hd1:PAt gp gc gw W s (w.drew.alloc (.cells zrow.toArray 60)):=Hd.out.below Hal.out
 have Hd1:=Lhd hd1
 have hn0:RowsAt (w.drew.alloc (.cells zrow.toArray 60)) 6 (some ⟨w.heap.size,0,none⟩) 1 1 [zrow]:=RowsAt.lit' _ _ 1 rfl rfl (by simp) rfl (by unfold maxLen;omega)
 have HN0:=Lhd hn0
 have hz1:∀ r∈[zrow],r.length=6:=by simp
 have hz2:∀ r∈[zrow],∀ u∈r,u.oneCell'=true:=by
  intro r hr u hu
  simp only[List.mem_singleton] at hr
  subst hr
  simp only[List.mem_cons,List.not_mem_nil,or_false] at hu
  rcases hu with rfl|rfl|rfl|rfl|rfl|rfl<;>rfl
 have Hz1:=Lhd hz1
 have Hz2:=Lhd hz2
 have hmx:xs.length+1≤maxLen:=by have:=Hln.out;unfold maxLen;omega
 have hby:(xs.length+1)*88≤140737488355328:=by have:=Hln.out;omega
 have Hmx:=Lhd (And.intro hmx hby)
 have hgz:gp<w.heap.size∧gc<w.heap.size:=by have:=Hg.out;have:=Hn.out;omega
 have Hgz:=Lhd hgz
 have hbx:∀ w5 Wc w6,But (On2 gp gc) w.drew w5→Below w5.heap.size w5 Wc→But (fun k=>A.map (·.block)=some k) Wc w6→w6.cell? ⟨gl,0,none⟩=some (.slice A xs.length c)∧w6.cell? ⟨gb,0,none⟩=some (.pointer (some ⟨gp,0,none⟩))∧gl<w6.heap.size∧gb<w6.heap.size∧(∀ i,w6.frozen? ⟨gl,i,none⟩=false):=fun w5 Wc w6 hB hal hbut=>by
  have hlow:∀ k,A.map (·.block)=some k→n0≤k:=fun k hk=>by
   cases A with
   | none=>cases hk
   | some a =>
    have e:a.block=k:=by simpa using hk
    subst e
    exact(Hld.out.low a rfl).1
  have k1:=Hld.out.blk.as_was (hB.block _ Hld.out.blk.lt (by rintro(e|e);exact Hg.out.2.2.2.1 e;exact Hg.out.2.2.2.2 e))
  have k2:=Hbd.out.as_was (hB.block _ Hbd.out.lt (by rintro(e|e);exact Hg2.out.2.2.2.1 e;exact Hg2.out.2.2.2.2.1 e))
  have k3:=k1.as_was (hal.block _ k1.lt)
  have k4:=k2.as_was (hal.block _ k2.lt)
  have k5:=k3.as_was (hbut.block _ k3.lt (fun e=>by have:=hlow _ e;have:=Hg2.out;omega))
  have k6:=k4.as_was (hbut.block _ k4.lt (fun e=>by have:=hlow _ e;have:=Hg2.out;omega))
  have a1:=k5.cell 0
  have a2:=k6.cell 0
  simp at a1 a2
  exact⟨a1,a2,k5.lt,k6.lt,k5.frozen⟩
 have Hbx2:=Lhd hbx
 have hkk:∀ w5 Wc w6,But (On2 gp gc) w.drew w5→Below w5.heap.size w5 Wc→But (fun k=>A.map (·.block)=some k) Wc w6→IsBlk w6 gl 58 #[.slice A xs.length c]:=fun w5 Wc w6 hB hal hbut=>by
  have hlow:∀ k,A.map (·.block)=some k→n0≤k:=fun k hk=>by
   cases A with
   | none=>cases hk
   | some a =>
    have e:a.block=k:=by simpa using hk
    subst e
    exact(Hld.out.low a rfl).1
  have k1:=Hld.out.blk.as_was (hB.block _ Hld.out.blk.lt (by rintro(e|e);exact Hg.out.2.2.2.1 e;exact Hg.out.2.2.2.2 e))
  have k3:=k1.as_was (hal.block _ k1.lt)
  exact k3.as_was (hbut.block _ k3.lt (fun e=>by have:=hlow _ e;have:=Hg2.out;omega))
 have Hkk:=Lhd hkk
 clear hkk
 clear hbx
 have hni:(xs.length:Int)<(xs.length:Int)+1:=by omega
 have hng:gl≠gb:=fun e=>Hg2.out.2.2.2.2.2 e.symm
 have hend:∀ (w5 Wc w6:World) (D5:Nat) (A5:Option Addr) (m5 c5 g6 c6:Nat) (a:Act),But (On2 gp gc) w.drew w5→ExAt (Fr w.drew) D5 w5 [.int .i64 x.op,.int .i64 x.n,.string x.s,.string x.name,.string x.src,.slice A5 m5 c5] x→PAt gp gc gw W sx w5→Below w5.heap.size w5 Wc →
   w6.ownsRow n0 60 6 (.slice (some ⟨g6,0,none⟩) (xs.length+1) c6) (xs.length+1) (rows++[zrow]).flatten→But (fun k=>A.map (·.block)=some k) Wc w6→(∀ a2,(some ⟨g6,0,none⟩:Option Addr)=some a2→A=some a2∨Wc.heap.size≤a2.block)→n0≤g6→a.defers=[] →
   bodyPost Tryz.prog Tryz.f233 (fun e w'=>e=.returned (.tuple #[])∧PAt gp gc gw W sx w'∧(∃ A' c' rows' D',ExsOwn n0 gl w' A' c' rows' D' (xs++[x]))∧But (On3 gp gc gl n0) w w') Exit.normal a (((((((w6.setCell ⟨g6,xs.length*6,none⟩ (.int .i64 x.op)).setCell ⟨g6,xs.length*6+1,none⟩ (.int .i64 x.n)).setCell ⟨g6,xs.length*6+2,none⟩ (.string x.s)).setCell ⟨g6,xs.length*6+3,none⟩ (.string x.name)).setCell ⟨g6,xs.length*6+4,none⟩ (.string x.src)).setCell ⟨g6,xs.length*6+5,none⟩ (.slice A5 m5 c5)).setCell ⟨gl,0,none⟩ (.slice (some ⟨g6,0,none⟩) (xs.length+1) c6)):=by
  intro w5 Wc w6 D5 A5 m5 c5 g6 c6 a hB5 hx5 hP5 hal5 hown6 hbut6 hf6 r1 hdef
  have hn2:n0≤w.drew.heap.size:=Hn.out
  have hG:=Grown.late Hld.out Hg.out hn2 hB5 hx5 hP5 hal5 hown6 hbut6 hf6
  have hkg:=Hkk.out _ _ _ hB5 hal5 hbut6
  have hend:=ExsOwn.grown hG hkg rfl Hg.out ⟨Hg2.out.1,Hg2.out.2.1⟩ Hwid.out.1 Hwid.out.2 r1
  rw[lay6At_eq]
  refine bodyPost_end (results_none rfl _ _ _) hdef ?_
  exact⟨rfl,hend.1,hend.2.1,((But.refl (On3 gp gc gl n0) w).drew).trans' hend.2.2⟩
 have Hend:=Lhd hend
 clear hend
 clear hcl hd1 hn0 hz1 hz2 hmx hby hgz
 go_enter Tryz.func233,Tryz.ntmps233
 go_region_law (first
  | (go_simp;go_at_call 34;refine(Hex.out _ (by first|with_reducible exact Hd.out|exact Hd1.out)).mono ?_;rintro e5 w5 ⟨row5,D5,rfl,hx5,hP5,hB5⟩;have hB5':But (On2 gp gc) w.drew w5:=(by first|with_reducible exact hB5|exact(But.of_below Hal.out).trans' hB5);have hx5':ExAt (Fr w.drew) D5 w5 row5 x:=(by first|with_reducible exact hx5|exact ExAt.conv (fun k hk=>Nat.le_trans Hal.out.size hk) (Kept.refl _ _) D5 (Nat.le_refl _) hx5);obtain⟨A5,m5,c5,rfl⟩:=ex_row6 hx5;obtain⟨t1,t2,t3,t4,t5⟩:=Hcl.out _ hB5';have hO5:=own_but Hld.out.own hB5' (fun g hg e=>by (have h1:=(Hld.out.own.lt g hg).1;have:=Hg.out;rcases e with e|e<;>omega));have hal5:=(Below.refl w5.heap.size w5).alloc (Nat.le_refl _) (.cells zrow.toArray 60))
  | (refine stepAppP (base:=n0) (xs:=rows) (news:=[zrow]) rfl rfl tyExp rfl (by first|with_reducible exact hO5|exact own_below hO5 hal5) rfl (by first|exact RowsAt.lit' _ _ 1 rfl rfl Hz1.out rfl (by unfold maxLen;omega)|exact RowsAt.but HN0.out hB5 (fun a ha _ hs=>by (cases ha;have:=Hgz.out;rcases hs with e|e<;>(simp only at e;omega)))) Hz1.out Hz2.out Hmx.out.1 Hmx.out.2 (by (have:=Hn.out;have h1:=hB5'.size;first|(simp only[World.drew] at h1;omega)|(simp only[World.drew] at h1;simp;omega))) ?_;intro A6 c6 w6 hown6 hbut6 hf6;obtain⟨g6,rfl,r1,r2,r3,r4,r5,r6,r7,r8,r9,r10⟩:=own_tail hown6 Hwid.out.1 Hwid.out.2;obtain⟨u1,u2,u3,u4,u5⟩:=Hbx2.out _ _ _ hB5' (by first|with_reducible exact hal5|exact Below.refl _ _) hbut6;have e1:g6≠gl:=(by (have:=Hg2.out;omega));have e2:gl≠g6:=(by (have:=Hg2.out;omega))))
 all_goals
  try rw[lay_swap e1]
  with_reducible exact Hend.out _ _ _ _ _ _ _ _ _ _ hB5' hx5' hP5 (by first|with_reducible exact hal5|exact Below.refl _ _) hown6 hbut6 hf6 r1 rfl
theorem listP_go {α:Type} {W:Wds} {one:PSt→α×PSt} {f:Nat} {l:List α} {s:PSt}:listP W one (f+1) l s=if (mayP W (str [44]) s).1 then listP W one f (l++[(one (mayP W (str [44]) s).2).1]) (one (mayP W (str [44]) s).2).2 else (l,s):=rfl
theorem on3_on2 {gp gc gl n0:Nat} {w w':World} (h:But (On2 gp gc) w w'):But (On3 gp gc gl n0) w w':=h.mono fun i hi=>.inl (by rcases hi with e|e;exact .inl e;exact .inr (.inl e))
theorem pList_exprs (gp gc gw gl gb n0:Nat) (W:Wds) (s:PSt) (w:World) (h:PAt gp gc gw W s w) (hl:ExsOwn n0 gl w none 0 [] 0 []) (hb:IsBlk w gb 98 #[.pointer (some ⟨gp,0,none⟩)])
  (hg:gp<n0∧gc<n0∧gw<n0∧gl≠gp∧gl≠gc) (hg2:gl≠gw∧gl<n0∧gb<n0∧gb≠gp∧gb≠gc∧gb≠gl) (hn:n0≤w.heap.size) :
  Calls Tryz.prog 124 #[.pointer (some ⟨gp,0,none⟩),.func (.func 233) #[] #[.pointer (some ⟨gl,0,none⟩),.pointer (some ⟨gb,0,none⟩)]] w fun e w'=>e=.returned (.tuple #[])∧PAt gp gc gw W (exprsP W s).2 w'∧(∃ A' c' rows' D',ExsOwn n0 gl w' A' c' rows' D' (exprsP W s).1)∧But (On3 gp gc gl n0) w w':=by
 have hmax:=h.cu.max
 have Hst:=Lhd (fun s' w2 A c D rows xs (hW:PAt gp gc gw W s' w2) (hL:ExsOwn n0 gl w2 A c rows D xs) (hB:But (On3 gp gc gl n0) w w2) (hln:xs.length≤1000000000001) =>
  pExprsStep gp gc gw gl gb n0 W s' w2 A c D rows xs hW hL (hb.as_was (hB.block _ hb.lt (by rintro(e|e|e|e)<;>omega))) hg hg2 (Nat.le_trans hn hB.size) hln)
 have Hmay:=Lhd (fun s' w2 (hW:PAt gp gc gw W s' w2)=>pMay_any gp gc gw W s' (str [44]) w2 hW)
 have hfin:exprsP W s=listP W (expr1 W) (W.l.length+1) [(expr1 W s).1] (expr1 W s).2:=rfl
 generalize exprsP W s=fin at *
 have Hfin:=Lhd hfin
 have H0:=Lhd (And.intro h hl)
 have Hg:=Lhd (And.intro hg hg2)
 have Hmax:=Lhd hmax
 clear h hl hb hg hg2 hn hfin hmax
 go_enter Tryz.func124,Tryz.ntmps124
 go_wp2_with (fail)
 refine(Hst.out s w none 0 0 [] [] H0.out.1 H0.out.2 (But.refl _ _) (by simp)).mono ?_
 rintro e w2 ⟨rfl,hP,hL,hB⟩
 have H2:=Lhd (And.intro hP (And.intro hL hB))
 clear hP hL hB
 go_wp2
 go_loopw [] (fun wr=>∃ (s':PSt) (xs:List Ex) (k:Nat),PAt gp gc gw W s' wr∧(∃ A' c' rows' D',ExsOwn n0 gl wr A' c' rows' D' xs)∧But (On3 gp gc gl n0) w wr∧Hid (fin=listP W (expr1 W) k xs s')∧Hid (Fit W k s'∧1≤k∧xs.length≤s'.at_+1)) (fun wr=>W.l.length-atOf wr gc)
 case atStart=>exact⟨_,_,_,H2.out.1,H2.out.2.1,H2.out.2.2,Hfin,Lhd ⟨.inr (by omega),by omega,by simp⟩⟩
 case round =>
  obtain⟨s',xs,k,hP,hL,hB,HF,HS⟩:=hrel
  obtain⟨hfit,hk1,hxl⟩:=HS.out
  obtain⟨k,rfl⟩:∃ k',k=k'+1:=⟨k-1,by omega⟩
  have hle:=hP.le
  have hat0:=atOf_eq hP
  have Hat0:=Lhd hat0
  have hm:=Hmay.out s' wr hP
  have hgo:=HF.out
  rw[listP_go] at hgo
  have H:=Lhd (And.intro hP (And.intro hL hB))
  have Hle:=Lhd (And.intro hfit (And.intro hxl hle))
  rcases may_cases W (str [44]) s' with hc|⟨hc,hbad,hat⟩
  ·rw[hc] at hm hgo
   simp only[Bool.false_eq_true,if_false] at hgo
   subst hgo
   simp only[str] at hm
   have Hm:=Lhd hm
   clear hm hc hP hL hB hfit hk1 hxl hle hat0
   go_wp2_with (fail)
   refine Hm.out.mono ?_
   rintro e3 w3 ⟨rfl,hP,hB⟩
   have hB3:=H.out.2.2.trans' (on3_on2 (gl:=gl) (n0:=n0) hB)
   obtain⟨A,c,rows,D,hL⟩:=H.out.2.1
   have hL3:=hL.on2 hB ⟨Hg.out.1.1,Hg.out.1.2.1,Hg.out.1.2.2.2⟩
   have H3:=Lhd (And.intro hP (And.intro (⟨A,c,rows,D,hL3⟩:∃ A' c' rows' D',ExsOwn n0 gl w3 A' c' rows' D' xs) hB3))
   clear hP hB hB3 hL hL3
   go_wp2
   refine bodyPost_end (results_none rfl _ _ _) rfl ?_
   exact⟨rfl,H3.out.1,H3.out.2.1,H3.out.2.2⟩
  ·rw[hc] at hm hgo
   simp only[if_true] at hgo
   simp only[str] at hm
   have Hm:=Lhd hm
   have Hgo:=Lhd hgo
   have Hlt:=Lhd (And.intro hbad hat)
   clear hm hc hP hL hB hfit hk1 hxl hle hat0 hgo hbad hat
   go_wp2_with (fail)
   refine Hm.out.mono ?_
   rintro e3 w3 ⟨rfl,hP,hB⟩
   have hB3:=H.out.2.2.trans' (on3_on2 (gl:=gl) (n0:=n0) hB)
   obtain⟨A,c,rows,D,hL⟩:=H.out.2.1
   have hL3:=hL.on2 hB ⟨Hg.out.1.1,Hg.out.1.2.1,Hg.out.1.2.2.2⟩
   have Hs:=Lhd (Hst.out s'.on w3 A c D rows xs hP hL3 hB3 (by have:=Hle.out;have:=Hmax.out;omega))
   have HB3:=Lhd hB3
   clear hP hB hB3 hL hL3
   go_wp2_with (fail)
   refine Hs.out.mono ?_
   rintro e4 w4 ⟨rfl,hP,hL,hB⟩
   have hup:=up_expr1 W s'.on
   have hm4:W.l.length-atOf w4 gc<W.l.length-atOf wr gc:=by
    rw[atOf_eq hP,Hat0.out]
    have h1:=hup.1
    have h2:s'.on.at_=s'.at_+1:=rfl
    have:=Hlt.out.2
    omega
   have hfit4:Fit W k (expr1 W s'.on).2∧1≤k∧(xs++[(expr1 W s'.on).1]).length≤(expr1 W s'.on).2.at_+1:=by
    have h1:=hup.1
    have h2:s'.on.at_=s'.at_+1:=rfl
    have h3:=Hle.out
    have h4:W.l.length<s'.at_+(k+1):=h3.1.elim (fun e=>by rw[Hlt.out.1] at e;cases e) id
    have h5:=Hlt.out.2
    refine⟨(Fit.on h3.1).ge hup,by omega,?_⟩
    simp
    omega
   have H4:=Lhd (And.intro hP (And.intro hL (HB3.out.trans' hB)))
   have Hm4:=Lhd hm4
   have Hf4:=Lhd hfit4
   clear hP hL hB hup hm4 hfit4
   go_wp2
   go_roundw
   case rel=>exact⟨_,_,k,H4.out.1,H4.out.2.1,H4.out.2.2,Hgo,Hf4⟩
   case measure=>exact Hm4.out
theorem pExprs_any (gp gc gw:Nat) (W:Wds) (s:PSt) (w:World) (h:PAt gp gc gw W s w) :
  Calls Tryz.prog 222 #[.pointer (some ⟨gp,0,none⟩)] w fun e w'=>∃ A n c D,e=.returned (.slice A n c)∧ExsAt (Fr w) D w' A n c (exprsP W s).1∧PAt gp gc gw W (exprsP W s).2 w'∧But (On2 gp gc) w w':=by
 have hz:=And.intro h.lt.1 (And.intro h.lt.2 h.wl)
 obtain⟨w1,Hw1⟩:∃ w1,Hid (w1=(w.alloc (.cells #[.pointer (some ⟨gp,0,none⟩)] 98)).alloc (.cells #[.slice none 0 0] 58)):=⟨_,rfl⟩
 have hb1:Below w.heap.size w w1:=by rw[Hw1.out];exact((Below.refl _ _).alloc (Nat.le_refl _) _).alloc (by simp) _
 have hkb:IsBlk w1 w.heap.size 98 #[.pointer (some ⟨gp,0,none⟩)]:=by rw[Hw1.out];exact(IsBlk.laid _ _ _).alloc _
 have hkl:IsBlk w1 (w.heap.size+1) 58 #[.slice none 0 0]:=by rw[Hw1.out];exact blk_new (by simp)
 have hsz:w1.heap.size=w.heap.size+2:=by rw[Hw1.out];simp
 have hl:=pList_exprs gp gc gw (w.heap.size+1) w.heap.size (w.heap.size+2) W s w1 (h.below hb1) (ExsOwn.nil_ hkl) hkb (by omega) (by omega) (by omega)
 generalize exprsP W s=fin at *
 have c1:w1.cell? ⟨w.heap.size,0,none⟩=some (.pointer (some ⟨gp,0,none⟩)):=by have:=hkb.cell 0;simpa using this
 have l1:=hkb.lt
 have Hl:=Lhd hl
 have Hb1:=Lhd hb1
 have Hsz:=Lhd hsz
 clear hl hb1 hkb hkl hsz h hz
 go_enter Tryz.func222,Tryz.ntmps222
 go_upto_region 2 with (fail)
 rw[← Hw1.out]
 go_wp2_with (fail)
 refine Hl.out.mono ?_
 rintro e w2 ⟨rfl,hP,⟨A,c,rows,D,hL⟩,hB⟩
 have k1:w2.cell? ⟨w.heap.size+1,0,none⟩=some (.slice A fin.1.length c):=by have:=hL.blk.cell 0;simpa using this
 have l2:=hL.blk.lt
 have hx:ExsAt (Fr w) D w2 A fin.1.length c fin.1:=LsAt.conv hL.list (Kept.refl _ _) (fun a _ _ h=>by show w.heap.size≤_;omega) (fun r x _ hx=>ExAt.conv (fun k hk=>by show w.heap.size≤k;omega) (Kept.refl _ _) D (Nat.le_refl _) hx)
 have hBB:But (On2 gp gc) w w2:=(But.of_below Hb1.out).trans hB (fun i hi=>by rcases hi with e|e|e|e;exact .inl (.inl e);exact .inl (.inr e);exact .inr (by omega);exact .inr (by omega))
 have H:=Lhd (And.intro hx (And.intro hP hBB))
 clear hP hL hB hx hBB
 go_wp2
 go_ret
 exact⟨A,_,c,D,rfl,H.out.1,H.out.2.1,H.out.2.2⟩
end Go.Proofs.YtgbgiknfejpcoaaGreat

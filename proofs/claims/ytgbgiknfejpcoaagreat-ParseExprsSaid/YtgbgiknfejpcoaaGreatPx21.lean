/- Parts of this proof, one behind the other: ParN1, ParN2. -/
import Derived.Test.YtgbgiknfejpcoaaGreatPx20
set_option maxRecDepth 1000000
set_option maxHeartbeats 40000000
namespace Go.Proofs.YtgbgiknfejpcoaaGreat
open Go.RowKit Go.Afx
structure ExRow (n0:Nat) (X:Nat→Prop) (w:World) (A:Option Addr) (c:Nat) (rows:List (List Value)) (D:Nat) (xs:List Ex):Prop where
 own:w.ownsRow n0 60 6 (.slice A xs.length c) xs.length rows.flatten
 len:rows.length=xs.length
 at_:∀ (k:Nat) (r:List Value) (x:Ex),rows[k]?=some r→xs[k]?=some x→r.length=6∧ExAt (fun b=>n0≤b∧A.map (·.block)≠some b∧¬ X b) D w r x
 off:∀ b,X b→A.map (·.block)≠some b
theorem ExRow.low {n0:Nat} {X:Nat→Prop} {w:World} {A:Option Addr} {c:Nat} {rows:List (List Value)} {D:Nat} {xs:List Ex} (h:ExRow n0 X w A c rows D xs):∀ k,A.map (·.block)=some k→n0≤k∧k<w.heap.size:=by
 intro k hk
 cases A with
 | none=>cases hk
 | some a =>
  have e:a.block=k:=by simpa using hk
  subst e
  exact h.own.lt a.block rfl
theorem ExRow.wid {n0:Nat} {X:Nat→Prop} {w:World} {A:Option Addr} {c:Nat} {rows:List (List Value)} {D:Nat} {xs:List Ex} (h:ExRow n0 X w A c rows D xs):∀ r∈rows,r.length=6:=by
 intro r hr
 obtain⟨k,hk,rfl⟩:=List.mem_iff_getElem.1 hr
 exact(h.at_ k _ _ (List.getElem?_eq_getElem hk) (List.getElem?_eq_getElem (by have:=h.len;omega))).1
theorem ExRow.keep {n0:Nat} {X X':Nat→Prop} {w w':World} {A:Option Addr} {c:Nat} {rows:List (List Value)} {D:Nat} {xs:List Ex} {S:Nat→Prop} (h:ExRow n0 X w A c rows D xs) (hb:But S w w') (hS:∀ k,S k→k<n0∨X k) (hX:∀ k,X' k→X k∨w.heap.size≤k):ExRow n0 X' w' A c rows D xs:=by
 refine⟨own_but h.own hb (fun g hg hs=>?_),h.len,fun k r x hr hx=>⟨(h.at_ k r x hr hx).1,?_⟩,fun b hb2 e=>?_⟩
 ·obtain⟨A',c',e1,hnc⟩:=ownsRow_form h.own
  have h1:=h.own.lt g hg
  rcases hS g hs with h2|h2
  ·omega
  ·refine h.off g h2 ?_
   cases A with
   | none=>cases hg
   | some a=>exact hg
 ·have h1:=ExAt.turn (F':=fun b=>(n0≤b∧A.map (·.block)≠some b∧¬ X' b)∧¬ X b) (fun k hk hf=>⟨⟨hf.1,hf.2.1,fun hx'=>by rcases hX k hx' with e|e;exact hf.2.2 e;omega⟩,hf.2.2⟩) (Kept.refl _ _) D (Nat.le_refl _) (h.at_ k r x hr hx).2
  exact ExAt.conv (fun _ h=>h.1) (Kept.of_but hb fun b hb2 hs=>by rcases hS b hs with e|e;have:=hb2.1.1;omega;exact hb2.2 e) D (Nat.le_refl _) h1
 ·rcases hX b hb2 with e2|e2
  ·exact h.off b e2 e
  ·have:=(h.low b e).2;omega
structure GrownX (gp gc gw n0:Nat) (X:Nat→Prop) (W:Wds) (s':PSt) (w:World) (A:Option Addr) (xs:List Ex) (x:Ex) (rows:List (List Value)) (row:List Value) (D:Nat) (A6:Option Addr) (c6:Nat) (W6:World):Prop where
 p:PAt gp gc gw W s' W6
 own:W6.ownsRow n0 60 6 (.slice A6 (xs.length+1) c6) (xs.length+1) (rows++[zrow]).flatten
 old:∀ (k:Nat) (r:List Value) (y:Ex),rows[k]?=some r→xs[k]?=some y→r.length=6∧ExAt (fun b=>n0≤b∧A6.map (·.block)≠some b∧¬ X b) D W6 r y
 new_:ExAt (fun b=>n0≤b∧A6.map (·.block)≠some b∧¬ X b) D W6 row x
 off:∀ b,X b→A6.map (·.block)≠some b
 fr:∀ k,A6.map (·.block)=some k→A.map (·.block)=some k∨w.heap.size≤k
 but:But (fun k=>k=gp∨k=gc∨A.map (·.block)=some k) w W6
theorem GrownX.of {gp gc gw n0:Nat} {X:Nat→Prop} {W:Wds} {s':PSt} {w Wc w5 w6:World} {A:Option Addr} {c D D5:Nat} {rows:List (List Value)} {xs:List Ex} {x:Ex} {row:List Value} (h:ExRow n0 X w A c rows D xs) (hg:gp<n0∧gc<n0∧gw<n0) (hn:n0≤w.heap.size) (hX:∀ k,X k→k<w.heap.size) (hB:But (On2 gp gc) w w5) (hx:ExAt (Fr w) D5 w5 row x) (hP:PAt gp gc gw W s' w5)
  (hal:Below w5.heap.size w5 Wc) {A6:Option Addr} {c6:Nat} (hown:w6.ownsRow n0 60 6 (.slice A6 (xs.length+1) c6) (xs.length+1) (rows++[zrow]).flatten)
  (hbut:But (fun k=>A.map (·.block)=some k) Wc w6) (hf:∀ a2,A6=some a2→A=some a2∨Wc.heap.size≤a2.block):GrownX gp gc gw n0 X W s' w A xs x rows row (max D D5) A6 c6 w6:=by
 have h':ExRow n0 X w5 A c rows D xs:=h.keep hB (fun k hk=>by rcases hk with e|e<;>subst e<;>omega) (fun k hk=>.inl hk)
 have hlow:=h.low
 have hs:=hB.size
 have hsz:=hal.size
 have hfr:∀ b,A6.map (·.block)=some b→A.map (·.block)=some b∨w5.heap.size≤b:=fun b h2=>by
  cases A6 with
  | none=>cases h2
  | some a6 =>
   have e:a6.block=b:=by simpa using h2
   rcases hf a6 rfl with e2|e2
   ·exact .inl (by rw[e2];simpa using e)
   ·exact .inr (by omega)
 have hne:∀ b,b<w5.heap.size→A.map (·.block)≠some b→A6.map (·.block)≠some b:=fun b hb h1 h2=>by
  rcases hfr b h2 with e|e
  ·exact h1 e
  ·omega
 refine⟨(hP.below hal).off hbut fun k hk=>?_,hown,fun k r y hr hy=>⟨(h'.at_ k r y hr hy).1,?_⟩,?_,fun b hb=>hne b (by have:=hX b hb;omega) (h.off b hb),fun k hk=>(hfr k hk).imp id (fun e=>by omega),(hB.mono fun i hi=>.inl (by rcases hi with e|e;exact .inl e;exact .inr (.inl e))).trans (But.of_below hal |>.trans hbut (fun i hi=>.inl hi)) fun i hi=>.inl (.inr (.inr hi))⟩
 ·have:=hlow k hk;omega
 ·have h1:=ExAt.turn (F':=fun b=>(n0≤b∧A6.map (·.block)≠some b∧¬ X b)∧A.map (·.block)≠some b) (fun k hk hf=>⟨⟨hf.1,hne k hk hf.2.1,hf.2.2⟩,hf.2.1⟩) (Kept.of_below hal) D (Nat.le_max_left D D5) (h'.at_ k r y hr hy).2
  exact ExAt.conv (fun _ h=>h.1) (Kept.of_but hbut fun b hb hk=>hb.2 hk) _ (Nat.le_refl _) h1
 ·have h1:=ExAt.turn (F':=fun b=>(n0≤b∧A6.map (·.block)≠some b∧¬ X b)∧A.map (·.block)≠some b) (fun k hk (hf:w.heap.size≤k)=>⟨⟨by omega,hne k hk (fun e=>by have:=(hlow k e).2;omega),fun e=>by have:=hX k e;omega⟩,fun e=>by have:=(hlow k e).2;omega⟩) (Kept.of_below hal) D5 (Nat.le_max_right D D5) hx
  exact ExAt.conv (fun _ h=>h.1) (Kept.of_but hbut fun b hb hk=>hb.2 hk) _ (Nat.le_refl _) h1
theorem ExRow.grown {gp gc gw gl n0 j:Nat} {X:Nat→Prop} {W:Wds} {s':PSt} {w w6:World} {A:Option Addr} {xs:List Ex} {x:Ex} {rows:List (List Value)} {D g6 c6:Nat} {A5:Option Addr} {m5 c5:Nat} {T:TypeId} {cs:Array Value}
  (hG:GrownX gp gc gw n0 X W s' w A xs x rows [.int .i64 x.op,.int .i64 x.n,.string x.s,.string x.name,.string x.src,.slice A5 m5 c5] D (some ⟨g6,0,none⟩) c6 w6) (hk:IsBlk w6 gl T cs) (hg:gp<n0∧gc<n0∧gw<n0∧gl≠gp∧gl≠gc∧gl≠gw∧gl<n0) (hw:∀ r∈rows,r.length=6) (hl:rows.length=xs.length) (h6:n0≤g6) :
  PAt gp gc gw W s' ((lay6At w6 g6 (xs.length*6) (.int .i64 x.op) (.int .i64 x.n) (.string x.s) (.string x.name) (.string x.src) (.slice A5 m5 c5)).setCell ⟨gl,j,none⟩ (.slice (some ⟨g6,0,none⟩) (xs.length+1) c6)) ∧
  (∃ rows',ExRow n0 X ((lay6At w6 g6 (xs.length*6) (.int .i64 x.op) (.int .i64 x.n) (.string x.s) (.string x.name) (.string x.src) (.slice A5 m5 c5)).setCell ⟨gl,j,none⟩ (.slice (some ⟨g6,0,none⟩) (xs.length+1) c6)) (some ⟨g6,0,none⟩) c6 rows' D (xs++[x])) ∧
  IsBlk ((lay6At w6 g6 (xs.length*6) (.int .i64 x.op) (.int .i64 x.n) (.string x.s) (.string x.name) (.string x.src) (.slice A5 m5 c5)).setCell ⟨gl,j,none⟩ (.slice (some ⟨g6,0,none⟩) (xs.length+1) c6)) gl T (cs.setIfInBounds j (.slice (some ⟨g6,0,none⟩) (xs.length+1) c6)) ∧
  But (fun k=>k=gp∨k=gc∨k=gl∨A.map (·.block)=some k) w ((lay6At w6 g6 (xs.length*6) (.int .i64 x.op) (.int .i64 x.n) (.string x.s) (.string x.name) (.string x.src) (.slice A5 m5 c5)).setCell ⟨gl,j,none⟩ (.slice (some ⟨g6,0,none⟩) (xs.length+1) c6)):=by
 have hb1:=lay6At_but w6 g6 (xs.length*6) (.int .i64 x.op) (.int .i64 x.n) (.string x.s) (.string x.name) (.string x.src) (.slice A5 m5 c5)
 have ho1:=own_last (.int .i64 x.op) (.int .i64 x.n) (.string x.s) (.string x.name) (.string x.src) (.slice A5 m5 c5) hG.own hw hl
 have hp1:=hG.p.off hb1 (fun k hk=>by omega)
 have hk1:=hk.as_was (hb1.block _ hk.lt (by omega))
 have hold1:∀ (k:Nat) (r:List Value) (y:Ex),rows[k]?=some r→xs[k]?=some y→r.length=6∧ExAt (fun b=>n0≤b∧(some (⟨g6,0,none⟩:Addr)).map (·.block)≠some b∧¬ X b) D (lay6At w6 g6 (xs.length*6) (.int .i64 x.op) (.int .i64 x.n) (.string x.s) (.string x.name) (.string x.src) (.slice A5 m5 c5)) r y:=fun k r y h1 h2=>⟨(hG.old k r y h1 h2).1,(hG.old k r y h1 h2).2.kept (Kept.of_but hb1 fun b hb e=>hb.2.1 (by simp[e]))⟩
 have hnew1:=hG.new_.kept (Kept.of_but hb1 fun b hb e=>hb.2.1 (by simp[e]))
 have hfr:=hG.fr g6 rfl
 generalize lay6At w6 g6 (xs.length*6) (.int .i64 x.op) (.int .i64 x.n) (.string x.s) (.string x.name) (.string x.src) (.slice A5 m5 c5)=w7 at *
 have hb2:=(But.refl (fun k=>k=gl) w7).setCell (p:=⟨gl,j,none⟩) (.inl rfl) (.slice (some ⟨g6,0,none⟩) (xs.length+1) c6)
 have hk2:=hk1.stored j (.slice (some ⟨g6,0,none⟩) (xs.length+1) c6)
 have hlen:(xs++[x]).length=xs.length+1:=by simp
 refine⟨hp1.off hb2 (fun k hk=>by omega),⟨rows++[[.int .i64 x.op,.int .i64 x.n,.string x.s,.string x.name,.string x.src,.slice A5 m5 c5]],⟨by rw[hlen];exact own_but ho1 hb2 (fun g hg3 e=>by have:=(ho1.lt g hg3).1;omega),by simp[hl],fun k r y hr hy=>?_,hG.off⟩⟩,hk2,?_⟩
 ·rcases Nat.lt_trichotomy k xs.length with h|h|h
  ·rw[List.getElem?_append_left (by omega)] at hr hy
   obtain⟨h1,h2⟩:=hold1 k r y hr hy
   exact⟨h1,h2.kept (Kept.of_but hb2 fun b hb e=>by have:=hb.1;omega)⟩
  ·subst h
   rw[List.getElem?_append_right (by omega)] at hr hy
   rw[hl] at hr
   simp at hr hy
   subst hr hy
   exact⟨rfl,hnew1.kept (Kept.of_but hb2 fun b hb e=>by have:=hb.1;omega)⟩
  ·rw[List.getElem?_eq_none (by simp;omega)] at hy
   cases hy
 ·exact((hG.but.mono (fun i hi=>.inl (by rcases hi with e|e|e;exact .inl e;exact .inr (.inl e);exact .inr (.inr (.inr e))))).trans hb1 (fun i hi=>by subst hi;rcases hfr with e|e;exact .inl (.inr (.inr (.inr e)));exact .inr e)).trans hb2 (fun i hi=>.inl (.inr (.inr (.inl hi))))
theorem lay_swapJ {w:World} {g6 gl o j:Nat} {v0 v1 v2 v3 v4 v5 u:Value} (h:g6≠gl) :
  (((((((w.setCell ⟨gl,j,none⟩ u).setCell ⟨g6,o,none⟩ v0).setCell ⟨g6,o+1,none⟩ v1).setCell ⟨g6,o+2,none⟩ v2).setCell ⟨g6,o+3,none⟩ v3).setCell ⟨g6,o+4,none⟩ v4).setCell ⟨g6,o+5,none⟩ v5) =
  (((((((w.setCell ⟨g6,o,none⟩ v0).setCell ⟨g6,o+1,none⟩ v1).setCell ⟨g6,o+2,none⟩ v2).setCell ⟨g6,o+3,none⟩ v3).setCell ⟨g6,o+4,none⟩ v4).setCell ⟨g6,o+5,none⟩ v5).setCell ⟨gl,j,none⟩ u):=by
 have k:∀ (W:World) (i:Nat) (v:Value),(W.setCell ⟨gl,j,none⟩ u).setCell ⟨g6,i,none⟩ v=(W.setCell ⟨g6,i,none⟩ v).setCell ⟨gl,j,none⟩ u:=fun W i v=>set_swap (fun e=>h e.symm)
 rw[k,k,k,k,k,k]
theorem tyTxt:ElemTy Tryz.prog 53 9 1 16 (.string ByteArray.empty):=⟨Tryz.underlying53,by kernel_rfl,rfl,by decide⟩
abbrev txrow (x:ByteArray):List Value:=[.string x]
structure SetOwn (n0 gl:Nat) (w:World) (nm sc:ByteArray) (Ac:Option Addr) (cc:Nat) (A:Option Addr) (c:Nat) (rows:List (List Value)) (D:Nat) (ns:List ByteArray) (xs:List Ex):Prop where
 blk:IsBlk w gl 73 #[.int .i64 4,.string nm,.string sc,.int .i64 0,.slice Ac ns.length cc,.slice A xs.length c,.slice none 0 0,.slice none 0 0]
 ownc:w.ownsRow n0 9 1 (.slice Ac ns.length cc) ns.length (ns.map txrow).flatten
 okc:∀ x∈ns,okS x
 row:ExRow n0 (fun k=>Ac.map (·.block)=some k) w A c rows D xs
theorem SetOwn.lowc {n0 gl:Nat} {w:World} {nm sc:ByteArray} {Ac:Option Addr} {cc:Nat} {A:Option Addr} {c:Nat} {rows:List (List Value)} {D:Nat} {ns:List ByteArray} {xs:List Ex} (h:SetOwn n0 gl w nm sc Ac cc A c rows D ns xs):∀ k,Ac.map (·.block)=some k→n0≤k∧k<w.heap.size:=by
 intro k hk
 cases Ac with
 | none=>cases hk
 | some a =>
  have e:a.block=k:=by simpa using hk
  subst e
  exact h.ownc.lt a.block rfl
theorem SetOwn.on2 {gp gc n0 gl:Nat} {w w5:World} {nm sc:ByteArray} {Ac:Option Addr} {cc:Nat} {A:Option Addr} {c:Nat} {rows:List (List Value)} {D:Nat} {ns:List ByteArray} {xs:List Ex} (h:SetOwn n0 gl w nm sc Ac cc A c rows D ns xs) (hb:But (On2 gp gc) w w5) (hg:gp<n0∧gc<n0∧gl≠gp∧gl≠gc):SetOwn n0 gl w5 nm sc Ac cc A c rows D ns xs :=
 ⟨h.blk.as_was (hb.block _ h.blk.lt (by rintro(e|e);exact hg.2.2.1 e;exact hg.2.2.2 e)),own_but h.ownc hb (fun g hg2 hs=>by have:=(h.ownc.lt g hg2).1;rcases hs with e|e<;>omega),h.okc,h.row.keep hb (fun k hk=>by rcases hk with e|e<;>subst e<;>omega) (fun k hk=>.inl hk)⟩
theorem SetOwn.named {n0 gl:Nat} {w Wc w6:World} {nm sc:ByteArray} {Ac:Option Addr} {cc:Nat} {A:Option Addr} {c:Nat} {rows:List (List Value)} {D:Nat} {ns:List ByteArray} {xs:List Ex} {x:ByteArray} (h:SetOwn n0 gl w nm sc Ac cc A c rows D ns xs) (hx:okS x) (hgl:gl<n0) (hal:Below w.heap.size w Wc) {A6:Option Addr} {c6:Nat}
  (hown:w6.ownsRow n0 9 1 (.slice A6 (ns.length+1) c6) (ns.length+1) (ns.map txrow++[txrow x]).flatten) (hbut:But (fun k=>Ac.map (·.block)=some k) Wc w6) (hf:∀ a2,A6=some a2→Ac=some a2∨Wc.heap.size≤a2.block) :
  ∃ a6,A6=some a6∧n0≤a6.block∧IsBlk w6 gl 73 #[.int .i64 4,.string nm,.string sc,.int .i64 0,.slice Ac ns.length cc,.slice A xs.length c,.slice none 0 0,.slice none 0 0] ∧
  SetOwn n0 gl (w6.setCell ⟨gl,4,none⟩ (.slice A6 (ns.length+1) c6)) nm sc A6 c6 A c rows D (ns++[x]) xs:=by
 have hlow:=h.lowc
 have hsz:=hal.size
 have hk6:=(h.blk.as_was (hal.block _ h.blk.lt)).as_was (hbut.block _ (h.blk.as_was (hal.block _ h.blk.lt)).lt (fun e=>by have:=hlow gl e;omega))
 have hb2:=(But.refl (fun k=>k=gl) w6).setCell (p:=⟨gl,4,none⟩) (.inl rfl) (.slice A6 (ns.length+1) c6)
 obtain⟨g,cap,hv,hb,hg⟩:=hown.form (by omega)
 simp only[Value.slice.injEq] at hv
 obtain⟨rfl,_,_⟩:=hv
 have hr:=h.row.keep (S:=fun _=>False) (X':=fun k=>Ac.map (·.block)=some k) (But.of_below hal) (fun _ h=>h.elim) (fun k hk=>.inl hk)
 have hr2:=hr.keep (X':=fun k=>(some (⟨g,0,none⟩:Addr)).map (·.block)=some k) hbut (fun k hk=>.inr hk) (fun k hk=>by
  have e:g=k:=by simpa using hk
  subst e
  rcases hf _ rfl with e2|e2
  ·exact .inl (by rw[e2];rfl)
  ·exact .inr e2)
 have hr3:=hr2.keep (X':=fun k=>(some (⟨g,0,none⟩:Addr)).map (·.block)=some k) hb2 (fun k hk=>by subst hk;exact .inl hgl) (fun k hk=>.inl hk)
 refine⟨_,rfl,hb,hk6,?_,?_,?_,hr3⟩
 ·have:=hk6.stored 4 (.slice (some ⟨g,0,none⟩) (ns.length+1) c6)
  simpa using this
 ·have e:(ns++[x]).length=ns.length+1:=by simp
  have e2:(ns++[x]).map txrow=ns.map txrow++[txrow x]:=by simp
  rw[e,e2]
  exact own_but hown hb2 (fun g2 hg2 e2=>by have:=(hown.lt g2 hg2).1;omega)
 ·intro y hy
  rcases List.mem_append.1 hy with hy|hy
  ·exact h.okc y hy
  ·simp only[List.mem_singleton] at hy;subst hy;exact hx
theorem setP_eq (W:Wds) (s:PSt):setP W s=(((nameP W s).1,(expr1 W (mustP W [str [61]] (nameP W s).2)).1),(expr1 W (mustP W [str [61]] (nameP W s).2)).2):=rfl
structure Naming (gp gc gw gl gb n0:Nat) (W:Wds) (s':PSt) (w:World) (nm sc:ByteArray) (A:Option Addr) (c:Nat) (rows:List (List Value)) (D:Nat) (ns:List ByteArray) (xs:List Ex) (wr:World):Prop where
 p:PAt gp gc gw W s' wr
 o:∃ Ac cc,SetOwn n0 gl wr nm sc Ac cc A c rows D ns xs
 b:But (On3 gp gc gl n0) w wr
 k:IsBlk wr gb 98 #[.pointer (some ⟨gp,0,none⟩)]
theorem Naming.of {gp gc gw gl gb n0:Nat} {W:Wds} {s':PSt} {w w5 Wc w6:World} {nm sc a:ByteArray} {Ac:Option Addr} {cc:Nat} {A:Option Addr} {c:Nat} {rows:List (List Value)} {D:Nat} {ns:List ByteArray} {xs:List Ex} {A6:Option Addr} {c6:Nat}
  (hl:SetOwn n0 gl w nm sc Ac cc A c rows D ns xs) (hb:IsBlk w gb 98 #[.pointer (some ⟨gp,0,none⟩)]) (hg:gp<n0∧gc<n0∧gw<n0∧gl≠gp∧gl≠gc) (hg2:gl≠gw∧gl<n0∧gb<n0∧gb≠gp∧gb≠gc∧gb≠gl) (hok:okS a)
  (hB:But (On2 gp gc) w.drew w5) (hP:PAt gp gc gw W s' w5) (hal:Below w5.heap.size w5 Wc) (hown:w6.ownsRow n0 9 1 (.slice A6 (ns.length+1) c6) (ns.length+1) (ns.map txrow++[txrow a]).flatten) (hbut:But (fun k=>Ac.map (·.block)=some k) Wc w6) (hf:∀ a2,A6=some a2→Ac=some a2∨Wc.heap.size≤a2.block) :
  (IsBlk w6 gl 73 #[.int .i64 4,.string nm,.string sc,.int .i64 0,.slice Ac ns.length cc,.slice A xs.length c,.slice none 0 0,.slice none 0 0]∧IsBlk w6 gb 98 #[.pointer (some ⟨gp,0,none⟩)]) ∧
  Naming gp gc gw gl gb n0 W s' w nm sc A c rows D (ns++[a]) xs (w6.setCell ⟨gl,4,none⟩ (.slice A6 (ns.length+1) c6)):=by
 have hld:SetOwn n0 gl w5 nm sc Ac cc A c rows D ns xs:=(hl.on2 (gp:=gp) (gc:=gc) ((But.refl _ w).drew) ⟨hg.1,hg.2.1,hg.2.2.2⟩).on2 hB ⟨hg.1,hg.2.1,hg.2.2.2⟩
 have hb5:IsBlk w5 gb 98 #[.pointer (some ⟨gp,0,none⟩)]:=IsBlk.as_was hb (hB.block gb (by have:=hb.lt;simpa using this) (by rintro(e|e);exact hg2.2.2.2.1 e;exact hg2.2.2.2.2.1 e))
 have hlow:=hld.lowc
 obtain⟨a6,rfl,r1,hk6,hS6⟩:=hld.named hok hg2.2.1 hal hown hbut hf
 have hb6:=(hb5.as_was (hal.block _ hb5.lt)).as_was (hbut.block _ (hb5.as_was (hal.block _ hb5.lt)).lt (fun e=>by have:=hlow _ e;omega))
 have hbl:=(But.refl (fun k=>k=gl) w6).setCell (p:=⟨gl,4,none⟩) (.inl rfl) (.slice (some a6) (ns.length+1) c6)
 refine⟨⟨hk6,hb6⟩,((hP.below hal).off hbut (fun k hk=>by have:=hlow k hk;omega)).off hbl (fun k hk=>by omega),⟨_,_,hS6⟩,?_,hb6.as_was (hbl.block _ hb6.lt (by have:=hg2.2.2.2.2.2;omega))⟩
 have h1:But (On3 gp gc gl n0) w w5:=((But.refl (On3 gp gc gl n0) w).drew).trans' (on3_on2 hB)
 exact((h1.trans' (But.of_below hal)).trans hbut (fun i hi=>.inl (.inr (.inr (.inr (hlow i hi).1))))).trans hbl (fun i hi=>.inl (.inr (.inr (.inl hi))))
theorem SetOwn.grown {gp gc gw gl gb n0:Nat} {W:Wds} {s':PSt} {w w5 Wc w6:World} {nm sc:ByteArray} {Ac:Option Addr} {cc:Nat} {A:Option Addr} {c:Nat} {rows:List (List Value)} {D D5:Nat} {ns:List ByteArray} {xs:List Ex} {x:Ex} {A5:Option Addr} {m5 c5 g6 c6:Nat}
  (hl:SetOwn n0 gl w nm sc Ac cc A c rows D ns xs) (hg:gp<n0∧gc<n0∧gw<n0∧gl≠gp∧gl≠gc) (hg2:gl≠gw∧gl<n0∧gb<n0∧gb≠gp∧gb≠gc∧gb≠gl) (hn:n0≤w.heap.size)
  (hB:But (On2 gp gc) w.drew w5) (hx:ExAt (Fr w.drew) D5 w5 [.int .i64 x.op,.int .i64 x.n,.string x.s,.string x.name,.string x.src,.slice A5 m5 c5] x) (hP:PAt gp gc gw W s' w5) (hal:Below w5.heap.size w5 Wc) (hown:w6.ownsRow n0 60 6 (.slice (some ⟨g6,0,none⟩) (xs.length+1) c6) (xs.length+1) (rows++[zrow]).flatten) (hbut:But (fun k=>A.map (·.block)=some k) Wc w6) (hf:∀ a2,(some ⟨g6,0,none⟩:Option Addr)=some a2→A=some a2∨Wc.heap.size≤a2.block) (h6:n0≤g6) :
  PAt gp gc gw W s' ((lay6At w6 g6 (xs.length*6) (.int .i64 x.op) (.int .i64 x.n) (.string x.s) (.string x.name) (.string x.src) (.slice A5 m5 c5)).setCell ⟨gl,5,none⟩ (.slice (some ⟨g6,0,none⟩) (xs.length+1) c6)) ∧
  (∃ Ac' cc' A' c' rows' D',SetOwn n0 gl ((lay6At w6 g6 (xs.length*6) (.int .i64 x.op) (.int .i64 x.n) (.string x.s) (.string x.name) (.string x.src) (.slice A5 m5 c5)).setCell ⟨gl,5,none⟩ (.slice (some ⟨g6,0,none⟩) (xs.length+1) c6)) nm sc Ac' cc' A' c' rows' D' ns (xs++[x])) ∧
  But (On3 gp gc gl n0) w ((lay6At w6 g6 (xs.length*6) (.int .i64 x.op) (.int .i64 x.n) (.string x.s) (.string x.name) (.string x.src) (.slice A5 m5 c5)).setCell ⟨gl,5,none⟩ (.slice (some ⟨g6,0,none⟩) (xs.length+1) c6)):=by
 have hld:SetOwn n0 gl w.drew nm sc Ac cc A c rows D ns xs:=hl.on2 (gp:=gp) (gc:=gc) ((But.refl _ w).drew) ⟨hg.1,hg.2.1,hg.2.2.2⟩
 have hlowA:=hld.row.low
 have hlowc:=hld.lowc
 have hn2:n0≤w.drew.heap.size:=hn
 have hl5:=hld.on2 hB ⟨hg.1,hg.2.1,hg.2.2.2⟩
 have hk5:=hl5.blk
 have hk6:=(hk5.as_was (hal.block _ hk5.lt)).as_was (hbut.block _ (hk5.as_was (hal.block _ hk5.lt)).lt (fun e=>by have:=hlowA _ e;omega))
 have hG:=GrownX.of hld.row ⟨hg.1,hg.2.1,hg.2.2.1⟩ hn2 (fun k hk=>(hlowc k hk).2) hB hx hP hal hown hbut hf
 have hE:=ExRow.grown (j:=5) hG hk6 ⟨hg.1,hg.2.1,hg.2.2.1,hg.2.2.2.1,hg.2.2.2.2,hg2.1,hg2.2.1⟩ hld.row.wid hld.row.len h6
 obtain⟨hp,⟨rows',hr⟩,hk,hb⟩:=hE
 have hoc:=own_but hld.ownc hb (fun g hg3 e=>by
  have h1:=hld.ownc.lt g hg3
  have h2:Ac.map (·.block)=some g:=by
   cases Ac with
   | none=>cases hg3
   | some a=>exact hg3
  rcases e with e|e|e|e
  ·omega
  ·omega
  ·omega
  ·exact hld.row.off g h2 e)
 refine⟨hp,⟨Ac,cc,_,_,rows',_,⟨?_,hoc,hld.okc,hr⟩⟩,((But.refl (On3 gp gc gl n0) w).drew).trans hb (fun i hi=>.inl (by rcases hi with e|e|e|e;exact .inl e;exact .inr (.inl e);exact .inr (.inr (.inl e));exact .inr (.inr (.inr (hlowA i e).1))))⟩
 have e:(xs++[x]).length=xs.length+1:=by simp
 rw[e]
 simpa using hk
theorem pSetStep (gp gc gw gl gb n0:Nat) (W:Wds) (s:PSt) (w:World) (nm sc:ByteArray) (Ac:Option Addr) (cc:Nat) (A:Option Addr) (c D:Nat) (rows:List (List Value)) (ns:List ByteArray) (xs:List Ex) (h:PAt gp gc gw W s w) (hl:SetOwn n0 gl w nm sc Ac cc A c rows D ns xs) (hb:IsBlk w gb 98 #[.pointer (some ⟨gp,0,none⟩)])
  (hg:gp<n0∧gc<n0∧gw<n0∧gl≠gp∧gl≠gc) (hg2:gl≠gw∧gl<n0∧gb<n0∧gb≠gp∧gb≠gc∧gb≠gl) (hn:n0≤w.heap.size) (hln:xs.length≤1000000000002∧ns.length≤1000000000002) :
  Calls Tryz.prog 232 #[.pointer (some ⟨gl,0,none⟩),.pointer (some ⟨gb,0,none⟩)] w fun e w'=>e=.returned (.tuple #[])∧PAt gp gc gw W (setP W s).2 w'∧(∃ Ac' cc' A' c' rows' D',SetOwn n0 gl w' nm sc Ac' cc' A' c' rows' D' (ns++[(setP W s).1.1]) (xs++[(setP W s).1.2]))∧But (On3 gp gc gl n0) w w':=by
 have hd:PAt gp gc gw W s w.drew:=h.below (Below.refl _ _).drew
 have hld:SetOwn n0 gl w.drew nm sc Ac cc A c rows D ns xs:=hl.on2 (gp:=gp) (gc:=gc) ((But.refl _ w).drew) ⟨hg.1,hg.2.1,hg.2.2.2⟩
 have hbd:IsBlk w.drew gb 98 #[.pointer (some ⟨gp,0,none⟩)]:=hb
 obtain⟨b0,b1,b2,b3,b4,b5,b6,b7,bl⟩:=cells8 hl.blk
 have c2:w.cell? ⟨gb,0,none⟩=some (.pointer (some ⟨gp,0,none⟩)):=by have:=hb.cell 0;simpa using this
 have l2:=hb.lt
 have hok:=name_ok h s
 have Hnm:=Lhd (fun w2 (hW:PAt gp gc gw W s w2)=>pName_any gp gc gw W s w2 hW)
 have hfin:=setP_eq W s
 generalize setP W s=fin at *
 generalize nameP W s=a at *
 obtain⟨na,sa⟩:=a
 have Hnm:Hid (∀ w2,PAt gp gc gw W s w2→Calls Tryz.prog 121 #[.pointer (some ⟨gp,0,none⟩)] w2 fun e w'=>e=.returned (.string na)∧PAt gp gc gw W sa w'∧But (On2 gp gc) w2 w'):=Lhd Hnm.out
 have hmu:=fun g w2 (hW:PAt gp gc gw W sa w2) (hg:g=w2.heap.size)=>pMust_any gp gc gw g W sa (str [61]) w2 hW hg
 simp only at hfin hok
 generalize mustP W [str [61]] sa=sm at *
 simp only[str] at hmu
 have hex:=fun w2 (hW:PAt gp gc gw W sm w2)=>pExpr1_any gp gc gw W sm w2 hW
 generalize expr1 W sm=b at *
 obtain⟨x,sx⟩:=b
 simp only at hfin
 have Hex:Hid (∀ w2,PAt gp gc gw W sm w2→Calls Tryz.prog 34 #[.pointer (some ⟨gp,0,none⟩)] w2 (GivesE gp gc gw W sx x w2)):=Lhd hex
 have Hmu:=Lhd hmu
 have Hfin:=Lhd hfin
 have Hd:=Lhd hd
 have Hl:=Lhd hl
 have Hld:=Lhd hld
 have Hb:=Lhd hb
 have Hg:=Lhd hg
 have Hg2:=Lhd hg2
 have Hn:=Lhd hn
 have Hln:=Lhd hln
 have Hok:=Lhd hok
 have hcl:∀ W2,But (On2 gp gc) w.drew W2→W2.cell? ⟨gl,4,none⟩=some (.slice Ac ns.length cc)∧W2.cell? ⟨gb,0,none⟩=some (.pointer (some ⟨gp,0,none⟩))∧gl<W2.heap.size∧gb<W2.heap.size∧(∀ i,W2.frozen? ⟨gl,i,none⟩=false):=fun W2 hW=>by
  have k1:=hld.blk.as_was (hW.block _ hld.blk.lt (by rintro(e|e);exact hg.2.2.2.1 e;exact hg.2.2.2.2 e))
  have k2:=hbd.as_was (hW.block _ hbd.lt (by rintro(e|e);exact hg2.2.2.2.1 e;exact hg2.2.2.2.2.1 e))
  obtain⟨a0,a1,a2,a3,a4,a5,a6,a7,al⟩:=cells8 k1
  have e2:=k2.cell 0
  simp at e2
  exact⟨a4,e2,k1.lt,k2.lt,k1.frozen⟩
 have Hcl:=Lhd hcl
 have hz1:∀ r∈[txrow na],r.length=1:=by simp
 have hz2:∀ r∈[txrow na],∀ u∈r,u.oneCell'=true:=by
  intro r hr u hu
  simp only[List.mem_singleton] at hr
  subst hr
  simp only[List.mem_singleton] at hu
  subst hu
  rfl
 have Hz1:=Lhd hz1
 have Hz2:=Lhd hz2
 have hmx:ns.length+1≤maxLen:=by have:=hln.2;unfold maxLen;omega
 have hby:(ns.length+1)*16≤140737488355328:=by have:=hln.2;omega
 have Hmx:=Lhd (And.intro hmx hby)
 clear hd hld hbd hg hg2 hn hln h hl hb hcl hz1 hz2 hmx hby hok hmu hex hfin
 go_enter Tryz.func232,Tryz.ntmps232
 go_upto_region 0 with (fail)
 go_cut [] (fun wr=>Naming gp gc gw gl gb n0 W sa w nm sc A c rows D (ns++[na]) xs wr)
 case first =>
  go_region_law (first
   | (go_simp;go_at_call 121;refine(Hnm.out _ Hd.out).mono ?_;rintro e5 w5 ⟨rfl,hP5,hB5⟩;obtain⟨t1,t2,t3,t4,t5⟩:=Hcl.out _ hB5;have hO5:=own_below (own_but Hld.out.ownc hB5 (fun g hg e=>by (have h1:=(Hld.out.ownc.lt g hg).1;have:=Hg.out;rcases e with e|e<;>omega))) ((Below.refl w5.heap.size w5).alloc (Nat.le_refl _) (.cells (txrow na).toArray 9));have hal5:=(Below.refl w5.heap.size w5).alloc (Nat.le_refl _) (.cells (txrow na).toArray 9))
   | (refine stepAppP (base:=n0) (xs:=ns.map txrow) (news:=[txrow na]) rfl rfl tyTxt rfl (by with_reducible exact hO5) rfl (by exact RowsAt.lit' _ _ 1 rfl rfl Hz1.out rfl (by unfold maxLen;omega)) Hz1.out Hz2.out Hmx.out.1 Hmx.out.2 (by (have:=Hn.out;have h1:=hB5.size;simp only[World.drew] at h1;simp;omega)) ?_;intro A6 c6 w6 hown6 hbut6 hf6;obtain⟨⟨hk6,hb6⟩,hN6⟩:=Naming.of Hl.out Hb.out Hg.out Hg2.out Hok.out hB5 hP5 hal5 hown6 hbut6 hf6;obtain⟨u0,u1,u2,u3,u4,u5,u6,u7,ul⟩:=cells8 hk6;have f6:=hk6.frozen))
  all_goals
   go_wp2
   go_meet
   exact hN6
 case rest =>
  obtain⟨hP2,⟨Ac2,cc2,hS2⟩,hB2,hk2⟩:=hcut
  have d2:=hk2.cell 0
  have d3:=hk2.lt
  simp only[List.getElem?_toArray,List.getElem?_cons_zero] at d2
  have H2:=Lhd (And.intro hP2 (And.intro hS2 (And.intro hB2 hk2)))
  clear hP2 hS2 hB2 hk2
  go_wp2_with (fail)
  refine(Hmu.out _ _ H2.out.1 rfl).mono ?_
  rintro e w4 ⟨rfl,hP4,hB4⟩
  have hl4:=H2.out.2.1.on2 hB4 ⟨Hg.out.1,Hg.out.2.1,Hg.out.2.2.2⟩
  have hb4:=H2.out.2.2.2.as_was (hB4.block _ H2.out.2.2.2.lt (by rintro(e|e);exact Hg2.out.2.2.2.1 e;exact Hg2.out.2.2.2.2.1 e))
  have hBB:=H2.out.2.2.1.trans' (on3_on2 (gl:=gl) (n0:=n0) hB4)
  have hn4:n0≤w4.heap.size:=Nat.le_trans Hn.out hBB.size
  have hd4:PAt gp gc gw W sm w4.drew:=hP4.below (Below.refl _ _).drew
  have hld4:SetOwn n0 gl w4.drew nm sc Ac2 cc2 A c rows D (ns++[na]) xs:=hl4.on2 (gp:=gp) (gc:=gc) ((But.refl _ w4).drew) ⟨Hg.out.1,Hg.out.2.1,Hg.out.2.2.2⟩
  have hbd4:IsBlk w4.drew gb 98 #[.pointer (some ⟨gp,0,none⟩)]:=hb4
  clear b0 b1 b2 b3 b4 b5 b6 b7 bl c2 l2 d2 d3
  obtain⟨b0,b1,b2,b3,b4,b5,b6,b7,bl⟩:=cells8 hl4.blk
  have c2:w4.cell? ⟨gb,0,none⟩=some (.pointer (some ⟨gp,0,none⟩)):=by have:=hb4.cell 0;simpa using this
  have l2:=hb4.lt
  have hal:=(Below.refl w4.drew.heap.size w4.drew).alloc (Nat.le_refl _) (.cells zrow.toArray 60)
  have Hd4:=Lhd hd4
  have Hl4:=Lhd hl4
  have Hld4:=Lhd hld4
  have Hbd4:=Lhd hbd4
  have Hal:=Lhd hal
  have Hn4:=Lhd hn4
  have HBB:=Lhd hBB
  clear hd4 hl4 hld4 hbd4 hb4 hal hn4 hBB hB4 hP4
  have hcl:∀ W2,But (On2 gp gc) w4.drew W2→W2.cell? ⟨gl,5,none⟩=some (.slice A xs.length c)∧W2.cell? ⟨gb,0,none⟩=some (.pointer (some ⟨gp,0,none⟩))∧gl<W2.heap.size∧gb<W2.heap.size∧(∀ i,W2.frozen? ⟨gl,i,none⟩=false):=fun W2 hW=>by
   have k1:=Hld4.out.blk.as_was (hW.block _ Hld4.out.blk.lt (by rintro(e|e);exact Hg.out.2.2.2.1 e;exact Hg.out.2.2.2.2 e))
   have k2:=Hbd4.out.as_was (hW.block _ Hbd4.out.lt (by rintro(e|e);exact Hg2.out.2.2.2.1 e;exact Hg2.out.2.2.2.2.1 e))
   obtain⟨a0,a1,a2,a3,a4,a5,a6,a7,al⟩:=cells8 k1
   have e2:=k2.cell 0
   simp at e2
   exact⟨a5,e2,k1.lt,k2.lt,k1.frozen⟩
  have Hcl4:=Lhd hcl
  have hwid:=Hld4.out.row.wid
  have hrl:=Hld4.out.row.len
  have Hwid:=Lhd (And.intro hwid hrl)
  clear hwid hrl
  have hd1:PAt gp gc gw W sm (w4.drew.alloc (.cells zrow.toArray 60)):=Hd4.out.below Hal.out
  have Hd1:=Lhd hd1
  have hn0:RowsAt (w4.drew.alloc (.cells zrow.toArray 60)) 6 (some ⟨w4.heap.size,0,none⟩) 1 1 [zrow]:=RowsAt.lit' _ _ 1 rfl rfl (by simp) rfl (by unfold maxLen;omega)
  have HN0:=Lhd hn0
  have hz1:∀ r∈[zrow],r.length=6:=by simp
  have hz2:∀ r∈[zrow],∀ u∈r,u.oneCell'=true:=by
   intro r hr u hu
   simp only[List.mem_singleton] at hr
   subst hr
   simp only[List.mem_cons,List.not_mem_nil,or_false] at hu
   rcases hu with rfl|rfl|rfl|rfl|rfl|rfl<;>rfl
  have Hz3:=Lhd hz1
  have Hz4:=Lhd hz2
  have hmx:xs.length+1≤maxLen:=by have:=Hln.out.1;unfold maxLen;omega
  have hby:(xs.length+1)*88≤140737488355328:=by have:=Hln.out.1;omega
  have Hmx4:=Lhd (And.intro hmx hby)
  have hgz:gp<w4.heap.size∧gc<w4.heap.size:=by have:=Hg.out;have:=Hn4.out;omega
  have Hgz:=Lhd hgz
  have hbx:∀ w5 Wc w6,But (On2 gp gc) w4.drew w5→Below w5.heap.size w5 Wc→But (fun k=>A.map (·.block)=some k) Wc w6→w6.cell? ⟨gl,5,none⟩=some (.slice A xs.length c)∧w6.cell? ⟨gb,0,none⟩=some (.pointer (some ⟨gp,0,none⟩))∧gl<w6.heap.size∧gb<w6.heap.size∧(∀ i,w6.frozen? ⟨gl,i,none⟩=false):=fun w5 Wc w6 hB hal hbut=>by
   have hlow:=Hld4.out.row.low
   have k1:=Hld4.out.blk.as_was (hB.block _ Hld4.out.blk.lt (by rintro(e|e);exact Hg.out.2.2.2.1 e;exact Hg.out.2.2.2.2 e))
   have k2:=Hbd4.out.as_was (hB.block _ Hbd4.out.lt (by rintro(e|e);exact Hg2.out.2.2.2.1 e;exact Hg2.out.2.2.2.2.1 e))
   have k3:=k1.as_was (hal.block _ k1.lt)
   have k4:=k2.as_was (hal.block _ k2.lt)
   have k5:=k3.as_was (hbut.block _ k3.lt (fun e=>by have:=hlow _ e;have:=Hg2.out;omega))
   have k6:=k4.as_was (hbut.block _ k4.lt (fun e=>by have:=hlow _ e;have:=Hg2.out;omega))
   obtain⟨a0,a1,a2,a3,a4,a5,a6,a7,al⟩:=cells8 k5
   have e2:=k6.cell 0
   simp at e2
   exact⟨a5,e2,k5.lt,k6.lt,k5.frozen⟩
  have Hbx2:=Lhd hbx
  clear hbx
  have hni:(xs.length:Int)<(xs.length:Int)+1:=by omega
  have hng:gl≠gb:=fun e=>Hg2.out.2.2.2.2.2 e.symm
  have hend:∀ (w5 Wc w6:World) (D5:Nat) (A5:Option Addr) (m5 c5 g6 c6:Nat) (a:Act),But (On2 gp gc) w4.drew w5→ExAt (Fr w4.drew) D5 w5 [.int .i64 x.op,.int .i64 x.n,.string x.s,.string x.name,.string x.src,.slice A5 m5 c5] x→PAt gp gc gw W sx w5→Below w5.heap.size w5 Wc →
    w6.ownsRow n0 60 6 (.slice (some ⟨g6,0,none⟩) (xs.length+1) c6) (xs.length+1) (rows++[zrow]).flatten→But (fun k=>A.map (·.block)=some k) Wc w6→(∀ a2,(some ⟨g6,0,none⟩:Option Addr)=some a2→A=some a2∨Wc.heap.size≤a2.block)→n0≤g6→a.defers=[] →
    bodyPost Tryz.prog Tryz.f232 (fun e w'=>e=.returned (.tuple #[])∧PAt gp gc gw W fin.2 w'∧(∃ Ac' cc' A' c' rows' D',SetOwn n0 gl w' nm sc Ac' cc' A' c' rows' D' (ns++[fin.1.1]) (xs++[fin.1.2]))∧But (On3 gp gc gl n0) w w') Exit.normal a (((((((w6.setCell ⟨g6,xs.length*6,none⟩ (.int .i64 x.op)).setCell ⟨g6,xs.length*6+1,none⟩ (.int .i64 x.n)).setCell ⟨g6,xs.length*6+2,none⟩ (.string x.s)).setCell ⟨g6,xs.length*6+3,none⟩ (.string x.name)).setCell ⟨g6,xs.length*6+4,none⟩ (.string x.src)).setCell ⟨g6,xs.length*6+5,none⟩ (.slice A5 m5 c5)).setCell ⟨gl,5,none⟩ (.slice (some ⟨g6,0,none⟩) (xs.length+1) c6)):=by
   intro w5 Wc w6 D5 A5 m5 c5 g6 c6 a hB5 hx5 hP5 hal5 hown6 hbut6 hf6 r1 hdef
   have hend:=SetOwn.grown Hl4.out Hg.out Hg2.out Hn4.out hB5 hx5 hP5 hal5 hown6 hbut6 hf6 r1
   rw[lay6At_eq]
   refine bodyPost_end (results_none rfl _ _ _) hdef ?_
   rw[Hfin.out]
   exact⟨rfl,hend.1,hend.2.1,HBB.out.trans' hend.2.2⟩
  have Hend:=Lhd hend
  clear hend
  clear hcl hd1 hn0 hz1 hz2 hmx hby hgz
  go_upto_region 2 with (fail)
  go_region_law (first
   | (go_simp;go_at_call 34;refine(Hex.out _ (by first|with_reducible exact Hd4.out|exact Hd1.out)).mono ?_;rintro e5 w5 ⟨row5,D5,rfl,hx5,hP5,hB5⟩;have hB5':But (On2 gp gc) w4.drew w5:=(by first|with_reducible exact hB5|exact(But.of_below Hal.out).trans' hB5);have hx5':ExAt (Fr w4.drew) D5 w5 row5 x:=(by first|with_reducible exact hx5|exact ExAt.conv (fun k hk=>Nat.le_trans Hal.out.size hk) (Kept.refl _ _) D5 (Nat.le_refl _) hx5);obtain⟨A5,m5,c5,rfl⟩:=ex_row6 hx5;obtain⟨t1,t2,t3,t4,t5⟩:=Hcl4.out _ hB5';have hO5:=own_but Hld4.out.row.own hB5' (fun g hg e=>by (have h1:=(Hld4.out.row.own.lt g hg).1;have:=Hg.out;rcases e with e|e<;>omega));have hal5:=(Below.refl w5.heap.size w5).alloc (Nat.le_refl _) (.cells zrow.toArray 60))
   | (refine stepAppP (base:=n0) (xs:=rows) (news:=[zrow]) rfl rfl tyExp rfl (by first|with_reducible exact hO5|exact own_below hO5 hal5) rfl (by first|exact RowsAt.lit' _ _ 1 rfl rfl Hz3.out rfl (by unfold maxLen;omega)|exact RowsAt.but HN0.out hB5 (fun a ha _ hs=>by (cases ha;have:=Hgz.out;rcases hs with e|e<;>(simp only at e;omega)))) Hz3.out Hz4.out Hmx4.out.1 Hmx4.out.2 (by (have:=Hn4.out;have h1:=hB5'.size;first|(simp only[World.drew] at h1;omega)|(simp only[World.drew] at h1;simp;omega))) ?_;intro A6 c6 w6 hown6 hbut6 hf6;obtain⟨g6,rfl,r1,r2,r3,r4,r5,r6,r7,r8,r9,r10⟩:=own_tail hown6 Hwid.out.1 Hwid.out.2;obtain⟨u1,u2,u3,u4,u5⟩:=Hbx2.out _ _ _ hB5' (by first|with_reducible exact hal5|exact Below.refl _ _) hbut6;have e1:g6≠gl:=(by (have:=Hg2.out;omega));have e2:gl≠g6:=(by (have:=Hg2.out;omega))))
  all_goals
   try rw[lay_swapJ e1]
   with_reducible exact Hend.out _ _ _ _ _ _ _ _ _ _ hB5' hx5' hP5 (by first|with_reducible exact hal5|exact Below.refl _ _) hown6 hbut6 hf6 r1 rfl
end Go.Proofs.YtgbgiknfejpcoaaGreat

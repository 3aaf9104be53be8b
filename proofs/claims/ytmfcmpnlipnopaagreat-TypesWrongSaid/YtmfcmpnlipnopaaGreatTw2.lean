/- Parts of this proof, one behind the other: ReadL, Hue. -/
import Derived.Test.YtmfcmpnlipnopaaGreatTw1
set_option maxRecDepth 1000000
set_option maxHeartbeats 40000000
namespace Go.Afx
open Go.RowKit Go.ChangeShapes Go.WideShapes Go.Deep
section
variable {H:Type} {enc:TypeId×Value→H} {P:Program} {w:World} {base:Nat} {spare:Nat→Bool} {held:Bool}
theorem choose_rows {α:Type} (Q:List Value→α→Prop):∀ {rows:List (List Value)},(∀ r∈rows,∃ x,Q r x)→∃ xs:List α,rows.length=xs.length∧∀ (k:Nat) (r:List Value) (x:α),rows[k]?=some r→xs[k]?=some x→Q r x:=by
 intro rows
 induction rows with
 | nil=>exact fun _=>⟨[],rfl,fun k r x h=>by simp at h⟩
 | cons r rows ih =>
  intro h
  obtain⟨x,hx⟩:=h r (by simp)
  obtain⟨xs,hl,hh⟩:=ih fun r hr=>h r (by simp[hr])
  refine⟨x::xs,by simp[hl],fun k r' x' h1 h2=>?_⟩
  cases k with
  | zero=>simp at h1 h2;subst h1 h2;exact hx
  | succ k=>exact hh k r' x' (by simpa using h1) (by simpa using h2)
def Old (w:World):Nat→Prop:=fun b=>b<w.heap.size
theorem ls_of_trod {α:Type} {t e:TypeId} {sz fuel n c:Nat} {A:Option Addr} {x:DataW H×List MemPlace} (ht:P.underlying t=some (.slice e)) (hsz:P.cellsOf e=sz) (hpos:0<sz) (Q:List Value→α→Prop)
  (hQ:∀ (r:List Value) (m:Nat) (y:DataW H×List MemPlace),r.length=sz→DataW.trod enc P w base spare held m e r=some y→∃ x,Q r x)
  (h:DataW.trod enc P w base spare held fuel t [.slice A n c]=some x):∃ xs:List α,LsAt (Old w) w sz Q A n c xs:=by
 obtain⟨rows,hr,hrow⟩:=rows_of_trod ht hsz hpos h
 obtain⟨xs,hl,hh⟩:=choose_rows Q (rows:=rows) fun r hr=>by
  obtain⟨k,hk⟩:=List.mem_iff_getElem?.1 hr
  obtain⟨h1,m,y,h2⟩:=hrow k r hk
  exact hQ r m y h1 h2
 refine⟨xs,rows,hr,fun a ha h0=>?_,hl,fun k r x h1 h2=>⟨(hrow k r h1).1,hh k r x h1 h2⟩⟩
 obtain⟨b,o,hA,hb,_⟩:=hr.at_ 0 _ (List.getElem?_eq_getElem (by rw[hr.len];exact h0))
 rw[ha] at hA
 injection hA with hA
 subst hA
 exact hb
theorem okI_of {k:Int} (h:(Lit.int .i64 k).wf=true):okI k:=by
 simp[Lit.wf,IntKind.min,IntKind.max,IntKind.signed,IntKind.bits] at h
 exact h
theorem ints_of_trod {t e:TypeId} {fuel n c:Nat} {A:Option Addr} {x:DataW H×List MemPlace} (ht:P.underlying t=some (.slice e)) (he:P.underlying e=some (.int .i64)) (hsz:P.cellsOf e=1)
  (h:DataW.trod enc P w base spare held fuel t [.slice A n c]=some x):∃ xs:List Int,LsAt (Old w) w 1 IRow A n c xs :=
 ls_of_trod ht hsz (by omega) IRow (fun r m y hr hy=>by
  obtain⟨k,rfl,_,hk⟩:=DataW.trod_int he hy
  exact⟨k,rfl,okI_of hk⟩) h
theorem strs_of_trod {t e:TypeId} {fuel n c:Nat} {A:Option Addr} {x:DataW H×List MemPlace} (ht:P.underlying t=some (.slice e)) (he:P.underlying e=some .string) (hsz:P.cellsOf e=1)
  (h:DataW.trod enc P w base spare held fuel t [.slice A n c]=some x):∃ xs:List ByteArray,LsAt (Old w) w 1 SRow A n c xs :=
 ls_of_trod ht hsz (by omega) SRow (fun r m y hr hy=>by
  obtain⟨s,rfl,_,hk⟩:=DataW.trod_string he hy
  exact⟨s,rfl,hk⟩) h
end
end Go.Afx
namespace Go.Afx
open Go.RowKit
theorem ExAt.turn {F F':Nat→Prop} {w w':World} (hF:∀ k,k<w.heap.size→F k→F' k) (hk:Kept F w w'):∀ (d:Nat) {d':Nat} {r:List Value} {e:Ex},d≤d'→ExAt F d w r e→ExAt F' d' w' r e:=by
 intro d
 induction d with
 | zero=>intro d' r e _ h;exact h.elim
 | succ d ih =>
  intro d' r e hd h
  obtain⟨d',rfl⟩:∃ k,d'=k+1:=⟨d'-1,by omega⟩
  obtain⟨h1,h2,h3,h4,h5,A,m,c,hr,hl⟩:=h
  exact⟨h1,h2,h3,h4,h5,A,m,c,hr,hl.conv hk (fun a ha h0 h=>hF _ (hl.lt h0 a ha) h) fun r x _ hx=>ih (by omega) hx⟩
theorem ExsAt.turn {F F':Nat→Prop} {w w':World} (hF:∀ k,k<w.heap.size→F k→F' k) (hk:Kept F w w') {d d':Nat} (hd:d≤d') {A:Option Addr} {n c:Nat} {es:List Ex} (h:ExsAt F d w A n c es):ExsAt F' d' w' A n c es :=
 LsAt.conv h hk (fun a ha h0 hf=>hF _ (LsAt.lt h h0 a ha) hf) fun _ _ _ hx=>ExAt.turn hF hk d hd hx
theorem StAt.turn {F F':Nat→Prop} {w w':World} (hF:∀ k,k<w.heap.size→F k→F' k) (hk:Kept F w w'):∀ (d:Nat) {d':Nat} {r:List Value} {e:St},d≤d'→StAt F d w r e→StAt F' d' w' r e:=by
 intro d
 induction d with
 | zero=>intro d' r e _ h;exact h.elim
 | succ d ih =>
  intro d' r e hd h
  obtain⟨d',rfl⟩:∃ k,d'=k+1:=⟨d'-1,by omega⟩
  obtain⟨h1,h2,h3,h4,Ac,nc,cc,Ae,ne,ce,Ab,nb,cb,Al,nl,cl,hr,k1,k2,k3,k4⟩:=h
  exact⟨h1,h2,h3,h4,Ac,nc,cc,Ae,ne,ce,Ab,nb,cb,Al,nl,cl,hr,k1.conv hk (fun a ha h0 h=>hF _ (k1.lt h0 a ha) h) (fun _ _ _ h=>h),ExsAt.turn hF hk (by omega) k2,
   k3.conv hk (fun a ha h0 h=>hF _ (k3.lt h0 a ha) h) (fun _ _ _ hx=>ih (by omega) hx),k4.conv hk (fun a ha h0 h=>hF _ (k4.lt h0 a ha) h) (fun _ _ _ hx=>ih (by omega) hx)⟩
theorem StsAt.turn {F F':Nat→Prop} {w w':World} (hF:∀ k,k<w.heap.size→F k→F' k) (hk:Kept F w w') {d d':Nat} (hd:d≤d') {A:Option Addr} {n c:Nat} {es:List St} (h:StsAt F d w A n c es):StsAt F' d' w' A n c es :=
 LsAt.conv h hk (fun a ha h0 hf=>hF _ (LsAt.lt h h0 a ha) hf) fun _ _ _ hx=>StAt.turn hF hk d hd hx
def Hu (hue:Nat→Nat) (i:Nat):Nat→Prop:=fun b=>hue b=i
def hueNew (hue:Nat→Nat) (w:World) (i:Nat):Nat→Nat:=fun b=>if b<w.heap.size then hue b else i
theorem hueNew_old {hue:Nat→Nat} {w:World} {i:Nat}:∀ k,k<w.heap.size→hueNew hue w i k=hue k:=fun _ hk=>if_pos hk
theorem hueNew_new {hue:Nat→Nat} {w:World} {i k:Nat} (hk:w.heap.size≤k):hueNew hue w i k=i:=if_neg (by omega)
structure HueRow (hue:Nat→Nat) (i base:Nat) (w:World) (T:TypeId) (sz:Nat) (A:Option Addr) (n c:Nat) (rows:List (List Value)):Prop where
 own:w.ownsRow base T sz (.slice A n c) n rows.flatten
 hue:∀ a,A=some a→hue a.block=i
 len:rows.length=n
 wid:∀ r∈rows,r.length=sz
section
variable {hue hue':Nat→Nat} {i base:Nat} {w w' w2:World} {T:TypeId} {sz:Nat} {A:Option Addr} {n c:Nat} {rows:List (List Value)} {S:Nat→Prop}
theorem HueRow.lt (h:HueRow hue i base w T sz A n c rows):∀ a,A=some a→a.block<w.heap.size:=by
 intro a ha;subst ha;exact(h.own.lt a.block rfl).2
theorem HueRow.nil_ (hue:Nat→Nat) (i base:Nat) (w:World) (T:TypeId) (sz:Nat):HueRow hue i base w T sz none 0 0 []:=⟨World.ownsRow_nil _ _ _ _,(by intro a h;cases h),rfl,(by intro r h;cases h)⟩
theorem HueRow.at_ (h:HueRow hue i base w T sz A n c rows):RowsAt w sz A n c rows:=RowsAt.of_own h.own h.wid h.len
theorem HueRow.keep (h:HueRow hue i base w T sz A n c rows) (hb:But S w w') (hS:∀ k,k<w.heap.size→S k→hue k≠i) (hh:∀ k,k<w.heap.size→hue' k=hue k):HueRow hue' i base w' T sz A n c rows:=by
 refine⟨own_but h.own hb fun g hg hs=>?_,fun a ha=>?_,h.len,h.wid⟩
 ·cases A with
  | none=>cases hg
  | some a =>
   have e:a.block=g:=by simpa [Value.ownBlock] using hg
   subst e
   exact hS _ (h.lt a rfl) hs (h.hue a rfl)
 ·rw[hh _ (h.lt a ha)];exact h.hue a ha
theorem HueRow.grow (h:HueRow hue i base w T sz A n c rows) {o:Obj} {A2:Option Addr} {m c2 bt j:Nat} {news:List (List Value)} {u:Value}
  (hown:w2.ownsRow base T sz (.slice A2 (n+m) c2) (n+m) (rows++news).flatten) (hnl:news.length=m) (hnw:∀ r∈news,r.length=sz) (hbut:But (fun k=>A.map (·.block)=some k) (w.alloc o) w2)
  (hf:∀ a2,A2=some a2→A=some a2∨(w.alloc o).heap.size≤a2.block) (hbt:bt<w.heap.size) (hbi:hue bt≠i) :
  HueRow (hueNew hue w i) i base (w2.setCell ⟨bt,j,none⟩ u) T sz A2 (n+m) c2 (rows++news)∧But (fun k=>hue k=i∨k=bt) w (w2.setCell ⟨bt,j,none⟩ u):=by
 have hz:=hbut.size
 simp only[World.alloc,Array.size_push] at hz
 have hA2:∀ a2,A2=some a2→hueNew hue w i a2.block=i:=by
  intro a2 ha
  rcases hf a2 ha with h1|h1
  ·rw[hueNew_old _ (h.lt a2 h1)];exact h.hue a2 h1
  ·simp only[World.alloc,Array.size_push] at h1;exact hueNew_new (by omega)
 have hb1:But (fun k=>hue k=i∨k=bt) w w2:=((But.refl _ w).alloc o).trans hbut fun k hk=>by
  cases A with
  | none=>cases hk
  | some a =>
   have e:a.block=k:=by simpa using hk
   subst e
   exact .inl (.inl (h.hue a rfl))
 refine⟨⟨?_,hA2,by simp[h.len,hnl],fun r hr=>?_⟩,hb1.setCell (p:=⟨bt,j,none⟩) (.inl (.inr rfl)) u⟩
 ·refine own_but hown ((But.refl (fun k=>k=bt) w2).setCell (p:=⟨bt,j,none⟩) (.inl rfl) u) fun g hg e=>?_
  subst e
  cases A2 with
  | none=>cases hg
  | some a2 =>
   have e:a2.block=g:=by simpa [Value.ownBlock] using hg
   have h1:=hA2 a2 rfl
   rw[e,hueNew_old _ hbt] at h1
   exact hbi h1
 ·rcases List.mem_append.1 hr with hr|hr
  ·exact h.wid r hr
  ·exact hnw r hr
end
structure Tri {α:Type} (hue:Nat→Nat) (i base:Nat) (w:World) (T:TypeId) (sz:Nat) (TI:TypeId) (P:Nat→List Value→α→Prop) (tell:α→Int×Int) (A0:Option Addr) (c0:Nat) (A1:Option Addr) (c1:Nat) (A2:Option Addr) (c2:Nat) (xs:List α):Prop where
 rows:∃ rows,HueRow hue i base w T sz A0 xs.length c0 rows∧∀ (k:Nat) (r:List Value) (x:α),rows[k]?=some r→xs[k]?=some x→P k r x
 nodes:HueRow hue (i+1) base w TI 1 A1 xs.length c1 (xs.map fun x=>[.int .i64 (tell x).1])
 deep:HueRow hue (i+2) base w TI 1 A2 xs.length c2 (xs.map fun x=>[.int .i64 (tell x).2])
section
variable {α:Type} {hue hue':Nat→Nat} {i base:Nat} {w w':World} {T:TypeId} {sz:Nat} {TI:TypeId} {P P':Nat→List Value→α→Prop} {tell:α→Int×Int} {A0 A1 A2:Option Addr} {c0 c1 c2:Nat} {xs:List α} {S:Nat→Prop}
theorem Tri.nil_ (hue:Nat→Nat) (i base:Nat) (w:World) (T:TypeId) (sz:Nat) (TI:TypeId) (P:Nat→List Value→α→Prop) (tell:α→Int×Int):Tri hue i base w T sz TI P tell none 0 none 0 none 0 [] :=
 ⟨⟨[],HueRow.nil_ _ _ _ _ _ _,fun k r x h=>by simp at h⟩,HueRow.nil_ _ _ _ _ _ _,HueRow.nil_ _ _ _ _ _ _⟩
theorem Tri.keep (h:Tri hue i base w T sz TI P tell A0 c0 A1 c1 A2 c2 xs) (hb:But S w w') (hS:∀ k,k<w.heap.size→S k→hue k≠i∧hue k≠i+1∧hue k≠i+2) (hh:∀ k,k<w.heap.size→hue' k=hue k) (hP:∀ k r x,x∈xs→P k r x→P' k r x) :
  Tri hue' i base w' T sz TI P' tell A0 c0 A1 c1 A2 c2 xs:=by
 obtain⟨⟨rows,h1,h2⟩,h3,h4⟩:=h
 exact⟨⟨rows,h1.keep hb (fun k hk hs=>(hS k hk hs).1) hh,fun k r x hr hx=>hP k r x (List.mem_of_getElem? hx) (h2 k r x hr hx)⟩,h3.keep hb (fun k hk hs=>(hS k hk hs).2.1) hh,h4.keep hb (fun k hk hs=>(hS k hk hs).2.2) hh⟩
theorem Tri.get (h:Tri hue i base w T sz TI P tell A0 c0 A1 c1 A2 c2 xs) {k:Nat} (hk:k<xs.length) :
  ∃ b0 b1 b2 r x,A0=some ⟨b0,0,none⟩∧A1=some ⟨b1,0,none⟩∧A2=some ⟨b2,0,none⟩∧b0<w.heap.size∧b1<w.heap.size∧b2<w.heap.size∧xs[k]?=some x∧r.length=sz∧P k r x∧(∀ j u,r[j]?=some u→w.cell? ⟨b0,k*sz+j,none⟩=some u) ∧
   w.cell? ⟨b1,k,none⟩=some (.int .i64 (tell x).1)∧w.cell? ⟨b2,k,none⟩=some (.int .i64 (tell x).2)∧hue b0=i∧hue b1=i+1∧hue b2=i+2:=by
 obtain⟨⟨rows,h1,h2⟩,h3,h4⟩:=h
 have hx:xs[k]?=some xs[k]:=List.getElem?_eq_getElem hk
 have hr:rows[k]?=some (rows[k]'(by have:=h1.len;omega)):=List.getElem?_eq_getElem _
 obtain⟨g0,cap0,e0,_⟩:=h1.own.form (by omega)
 obtain⟨g1,cap1,e1,_⟩:=h3.own.form (by omega)
 obtain⟨g2,cap2,e2,_⟩:=h4.own.form (by omega)
 simp only[Value.slice.injEq] at e0 e1 e2
 obtain⟨rfl,_,rfl⟩:=e0
 obtain⟨rfl,_,rfl⟩:=e1
 obtain⟨rfl,_,rfl⟩:=e2
 obtain⟨b,o,hA,hb,hc⟩:=h1.at_.at_ k _ hr
 obtain⟨b',o',hA',hb',hc'⟩:=h3.at_.one (u:=.int .i64 (tell xs[k]).1) (k:=k) (by rw[List.getElem?_map,hx];rfl)
 obtain⟨b'',o'',hA'',hb'',hc''⟩:=h4.at_.one (u:=.int .i64 (tell xs[k]).2) (k:=k) (by rw[List.getElem?_map,hx];rfl)
 simp only[Option.some.injEq,Addr.mk.injEq,and_true] at hA hA' hA''
 obtain⟨rfl,rfl⟩:=hA
 obtain⟨rfl,rfl⟩:=hA'
 obtain⟨rfl,rfl⟩:=hA''
 exact⟨_,_,_,_,_,rfl,rfl,rfl,hb,hb',hb'',hx,h1.wid _ (List.mem_of_getElem? hr),h2 k _ _ hr hx,fun j u hj=>by simpa using hc j u hj,by simpa using hc',by simpa using hc'',h1.hue _ rfl,h3.hue _ rfl,h4.hue _ rfl⟩
theorem Tri.lists {F:Nat→Prop} {Q:List Value→α→Prop} (h:Tri hue i base w T sz TI P tell A0 c0 A1 c1 A2 c2 xs) (hF:∀ k,k<w.heap.size→(hue k=i∨hue k=i+1∨hue k=i+2)→F k) (hQ:∀ k r x,k<xs.length→P k r x→Q r x) (htell:∀ x,okI (tell x).1∧okI (tell x).2) :
  LsAt F w sz Q A0 xs.length c0 xs∧LsAt F w 1 IRow A1 xs.length c1 (xs.map fun x=>(tell x).1)∧LsAt F w 1 IRow A2 xs.length c2 (xs.map fun x=>(tell x).2):=by
 obtain⟨⟨rows,h1,h2⟩,h3,h4⟩:=h
 refine⟨⟨rows,h1.at_,fun a ha _=>hF _ (h1.lt a ha) (.inl (h1.hue a ha)),h1.len,fun k r x hr hx=>⟨h1.wid r (List.mem_of_getElem? hr),hQ k r x (List.getElem?_eq_some_iff.1 hx).1 (h2 k r x hr hx)⟩⟩,
  ⟨_,h3.at_,fun a ha _=>hF _ (h3.lt a ha) (.inr (.inl (h3.hue a ha))),by simp,fun k r x hr hx=>?_⟩,⟨_,h4.at_,fun a ha _=>hF _ (h4.lt a ha) (.inr (.inr (h4.hue a ha))),by simp,fun k r x hr hx=>?_⟩⟩
 ·rw[List.getElem?_map] at hr hx
  obtain⟨y,hy,rfl⟩:=Option.map_eq_some_iff.1 hr
  rw[hy] at hx
  injection hx with hx
  subst hx
  exact⟨rfl,rfl,(htell y).1⟩
 ·rw[List.getElem?_map] at hr hx
  obtain⟨y,hy,rfl⟩:=Option.map_eq_some_iff.1 hr
  rw[hy] at hx
  injection hx with hx
  subst hx
  exact⟨rfl,rfl,(htell y).2⟩
end
end Go.Afx

/- Parts of this proof, one behind the other: Tree, ReadL, MemB, Maps, Del. -/
import Derived.Test.YtomfpjgcficlgaaGreatFn1
import Derived.Maps.RangeWalk
import Derived.Maps.Views
import Derived.Sort.KeysCollected
import Derived.Laws.IdiomCopy
import Derived.Lib.SliceRun
set_option maxRecDepth 1000000
set_option maxHeartbeats 40000000
namespace Go.Afx
open Go.RowKit
structure Kept (F:Nat→Prop) (w w':World):Prop where
 size:w.heap.size≤w'.heap.size
 block:∀ k,k<w.heap.size→F k→w'.heap[k]?=w.heap[k]?
section
variable {F F' S:Nat→Prop} {w w' w2:World}
theorem Kept.refl (F:Nat→Prop) (w:World):Kept F w w:=⟨Nat.le_refl _,fun _ _ _=>rfl⟩
theorem Kept.trans (h:Kept F w w') (k:Kept F w' w2):Kept F w w2 :=
 ⟨Nat.le_trans h.size k.size,fun i hi hf=>(k.block i (Nat.lt_of_lt_of_le hi h.size) hf).trans (h.block i hi hf)⟩
theorem Kept.of_below (h:Below w.heap.size w w'):Kept F w w':=⟨h.size,fun i hi _=>h.block i hi⟩
theorem Kept.of_but (h:But S w w') (hd:∀ k,F k→¬ S k):Kept F w w':=⟨h.size,fun i hi hf=>h.block i hi (hd i hf)⟩
theorem Kept.sub (h:Kept F' w w') (hF:∀ k,F k→F' k):Kept F w w':=⟨h.size,fun i hi hf=>h.block i hi (hF i hf)⟩
end
def okI (x:Int):Prop:=-9223372036854775808≤x∧x≤9223372036854775807
def okS (s:ByteArray):Prop:=s.size≤9223372036854775807
def LsAt {α:Type} (F:Nat→Prop) (w:World) (sz:Nat) (P:List Value→α→Prop) (A:Option Addr) (n c:Nat) (xs:List α):Prop :=
 ∃ rows,RowsAt w sz A n c rows∧(∀ a,A=some a→0<n→F a.block)∧rows.length=xs.length∧∀ (k:Nat) (r:List Value) (x:α),rows[k]?=some r→xs[k]?=some x→r.length=sz∧P r x
section
variable {α:Type} {F F':Nat→Prop} {w w':World} {sz:Nat} {P P':List Value→α→Prop} {A:Option Addr} {n c:Nat} {xs:List α}
theorem LsAt.len (h:LsAt F w sz P A n c xs):xs.length=n:=by obtain⟨rows,hr,_,hl,_⟩:=h;rw[← hl,hr.len]
theorem LsAt.n_le (h:LsAt F w sz P A n c xs):n≤9223372036854775807:=by obtain⟨rows,hr,_⟩:=h;exact hr.n_le
theorem LsAt.nil_ (F:Nat→Prop) (w:World) (sz:Nat) (P:List Value→α→Prop):LsAt F w sz P none 0 0 [] :=
 ⟨[],RowsAt.nil_ w sz,(fun a h=>by cases h),rfl,(fun k r x h=>by simp at h)⟩
theorem LsAt.get (h:LsAt F w sz P A n c xs) {k:Nat} (hk:k<n) :
  ∃ b o r x,A=some ⟨b,o,none⟩∧b<w.heap.size∧F b∧xs[k]?=some x∧r.length=sz∧P r x∧∀ j u,r[j]?=some u→w.cell? ⟨b,o+k*sz+j,none⟩=some u:=by
 obtain⟨rows,hr,hF,hl,hp⟩:=h
 have hkr:k<rows.length:=by rw[hr.len];exact hk
 obtain⟨b,o,rfl,hb,hc⟩:=hr.at_ k _ (List.getElem?_eq_getElem hkr)
 obtain⟨h1,h2⟩:=hp k _ (xs[k]'(by omega)) (List.getElem?_eq_getElem hkr) (List.getElem?_eq_getElem _)
 exact⟨b,o,rows[k],xs[k]'(by omega),rfl,hb,hF ⟨b,o,none⟩ rfl (by omega),List.getElem?_eq_getElem _,h1,h2,hc⟩
theorem LsAt.conv (h:LsAt F w sz P A n c xs) (hk:Kept F w w') (hF:∀ a,A=some a→0<n→F a.block→F' a.block) (hP:∀ r x,x∈xs→P r x→P' r x):LsAt F' w' sz P' A n c xs:=by
 obtain⟨rows,hr,hF1,hl,hp⟩:=h
 refine⟨rows,⟨hr.len,hr.cap,hr.max,fun k row hrow=>?_⟩,fun a ha h0=>hF a ha h0 (hF1 a ha h0),hl,fun k r x h1 h2=>⟨(hp k r x h1 h2).1,hP r x (List.mem_of_getElem? h2) (hp k r x h1 h2).2⟩⟩
 obtain⟨b,o,rfl,hb,hc⟩:=hr.at_ k row hrow
 have h0:0<n:=by have h1:=(List.getElem?_eq_some_iff.1 hrow).1;have h2:=hr.len;omega
 have hfb:F b:=hF1 ⟨b,o,none⟩ rfl h0
 exact⟨b,o,rfl,Nat.lt_of_lt_of_le hb hk.size,fun j u hu=>(World.cell?_of_block (a:=⟨b,o+k*sz+j,none⟩) (hk.block b hb hfb)).trans (hc j u hu)⟩
theorem LsAt.kept (h:LsAt F w sz P A n c xs) (hk:Kept F w w'):LsAt F w' sz P A n c xs:=h.conv hk (fun _ _ _ h=>h) fun _ _ _ h=>h
theorem LsAt.below (h:LsAt F w sz P A n c xs) (hb:Below w.heap.size w w'):LsAt F w' sz P A n c xs:=h.kept (Kept.of_below hb)
theorem LsAt.drewN (h:LsAt F w sz P A n c xs) (k:Nat):LsAt F (w.drewN k) sz P A n c xs:=h.below (below_drewN (Below.refl _ _) k)
theorem LsAt.lt (h:LsAt F w sz P A n c xs) (h0:0<n):∀ a,A=some a→a.block<w.heap.size:=by
 intro a ha
 obtain⟨b,o,r,x,hA,hb,_⟩:=h.get h0
 rw[hA] at ha
 injection ha with ha
 subst ha
 exact hb
end
def IRow (r:List Value) (x:Int):Prop:=r=[.int .i64 x]∧okI x
def SRow (r:List Value) (s:ByteArray):Prop:=r=[.string s]∧okS s
inductive Ex where
 | mk (op n:Int) (s name src:ByteArray) (args:List Ex)
def Ex.op:Ex→Int | .mk o _ _ _ _ _=>o
def Ex.n:Ex→Int | .mk _ n _ _ _ _=>n
def Ex.s:Ex→ByteArray | .mk _ _ s _ _ _=>s
def Ex.name:Ex→ByteArray | .mk _ _ _ n _ _=>n
def Ex.src:Ex→ByteArray | .mk _ _ _ _ s _=>s
def Ex.args:Ex→List Ex | .mk _ _ _ _ _ l=>l
theorem Ex.eta (e:Ex):e=.mk e.op e.n e.s e.name e.src e.args:=by cases e;rfl
theorem Ex.ext {a b:Ex} (h1:a.op=b.op) (h2:a.n=b.n) (h3:a.s=b.s) (h4:a.name=b.name) (h5:a.src=b.src) (h6:a.args=b.args):a=b:=by
 rw[a.eta,b.eta,h1,h2,h3,h4,h5,h6]
def ExAt (F:Nat→Prop):Nat→World→List Value→Ex→Prop
 | 0,_,_,_=>False
 | d+1,w,r,e=>okI e.op∧okI e.n∧okS e.s∧okS e.name∧okS e.src ∧
   ∃ A m c,r=[.int .i64 e.op,.int .i64 e.n,.string e.s,.string e.name,.string e.src,.slice A m c]∧LsAt F w 6 (ExAt F d w) A m c e.args
theorem ExAt.conv {F F':Nat→Prop} (hF:∀ k,F k→F' k) {w w':World} (hk:Kept F w w'):∀ (d:Nat) {d':Nat} {r:List Value} {e:Ex},d≤d'→ExAt F d w r e→ExAt F' d' w' r e:=by
 intro d
 induction d with
 | zero=>intro d' r e _ h;exact h.elim
 | succ d ih =>
  intro d' r e hd h
  obtain⟨d',rfl⟩:∃ k,d'=k+1:=⟨d'-1,by omega⟩
  obtain⟨h1,h2,h3,h4,h5,A,m,c,hr,hl⟩:=h
  exact⟨h1,h2,h3,h4,h5,A,m,c,hr,hl.conv hk (fun a _ _ h=>hF _ h) fun r x _ hx=>ih (by omega) hx⟩
theorem ExAt.kept {F:Nat→Prop} {w w':World} {d:Nat} {r:List Value} {e:Ex} (h:ExAt F d w r e) (hk:Kept F w w'):ExAt F d w' r e:=ExAt.conv (fun _ h=>h) hk d (Nat.le_refl _) h
theorem ExAt.below {F:Nat→Prop} {w w':World} {d:Nat} {r:List Value} {e:Ex} (h:ExAt F d w r e) (hb:Below w.heap.size w w'):ExAt F d w' r e:=h.kept (Kept.of_below hb)
theorem ExAt.len {F:Nat→Prop} {w:World} {d:Nat} {r:List Value} {e:Ex} (h:ExAt F d w r e):r.length=6:=by
 cases d with
 | zero=>exact h.elim
 | succ d=>obtain⟨_,_,_,_,_,A,m,c,rfl,_⟩:=h;rfl
theorem ExAt.one {F:Nat→Prop} {w:World} {d:Nat} {r:List Value} {e:Ex} (h:ExAt F d w r e):∀ u∈r,u.oneCell'=true:=by
 cases d with
 | zero=>exact h.elim
 | succ d =>
  obtain⟨_,_,_,_,_,A,m,c,rfl,_⟩:=h
  intro u hu
  simp only[List.mem_cons,List.not_mem_nil,or_false] at hu
  rcases hu with rfl|rfl|rfl|rfl|rfl|rfl<;>rfl
def ExsAt (F:Nat→Prop) (d:Nat) (w:World) (A:Option Addr) (n c:Nat) (es:List Ex):Prop:=LsAt F w 6 (ExAt F d w) A n c es
theorem ExsAt.conv {F F':Nat→Prop} (hF:∀ k,F k→F' k) {w w':World} (hk:Kept F w w') {d d':Nat} (hd:d≤d') {A:Option Addr} {n c:Nat} {es:List Ex} (h:ExsAt F d w A n c es):ExsAt F' d' w' A n c es :=
 LsAt.conv h hk (fun _ _ _ h=>hF _ h) fun _ _ _ hx=>ExAt.conv hF hk d hd hx
theorem ExsAt.kept {F:Nat→Prop} {w w':World} {d:Nat} {A:Option Addr} {n c:Nat} {es:List Ex} (h:ExsAt F d w A n c es) (hk:Kept F w w'):ExsAt F d w' A n c es:=ExsAt.conv (fun _ h=>h) hk (Nat.le_refl _) h
theorem ExsAt.below {F:Nat→Prop} {w w':World} {d:Nat} {A:Option Addr} {n c:Nat} {es:List Ex} (h:ExsAt F d w A n c es) (hb:Below w.heap.size w w'):ExsAt F d w' A n c es:=h.kept (Kept.of_below hb)
theorem ExAt.open_ {F:Nat→Prop} {d:Nat} {w:World} {r:List Value} {e:Ex} (h:ExAt F (d+1) w r e):okI e.op∧okI e.n∧okS e.s∧okS e.name∧okS e.src ∧
  ∃ A m c,r=[.int .i64 e.op,.int .i64 e.n,.string e.s,.string e.name,.string e.src,.slice A m c]∧ExsAt F d w A m c e.args:=h
theorem ExsAt.get {F:Nat→Prop} {d:Nat} {w:World} {A:Option Addr} {n c:Nat} {es:List Ex} (h:ExsAt F (d+1) w A n c es) {k:Nat} (hk:k<n) :
  ∃ b o e A2 m2 c2,A=some ⟨b,o,none⟩∧b<w.heap.size∧es[k]?=some e∧w.cell? ⟨b,o+k*6,none⟩=some (.int .i64 e.op)∧w.cell? ⟨b,o+k*6+1,none⟩=some (.int .i64 e.n) ∧
   w.cell? ⟨b,o+k*6+2,none⟩=some (.string e.s)∧w.cell? ⟨b,o+k*6+3,none⟩=some (.string e.name)∧w.cell? ⟨b,o+k*6+4,none⟩=some (.string e.src)∧w.cell? ⟨b,o+k*6+5,none⟩=some (.slice A2 m2 c2) ∧
   ExAt F (d+1) w [.int .i64 e.op,.int .i64 e.n,.string e.s,.string e.name,.string e.src,.slice A2 m2 c2] e∧okI e.op∧okI e.n∧okS e.s∧okS e.name∧okS e.src:=by
 obtain⟨b,o,r,e,hA,hb,_,he,hl,hp,hc⟩:=LsAt.get h hk
 obtain⟨h1,h2,h3,h4,h5,A2,m2,c2,rfl,h6⟩:=hp
 exact⟨b,o,e,A2,m2,c2,hA,hb,he,by simpa using hc 0 _ rfl,hc 1 _ rfl,hc 2 _ rfl,hc 3 _ rfl,hc 4 _ rfl,hc 5 _ rfl,⟨h1,h2,h3,h4,h5,A2,m2,c2,rfl,h6⟩,h1,h2,h3,h4,h5⟩
inductive St where
 | mk (op:Int) (name src:ByteArray) (n:Int) (cols:List ByteArray) (exprs:List Ex) (body els:List St)
def St.op:St→Int | .mk o _ _ _ _ _ _ _=>o
def St.name:St→ByteArray | .mk _ n _ _ _ _ _ _=>n
def St.src:St→ByteArray | .mk _ _ s _ _ _ _ _=>s
def St.n:St→Int | .mk _ _ _ n _ _ _ _=>n
def St.cols:St→List ByteArray | .mk _ _ _ _ c _ _ _=>c
def St.exprs:St→List Ex | .mk _ _ _ _ _ e _ _=>e
def St.body:St→List St | .mk _ _ _ _ _ _ b _=>b
def St.els:St→List St | .mk _ _ _ _ _ _ _ b=>b
theorem St.eta (e:St):e=.mk e.op e.name e.src e.n e.cols e.exprs e.body e.els:=by cases e;rfl
def StAt (F:Nat→Prop):Nat→World→List Value→St→Prop
 | 0,_,_,_=>False
 | d+1,w,r,x=>okI x.op∧okI x.n∧okS x.name∧okS x.src ∧
   ∃ Ac nc cc Ae ne ce Ab nb cb Al nl cl,r=[.int .i64 x.op,.string x.name,.string x.src,.int .i64 x.n,.slice Ac nc cc,.slice Ae ne ce,.slice Ab nb cb,.slice Al nl cl] ∧
    LsAt F w 1 SRow Ac nc cc x.cols∧ExsAt F d w Ae ne ce x.exprs∧LsAt F w 8 (StAt F d w) Ab nb cb x.body∧LsAt F w 8 (StAt F d w) Al nl cl x.els
theorem StAt.conv {F F':Nat→Prop} (hF:∀ k,F k→F' k) {w w':World} (hk:Kept F w w'):∀ (d:Nat) {d':Nat} {r:List Value} {e:St},d≤d'→StAt F d w r e→StAt F' d' w' r e:=by
 intro d
 induction d with
 | zero=>intro d' r e _ h;exact h.elim
 | succ d ih =>
  intro d' r e hd h
  obtain⟨d',rfl⟩:∃ k,d'=k+1:=⟨d'-1,by omega⟩
  obtain⟨h1,h2,h3,h4,Ac,nc,cc,Ae,ne,ce,Ab,nb,cb,Al,nl,cl,hr,k1,k2,k3,k4⟩:=h
  exact⟨h1,h2,h3,h4,Ac,nc,cc,Ae,ne,ce,Ab,nb,cb,Al,nl,cl,hr,k1.conv hk (fun _ _ _ h=>hF _ h) (fun _ _ _ h=>h),ExsAt.conv hF hk (by omega) k2,
   k3.conv hk (fun _ _ _ h=>hF _ h) (fun _ _ _ hx=>ih (by omega) hx),k4.conv hk (fun _ _ _ h=>hF _ h) (fun _ _ _ hx=>ih (by omega) hx)⟩
theorem StAt.kept {F:Nat→Prop} {w w':World} {d:Nat} {r:List Value} {e:St} (h:StAt F d w r e) (hk:Kept F w w'):StAt F d w' r e:=StAt.conv (fun _ h=>h) hk d (Nat.le_refl _) h
theorem StAt.below {F:Nat→Prop} {w w':World} {d:Nat} {r:List Value} {e:St} (h:StAt F d w r e) (hb:Below w.heap.size w w'):StAt F d w' r e:=h.kept (Kept.of_below hb)
theorem StAt.len {F:Nat→Prop} {w:World} {d:Nat} {r:List Value} {e:St} (h:StAt F d w r e):r.length=8:=by
 cases d with
 | zero=>exact h.elim
 | succ d=>obtain⟨_,_,_,_,Ac,nc,cc,Ae,ne,ce,Ab,nb,cb,Al,nl,cl,rfl,_⟩:=h;rfl
theorem StAt.one {F:Nat→Prop} {w:World} {d:Nat} {r:List Value} {e:St} (h:StAt F d w r e):∀ u∈r,u.oneCell'=true:=by
 cases d with
 | zero=>exact h.elim
 | succ d =>
  obtain⟨_,_,_,_,Ac,nc,cc,Ae,ne,ce,Ab,nb,cb,Al,nl,cl,rfl,_⟩:=h
  intro u hu
  simp only[List.mem_cons,List.not_mem_nil,or_false] at hu
  rcases hu with rfl|rfl|rfl|rfl|rfl|rfl|rfl|rfl<;>rfl
def StsAt (F:Nat→Prop) (d:Nat) (w:World) (A:Option Addr) (n c:Nat) (es:List St):Prop:=LsAt F w 8 (StAt F d w) A n c es
theorem StsAt.conv {F F':Nat→Prop} (hF:∀ k,F k→F' k) {w w':World} (hk:Kept F w w') {d d':Nat} (hd:d≤d') {A:Option Addr} {n c:Nat} {es:List St} (h:StsAt F d w A n c es):StsAt F' d' w' A n c es :=
 LsAt.conv h hk (fun _ _ _ h=>hF _ h) fun _ _ _ hx=>StAt.conv hF hk d hd hx
theorem StsAt.kept {F:Nat→Prop} {w w':World} {d:Nat} {A:Option Addr} {n c:Nat} {es:List St} (h:StsAt F d w A n c es) (hk:Kept F w w'):StsAt F d w' A n c es:=StsAt.conv (fun _ h=>h) hk (Nat.le_refl _) h
theorem StsAt.below {F:Nat→Prop} {w w':World} {d:Nat} {A:Option Addr} {n c:Nat} {es:List St} (h:StsAt F d w A n c es) (hb:Below w.heap.size w w'):StsAt F d w' A n c es:=h.kept (Kept.of_below hb)
theorem StAt.open_ {F:Nat→Prop} {d:Nat} {w:World} {r:List Value} {x:St} (h:StAt F (d+1) w r x):okI x.op∧okI x.n∧okS x.name∧okS x.src ∧
  ∃ Ac nc cc Ae ne ce Ab nb cb Al nl cl,r=[.int .i64 x.op,.string x.name,.string x.src,.int .i64 x.n,.slice Ac nc cc,.slice Ae ne ce,.slice Ab nb cb,.slice Al nl cl] ∧
   LsAt F w 1 SRow Ac nc cc x.cols∧ExsAt F d w Ae ne ce x.exprs∧StsAt F d w Ab nb cb x.body∧StsAt F d w Al nl cl x.els:=h
theorem StsAt.get {F:Nat→Prop} {d:Nat} {w:World} {A:Option Addr} {n c:Nat} {es:List St} (h:StsAt F (d+1) w A n c es) {k:Nat} (hk:k<n) :
  ∃ b o x Ac nc cc Ae ne ce Ab nb cb Al nl cl,A=some ⟨b,o,none⟩∧b<w.heap.size∧es[k]?=some x∧w.cell? ⟨b,o+k*8,none⟩=some (.int .i64 x.op)∧w.cell? ⟨b,o+k*8+1,none⟩=some (.string x.name) ∧
   w.cell? ⟨b,o+k*8+2,none⟩=some (.string x.src)∧w.cell? ⟨b,o+k*8+3,none⟩=some (.int .i64 x.n)∧w.cell? ⟨b,o+k*8+4,none⟩=some (.slice Ac nc cc)∧w.cell? ⟨b,o+k*8+5,none⟩=some (.slice Ae ne ce) ∧
   w.cell? ⟨b,o+k*8+6,none⟩=some (.slice Ab nb cb)∧w.cell? ⟨b,o+k*8+7,none⟩=some (.slice Al nl cl) ∧
   StAt F (d+1) w [.int .i64 x.op,.string x.name,.string x.src,.int .i64 x.n,.slice Ac nc cc,.slice Ae ne ce,.slice Ab nb cb,.slice Al nl cl] x ∧
   okI x.op∧okI x.n∧okS x.name∧okS x.src∧LsAt F w 1 SRow Ac nc cc x.cols∧ExsAt F d w Ae ne ce x.exprs∧StsAt F d w Ab nb cb x.body∧StsAt F d w Al nl cl x.els:=by
 obtain⟨b,o,r,x,hA,hb,_,he,hl,hp,hc⟩:=LsAt.get h hk
 have hp':=hp
 obtain⟨h1,h2,h3,h4,Ac,nc,cc,Ae,ne,ce,Ab,nb,cb,Al,nl,cl,rfl,k1,k2,k3,k4⟩:=hp
 exact⟨b,o,x,Ac,nc,cc,Ae,ne,ce,Ab,nb,cb,Al,nl,cl,hA,hb,he,by simpa using hc 0 _ rfl,hc 1 _ rfl,hc 2 _ rfl,hc 3 _ rfl,hc 4 _ rfl,hc 5 _ rfl,hc 6 _ rfl,hc 7 _ rfl,hp',h1,h2,h3,h4,k1,k2,k3,k4⟩
end Go.Afx
namespace Go.Afx
open Go.RowKit Go.ChangeShapes Go.WideShapes Go.Deep
section
variable {H:Type} {enc:TypeId×Value→H} {P:Program} {w:World} {base:Nat} {spare:Nat→Bool} {held:Bool}
theorem choose_rows {α:Type} (Q:List Value→α→Prop):∀ {rows:List (List Value)},(∀ r∈rows,∃ x,Q r x)→∃ xs:List α,rows.length=xs.length∧∀ (k:Nat) (r:List Value) (x:α),rows[k]?=some r→xs[k]?=some x→Q r x:=by
 intro rows
 induction rows with
 | nil=>exact fun _=>⟨[],rfl,fun k r x h=>by simp at h⟩
 | cons r rows ih =>
  intro h
  obtain⟨x,hx⟩:=h r (by simp)
  obtain⟨xs,hl,hh⟩:=ih fun r hr=>h r (by simp[hr])
  refine⟨x::xs,by simp[hl],fun k r' x' h1 h2=>?_⟩
  cases k with
  | zero=>simp at h1 h2;subst h1 h2;exact hx
  | succ k=>exact hh k r' x' (by simpa using h1) (by simpa using h2)
def Old (w:World):Nat→Prop:=fun b=>b<w.heap.size
theorem ls_of_trod {α:Type} {t e:TypeId} {sz fuel n c:Nat} {A:Option Addr} {x:DataW H×List MemPlace} (ht:P.underlying t=some (.slice e)) (hsz:P.cellsOf e=sz) (hpos:0<sz) (Q:List Value→α→Prop)
  (hQ:∀ (r:List Value) (m:Nat) (y:DataW H×List MemPlace),r.length=sz→DataW.trod enc P w base spare held m e r=some y→∃ x,Q r x)
  (h:DataW.trod enc P w base spare held fuel t [.slice A n c]=some x):∃ xs:List α,LsAt (Old w) w sz Q A n c xs:=by
 obtain⟨rows,hr,hrow⟩:=rows_of_trod ht hsz hpos h
 obtain⟨xs,hl,hh⟩:=choose_rows Q (rows:=rows) fun r hr=>by
  obtain⟨k,hk⟩:=List.mem_iff_getElem?.1 hr
  obtain⟨h1,m,y,h2⟩:=hrow k r hk
  exact hQ r m y h1 h2
 refine⟨xs,rows,hr,fun a ha h0=>?_,hl,fun k r x h1 h2=>⟨(hrow k r h1).1,hh k r x h1 h2⟩⟩
 obtain⟨b,o,hA,hb,_⟩:=hr.at_ 0 _ (List.getElem?_eq_getElem (by rw[hr.len];exact h0))
 rw[ha] at hA
 injection hA with hA
 subst hA
 exact hb
theorem strs_of_trod {t e:TypeId} {fuel n c:Nat} {A:Option Addr} {x:DataW H×List MemPlace} (ht:P.underlying t=some (.slice e)) (he:P.underlying e=some .string) (hsz:P.cellsOf e=1)
  (h:DataW.trod enc P w base spare held fuel t [.slice A n c]=some x):∃ xs:List ByteArray,LsAt (Old w) w 1 SRow A n c xs :=
 ls_of_trod ht hsz (by omega) SRow (fun r m y hr hy=>by
  obtain⟨s,rfl,_,hk⟩:=DataW.trod_string he hy
  exact⟨s,rfl,hk⟩) h
end
end Go.Afx
namespace Go.Afx
instance memB (x:ByteArray) (l:List ByteArray):Decidable (x∈l):=decidable_of_iff (l.any (fun y=>decide (y=x))=true) (by simp)
end Go.Afx
namespace Go.Afx
open Go.RowKit Go.Maps Go.WideMaps
def rawR (v:Value):Option (DataW Value×List MemPlace):=some (.held v,[])
def litB (s:ByteArray):Lit:=.string s.data.toList
theorem litB_inj {a b:ByteArray} (h:litB a=litB b):a=b:=by
 unfold litB at h
 injection h with h
 exact ByteArray.ext (Array.toList_inj.1 h)
theorem litB_key (s:ByteArray):WideAt.IsKeyLit (litB s):=trivial
theorem keyB {P:Program} {K:TypeId} (hK:P.underlying K=some .string) {s:ByteArray} (hs:okS s):keyOf P K (.string s)=some (litB s):=keyOf_string_mk hK (by unfold okS at hs;unfold maxLen;omega)
theorem keyB_inv {P:Program} {K:TypeId} (hK:P.underlying K=some .string) {v:Value} {kl:Lit} (h:keyOf P K v=some kl):∃ s,v=.string s∧kl=litB s∧okS s:=by
 cases v<;>simp[keyOf,hK,mapKey] at h
 rename_i s
 obtain⟨hs,rfl⟩:=h
 exact⟨s,rfl,rfl,by unfold okS;unfold maxLen at hs;omega⟩
def ent:List (ByteArray×Value)→ByteArray→Option Value
 | [],_=>none
 | p::E,s=>if p.1=s then some p.2 else ent E s
theorem ent_append (E:List (ByteArray×Value)) (p:ByteArray×Value) (s:ByteArray) (h:p.1 ∉ E.map (·.1)):ent (E++[p]) s=if s=p.1 then some p.2 else ent E s:=by
  induction E with
  | nil => by_cases e:p.1=s
           · subst e;simp[ent]
           · simp[ent,e,Ne.symm e]
  | cons q E ih =>
    simp only[List.map_cons,List.mem_cons,not_or] at h
    rw[List.cons_append,ent,ih h.2,ent]
    by_cases e:q.1=s
    · subst e;rw[if_pos rfl,if_pos rfl,if_neg (fun e=>h.1 e.symm)]
    · rw[if_neg e,if_neg e]
theorem ent_none {E:List (ByteArray×Value)} {s:ByteArray}:ent E s=none ↔ s ∉ E.map (·.1):=by
 induction E with
 | nil=>simp[ent]
 | cons q E ih =>
  rw[ent]
  by_cases e:q.1=s
  ·subst e;simp
  ·rw[if_neg e,ih];simp[Ne.symm e]
theorem ent_mem {E:List (ByteArray×Value)} {s:ByteArray} {v:Value} (h:ent E s=some v):(s,v)∈E:=by
 induction E with
 | nil=>cases h
 | cons q E ih =>
  rw[ent] at h
  split at h
  ·rename_i e;injection h with h;subst e h;simp
  ·exact List.mem_cons_of_mem _ (ih h)
theorem ent_of_mem {E:List (ByteArray×Value)} (hn:(E.map (·.1)).Nodup) {s:ByteArray} {v:Value} (h:(s,v)∈E):ent E s=some v:=by
 induction E with
 | nil=>cases h
 | cons q E ih =>
  simp only[List.map_cons,List.nodup_cons] at hn
  rw[ent]
  rcases List.mem_cons.1 h with rfl|h
  ·simp
  ·rw[if_neg (fun e=>hn.1 (by rw[e];exact List.mem_map_of_mem (f:=(·.1)) h)),ih hn.2 h]
structure MapAt (P:Program) (K:TypeId) (w:World) (b:Nat) (E:List (ByteArray×Value)):Prop where
 once:(E.map (·.1)).Nodup
 ok:∀ p∈E,okS p.1
 own:∃ D,w.ownsMap P K rawR b E.length D∧∀ s,okS s→∀ z,D.atKey (litB s) z=(ent E s).elim z DataW.held
section
variable {P:Program} {K T e:TypeId} {w w':World} {b:Nat} {E:List (ByteArray×Value)}
theorem MapAt.lt (h:MapAt P K w b E):b<w.heap.size:=by obtain⟨D,ho,_⟩:=h.own;exact ho.lt
theorem MapAt.as_was (h:MapAt P K w b E) (e:w'.heap[b]?=w.heap[b]?):MapAt P K w' b E:=by
 refine⟨h.once,h.ok,?_⟩
 obtain⟨D,⟨es,clock,hb,rest⟩,hD⟩:=h.own
 exact⟨D,⟨es,clock,e.trans hb,rest⟩,hD⟩
theorem MapAt.but {S:Nat→Prop} (h:MapAt P K w b E) (hb:But S w w') (hn:¬ S b):MapAt P K w' b E:=h.as_was (hb.block b h.lt hn)
theorem MapAt.below (h:MapAt P K w b E) (hb:Below w.heap.size w w'):MapAt P K w' b E:=h.as_was (hb.block b h.lt)
theorem MapAt.alloc (h:MapAt P K w b E) (o:Obj):MapAt P K (w.alloc o) b E:=h.as_was (Below.heap_alloc w o b h.lt)
theorem MapAt.made (P:Program) (K:TypeId) (w:World):MapAt P K (w.alloc (.map #[] 0)) w.heap.size []:=⟨by simp,by simp,_,World.ownsMap_made w P K _,fun s _ z=>rfl⟩
theorem MapAt.look (h:MapAt P K w b E) (hK:P.underlying K=some .string) (hT:P.underlying T=some (.map K e)) {z:Value} (hz:(zeroValue e).run P w=.ok z w) {s:ByteArray} (hs:okS s) :
  (Instr.lookup T (.map (some b)) (.string s) false).run P w=.ok ((ent E s).getD z) w:=by
 obtain⟨D,ho,hD⟩:=h.own
 obtain⟨v,ps,hr,hv⟩:=ho.lookup (string_keyed hK) hT hz (R:=rawR) rfl (keyB hK hs)
 rw[hD s hs] at hv
 simp only[rawR,Option.some.injEq,Prod.mk.injEq] at hv
 rw[hr]
 cases hE:ent E s with
 | none=>rw[hE] at hv;have:=hv.1;simp at this;rw[this];rfl
 | some u=>rw[hE] at hv;have:=hv.1;simp at this;rw[this];rfl
theorem ent_has {D:DataW Value} (hD:∀ s,okS s→∀ z,D.atKey (litB s) z=(ent E s).elim z DataW.held) {s:ByteArray} (hs:okS s):Maps.has D (litB s)=(ent E s).isSome:=by
 cases hE:ent E s with
 | none=>exact has_false_of_atKey fun z=>by rw[hD s hs,hE];rfl
 | some u=>exact has_true_of_atKey (y:=.held u) fun z=>by rw[hD s hs,hE];rfl
theorem MapAt.look_ok (h:MapAt P K w b E) (hK:P.underlying K=some .string) (hT:P.underlying T=some (.map K e)) {z:Value} (hz:(zeroValue e).run P w=.ok z w) {s:ByteArray} (hs:okS s) :
  (Instr.lookup T (.map (some b)) (.string s) true).run P w=.ok (.tuple #[(ent E s).getD z,.bool (ent E s).isSome]) w:=by
 obtain⟨D,ho,hD⟩:=h.own
 obtain⟨v,ps,hr,hv⟩:=ho.look_ok (string_keyed hK) hT hz (R:=rawR) rfl (keyB hK hs)
 rw[ent_has hD hs] at hr
 rw[hD s hs] at hv
 simp only[rawR,Option.some.injEq,Prod.mk.injEq] at hv
 rw[hr]
 cases hE:ent E s with
 | none=>rw[hE] at hv;have:=hv.1;simp at this;rw[this];rfl
 | some u=>rw[hE] at hv;have:=hv.1;simp at this;rw[this];rfl
theorem MapAt.put (h:MapAt P K w b E) (hK:P.underlying K=some .string) (hT:P.underlying T=some (.map K e)) (hn:E.length<1000000) {s:ByteArray} (hs:okS s) (hnew:s ∉ E.map (·.1)) (v:Value) :
  ∃ w',(Instr.mapUpdate T (.map (some b)) (.string s) v).run P w=.ok () w'∧MapAt P K w' b (E++[(s,v)])∧But (fun k=>k=b) w w':=by
 obtain⟨D,ho,hD⟩:=h.own
 obtain⟨w',hr,ho',hg⟩:=ho.update (string_keyed hK) hT (by unfold maxLen;omega) (keyB hK hs) (R:=rawR) (val:=v) rfl
 refine⟨w',hr,⟨?_,?_,_,by rw[List.length_append];exact ho',fun x hx z=>?_⟩,⟨hg.os,hg.tape,hg.output,hg.size,fun k hk hn=>hg.block k hk (fun e=>hn (by injection e))⟩⟩
 ·rw[List.map_append]
  exact List.nodup_append.2 ⟨h.once,by simp,fun a ha c hc e=>by simp at hc;subst e hc;exact hnew ha⟩
 ·intro p hp
  rcases List.mem_append.1 hp with hp|hp
  ·exact h.ok p hp
  ·simp at hp;subst hp;exact hs
 ·rw[ent_append E (s,v) x hnew]
  by_cases e:x=s
  ·subst e;rw[if_pos rfl];exact atKey_put_same ho.isMap (litB_key _) _ _
  ·rw[if_neg e,atKey_put_other (fun h=>e (litB_inj h)),hD x hx]
end
section
variable {P:Program} {w:World} {ops:Array Oper} {rest:List Oper} {o:Oper} {a:Act} {Q:Exit→Act→World→Prop} {K T e:TypeId} {b:Nat} {E:List (ByteArray×Value)}
theorem wpList_lookB (hg:o.guard=none) {m x:Operand} (hop:o.op=Op.lookup T m x false) (hK:P.underlying K=some .string) (hT:P.underlying T=some (.map K e)) {z:Value} (hz:(zeroValue e).run P w=.ok z w)
  (hm:a.eval m=.map (some b)) (h:MapAt P K w b E) {s:ByteArray} (hx:a.eval x=.string s) (hs:okS s)
  (hk:wpList P ops Q rest (a.put o.dst ((ent E s).getD z)) w):wpList P ops Q (o::rest) a w:=by
 refine wpList_plain hg fun K' hK'=>?_
 unfold Oper.wp
 simp[execOp,hop,hm,hx,h.look hK hT hz hs,Result.andThen]
 exact hK' _ _ hk
theorem wpList_lookB_ok (hg:o.guard=none) {m x:Operand} (hop:o.op=Op.lookup T m x true) (hK:P.underlying K=some .string) (hT:P.underlying T=some (.map K e)) {z:Value} (hz:(zeroValue e).run P w=.ok z w)
  (hm:a.eval m=.map (some b)) (h:MapAt P K w b E) {s:ByteArray} (hx:a.eval x=.string s) (hs:okS s)
  (hk:wpList P ops Q rest (a.put o.dst (.tuple #[(ent E s).getD z,.bool (ent E s).isSome])) w):wpList P ops Q (o::rest) a w:=by
 refine wpList_plain hg fun K' hK'=>?_
 unfold Oper.wp
 simp[execOp,hop,hm,hx,h.look_ok hK hT hz hs,Result.andThen]
 exact hK' _ _ hk
theorem wpList_putB (hg:o.guard=none) {m x u:Operand} (hop:o.op=Op.mapUpdate T m x u) (hK:P.underlying K=some .string) (hT:P.underlying T=some (.map K e)) (hn:E.length<1000000)
  (hm:a.eval m=.map (some b)) (h:MapAt P K w b E) {s:ByteArray} (hx:a.eval x=.string s) (hs:okS s) (hnew:s ∉ E.map (·.1)) {v:Value} (hv:a.eval u=v)
  (hk:∀ w',MapAt P K w' b (E++[(s,v)])→But (fun k=>k=b) w w'→wpList P ops Q rest (a.put o.dst undef) w'):wpList P ops Q (o::rest) a w:=by
 refine wpList_plain hg fun K' hK'=>?_
 obtain⟨w',hr,h1,h2⟩:=h.put hK hT hn hs hnew v
 unfold Oper.wp
 simp[execOp,hop,hm,hx,hv,hr,Result.andThen]
 exact hK' _ _ (hk w' h1 h2)
end
structure RangeAt (P:Program) (K:TypeId) (w:World) (b r:Nat) (E:List (ByteArray×Value)) (seen:List ByteArray):Prop where
 once:(E.map (·.1)).Nodup
 ok:∀ p∈E,okS p.1
 nodup:seen.Nodup
 sub:∀ s∈seen,s∈E.map (·.1)
 own:∃ D left cnt,w.ranges P K rawR b r E.length D left cnt∧(∀ s,okS s→∀ z,D.atKey (litB s) z=(ent E s).elim z DataW.held)∧∀ s,okS s→left (litB s)=((ent E s).isSome&&decide (s ∉ seen))
section
variable {P:Program} {K T e:TypeId} {w w':World} {b r:Nat} {E:List (ByteArray×Value)} {seen:List ByteArray}
theorem RangeAt.map (h:RangeAt P K w b r E seen):MapAt P K w b E:=by
 obtain⟨D,left,cnt,hr,hD,_⟩:=h.own
 exact⟨h.once,h.ok,D,hr.owns,hD⟩
theorem RangeAt.ne (h:RangeAt P K w b r E seen):r≠b:=by obtain⟨D,left,cnt,hr,_⟩:=h.own;exact hr.ne
theorem RangeAt.lt (h:RangeAt P K w b r E seen):r<w.heap.size:=by obtain⟨D,left,cnt,hr,_⟩:=h.own;exact hr.lt
theorem RangeAt.but {S:Nat→Prop} (h:RangeAt P K w b r E seen) (hb:But S w w') (h1:¬ S b) (h2:¬ S r):RangeAt P K w' b r E seen∧w'.rangeLeft b r=w.rangeLeft b r:=by
 have l1:=h.map.lt
 have l2:=h.lt
 have e1:=hb.block b l1 h1
 have e2:=hb.block r l2 h2
 refine⟨⟨h.once,h.ok,h.nodup,h.sub,?_⟩,by unfold World.rangeLeft;rw[e1,e2]⟩
 obtain⟨D,left,cnt,⟨es,clock,since,seen',c0,hb',F,hs,hD,hr',rest⟩,r2⟩:=h.own
 exact⟨D,left,cnt,⟨es,clock,since,seen',c0,e1.trans hb',F,hs,hD,e2.trans hr',rest⟩,r2⟩
theorem MapAt.range (h:MapAt P K w b E) (hK:P.underlying K=some .string) (hT:P.underlying T=some (.map K e)) :
  ∃ w',(Instr.range T (.map (some b))).run P w=.ok (.pointer (some ⟨w.heap.size,0,none⟩)) w'∧RangeAt P K w' b w.heap.size E []∧Below w.heap.size w w'∧w'.heap.size=w.heap.size+1:=by
 obtain⟨D,ho,hD⟩:=h.own
 obtain⟨w',hr,h1,h2,h3⟩:=ho.range (string_keyed hK) hT
 refine⟨w',hr,⟨h.once,h.ok,by simp,by simp,D,_,_,h1,hD,fun s hs=>?_⟩,⟨h2.os,h2.tape,h2.output,h2.size,fun k hk=>h2.block k hk (by simp)⟩,h3⟩
 rw[ent_has hD hs];simp
theorem RangeAt.next (h:RangeAt P K w b r E seen) (hK:P.underlying K=some .string) (ty:TypeId) :
  (seen.Perm (E.map (·.1))∧(Instr.next (.pointer (some ⟨r,0,none⟩)) false ty).run P w=.ok (.tuple #[.bool false]) w) ∨
  ∃ s v w',(s,v)∈E∧s ∉ seen∧okS s∧(Instr.next (.pointer (some ⟨r,0,none⟩)) false ty).run P w=.ok (.tuple #[.bool true,.string s,v]) w'∧RangeAt P K w' b r E (seen++[s])∧w'.rangeLeft b r<w.rangeLeft b r ∧
   But (fun k=>k=r) w w'∧w'.heap.size=w.heap.size∧(Instr.entry (.pointer (some ⟨r,0,none⟩))).run P w'=.ok (.tuple #[.string s,v]) w':=by
 obtain⟨D,left,cnt,hr,hD,hl⟩:=h.own
 rcases hr.next (string_keyed hK) ty with ⟨_,h0,hrun⟩|⟨key,v,kl,y,w',cnt',hkey,hlk,hv,hat,hrun,hrg,hlt,hgr,hsz,hen⟩
 ·refine .inl ⟨(List.perm_ext_iff_of_nodup h.nodup h.once).2 fun s=>⟨h.sub s,fun hs=>?_⟩,hrun⟩
  obtain⟨p,hp,rfl⟩:=List.mem_map.1 hs
  have h1:=hl p.1 (h.ok p hp)
  rw[h0,ent_of_mem h.once (s:=p.1) (v:=p.2) hp] at h1
  simpa using h1
 ·obtain⟨s,rfl,rfl,hs⟩:=keyB_inv hK hkey
  rw[hl s hs] at hlk
  simp only[Bool.and_eq_true,decide_eq_true_eq] at hlk
  obtain⟨u,hu⟩:=Option.isSome_iff_exists.1 hlk.1
  have huv:v=u:=by
   have h2:=hat .nil
   rw[hD s hs,hu] at h2
   simp only[rawR,Option.some.injEq] at hv
   subst hv
   simp at h2
   exact h2.symm
  subst huv
  refine .inr ⟨s,v,w',ent_mem hu,hlk.2,hs,hrun,⟨h.once,h.ok,?_,?_,D,_,_,hrg,hD,fun x hx=>?_⟩,by rw[hrg.left_eq,hr.left_eq];exact hlt,⟨hgr.os,hgr.tape,hgr.output,hgr.size,fun k hk hn=>hgr.block k hk (fun e=>hn (by injection e))⟩,hsz,hen⟩
  ·exact List.nodup_append.2 ⟨h.nodup,by simp,fun a ha c hc e=>by simp at hc;subst e hc;exact hlk.2 ha⟩
  ·intro x hx
   rcases List.mem_append.1 hx with hx|hx
   ·exact h.sub x hx
   ·simp at hx;subst hx;exact List.mem_map_of_mem (f:=(·.1)) (ent_mem hu)
  ·show (left (litB x)&&!(litB x).sameKey (litB s))=_
   rw[hl x hx]
   by_cases e:x=s
   ·subst e;rw[WideAt.sameKey_self (litB_key _)];simp
   ·rw[sameKey_ne (fun h=>e (litB_inj h))];simp[e]
end
section
variable {P:Program} {w:World} {ops:Array Oper} {rest:List Oper} {o:Oper} {a:Act} {Q:Exit→Act→World→Prop} {K T e:TypeId} {b r:Nat} {E:List (ByteArray×Value)} {seen:List ByteArray}
theorem wpList_rangeB (hg:o.guard=none) {m:Operand} (hop:o.op=Op.range T m) (hK:P.underlying K=some .string) (hT:P.underlying T=some (.map K e)) (hm:a.eval m=.map (some b)) (h:MapAt P K w b E)
  (hk:∀ w',RangeAt P K w' b w.heap.size E []→Below w.heap.size w w'→w'.heap.size=w.heap.size+1→wpList P ops Q rest (a.put o.dst (.pointer (some ⟨w.heap.size,0,none⟩))) w'):wpList P ops Q (o::rest) a w:=by
 refine wpList_plain hg fun K' hK'=>?_
 obtain⟨w',hrun,r1,r2,r3⟩:=h.range hK hT
 unfold Oper.wp
 simp[execOp,hop,hm,hrun,Result.andThen]
 exact hK' _ _ (hk w' r1 r2 r3)
theorem wpList_nextB (hg:o.guard=none) {it:Operand} (hop:o.op=Op.next it false) (hK:P.underlying K=some .string) (hit:a.eval it=.pointer (some ⟨r,0,none⟩)) (h:RangeAt P K w b r E seen)
  (hDone:seen.Perm (E.map (·.1))→wpList P ops Q rest (a.put o.dst (.tuple #[.bool false])) w)
  (hMore:∀ s v w',(s,v)∈E→s ∉ seen→okS s→RangeAt P K w' b r E (seen++[s])→w'.rangeLeft b r<w.rangeLeft b r→But (fun k=>k=r) w w'→w'.heap.size=w.heap.size →
   (Instr.entry (.pointer (some ⟨r,0,none⟩))).run P w'=.ok (.tuple #[.string s,v]) w'→wpList P ops Q rest (a.put o.dst (.tuple #[.bool true,.string s,v])) w'):wpList P ops Q (o::rest) a w:=by
 refine wpList_plain hg fun K' hK'=>?_
 unfold Oper.wp
 rcases h.next hK o.type with ⟨h0,hrun⟩|⟨s,v,w',h1,h2,h3,hrun,h4,h5,h6,h7,h8⟩
 ·simp[execOp,hop,hit,hrun,Result.andThen]
  exact hK' _ _ (hDone h0)
 ·simp[execOp,hop,hit,hrun,Result.andThen]
  exact hK' _ _ (hMore s v w' h1 h2 h3 h4 h5 h6 h7 h8)
end
end Go.Afx
namespace Go.Afx
open Go.RowKit
def layA (cs:Array Value):Nat→List Value→Array Value
 | _,[]=>cs
 | o,v::r=>layA (cs.setIfInBounds o v) (o+1) r
theorem IsBlk.setCells {t:TypeId} {g:Nat}:∀ (vs:List Value) (o:Nat) (w:World) (cs:Array Value),IsBlk w g t cs→IsBlk (w.setCells g o vs) g t (layA cs o vs)
 | [],_,_,_,h=>h
 | v::r,o,_,_,h=>IsBlk.setCells r (o+1) _ _ (h.stored o v)
theorem But.setCells {S:Nat→Prop} {a:World} {g:Nat} (hg:S g∨a.heap.size≤g):∀ (vs:List Value) (o:Nat) (w:World),But S a w→But S a (w.setCells g o vs)
 | [],_,_,h=>h
 | v::r,o,_,h=>But.setCells hg r (o+1) _ (h.setCell (p:=⟨g,o,none⟩) hg v)
end Go.Afx

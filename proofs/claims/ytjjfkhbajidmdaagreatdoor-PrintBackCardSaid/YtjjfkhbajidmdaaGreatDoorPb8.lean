/- Parts of this proof, one behind the other: RefS, RefO, RefW. -/
import Derived.Test.YtjjfkhbajidmdaaGreatDoorPb7
import Derived.Outline
set_option maxRecDepth 1000000
set_option maxHeartbeats 40000000
namespace Go.Proofs.YtjjfkhbajidmdaaGreatDoor
open Go.RowKit Go.Afx
def PS (hue:Nat→Nat) (w:World) (k:Nat) (r:List Value) (x:St):Prop:=bQ (Hu hue 0) (50+k+1) w r x
structure pK (F:Nat→Prop) (w wr:World) (hue:Nat→Nat) (es:List Ex) (ss:List St) (A0:Option Addr) (c0:Nat) (A1:Option Addr) (c1:Nat) (A2:Option Addr) (c2:Nat) (A3:Option Addr) (c3:Nat) (A4:Option Addr) (c4:Nat) (A5:Option Addr) (c5:Nat):Prop where
 box:af wr (w.heap.size+1) 44 #[.slice A0 es.length c0,.slice A1 es.length c1,.slice A2 es.length c2,.slice A3 ss.length c3,.slice A4 ss.length c4,.slice A5 ss.length c5]
 res:af wr w.heap.size 44 #[.slice none 0 0,.slice none 0 0,.slice none 0 0,.slice none 0 0,.slice none 0 0,.slice none 0 0]
 hb:hue (w.heap.size+1)=1
 hr:hue w.heap.size=9
 old:∀ b,b<w.heap.size→(F b→hue b=0)∧(¬ F b→hue b=8)
 Va:aO (Hu hue 0) 50 wr A0 es.length c0 es
 nod:ai (Hu hue 0) wr 1 kD A1 es.length c1 (es.map fun x=>(bZ x).1)
 dep:ai (Hu hue 0) wr 1 kD A2 es.length c2 (es.map fun x=>(bZ x).2)
 tri:WV hue 2 w.heap.size wr 49 8 3 (PS hue wr) aX A3 c3 A4 c4 A5 c5 ss
 low:Below w.heap.size w wr
 few:es.length≤50
 adm:ss.length≤50
def YQ (F:Nat→Prop) (w wr:World):Prop:=∃ hue es A0 c0 A1 c1 A2 c2,pK F w wr hue es [] A0 c0 A1 c1 A2 c2 none 0 none 0 none 0
theorem pJ.end_ {F:Nat→Prop} {w wr:World} {hue:Nat→Nat} {es:List Ex} {A0 A1 A2:Option Addr} {c0 c1 c2:Nat} (h:pJ F w wr hue es A0 c0 A1 c1 A2 c2 (.slice none 0 0) (.slice none 0 0) (.slice none 0 0)):YQ F w wr:=by
 let zL:Nat→Nat:=fun b=>if hue b=2∨hue b=3∨hue b=4 then 0 else hue b
 have e0:∀ b,hue b=0→zL b=0:=fun b hb=>by show (if _ then _ else _)=0;rw[hb];simp
 have e1:zL (w.heap.size+1)=1:=by show (if _ then _ else _)=1;rw[h.hb];simp
 have e9:zL w.heap.size=9:=by show (if _ then _ else _)=9;rw[h.hr];simp
 obtain⟨k1,k2,k3⟩:=h.tri.lists (F:=Hu zL 0) (Q:=aC (Hu zL 0) 50 wr) (fun b _ hb=>by
   show (if _ then _ else _)=0
   rw[if_pos (by simpa using hb)]) (fun k r x hk hp=>by
   have:=h.few
   exact aC.turn (fun b _ hb=>e0 b hb) (Kept.refl _ _) (k+1) (by omega) hp) (fun x=>Wu (kH x))
 exact⟨zL,es,A0,c0,A1,c1,A2,c2,h.box,h.res,e1,e9,fun b hb=>⟨fun hf=>e0 b ((h.old b hb).1 hf),fun hf=>by have e:=(h.old b hb).2 hf;show (if _ then _ else _)=8;rw[e];simp⟩,k1,k2,k3,WV.nil_ _ _ _ _ _ _ _ _ _,h.low,h.few,by simp⟩
def lL {α:Type} (base:Nat) (w:World) (T:TypeId) (sz:Nat) (P:List Value→α→Prop) (xs:List α) (A:Option Addr) (c:Nat):Prop :=
 ∃ rows:List (List Value),w.ownsRow base T sz (.slice A xs.length c) xs.length rows.flatten∧rows.length=xs.length∧(∀ r∈rows,r.length=sz)∧∀ (j:Nat) (r:List Value) (x:α),rows[j]?=some r→xs[j]?=some x→P r x
section
variable {α:Type} {base:Nat} {w w':World} {T:TypeId} {sz:Nat} {P:List Value→α→Prop} {xs:List α} {A:Option Addr} {c:Nat} {S:Nat→Prop}
theorem lL.nil_ (base:Nat) (w:World) (T:TypeId) (sz:Nat) (P:List Value→α→Prop):lL base w T sz P [] none 0:=⟨[],World.ownsRow_nil _ _ _ _,rfl,(by intro r h;cases h),fun j r x h=>by simp at h⟩
theorem lL.lo (h:lL base w T sz P xs A c):∀ a,A=some a→base≤a.block∧a.block<w.heap.size:=by
 intro a ha;subst ha;obtain⟨rows,hown,_⟩:=h;exact hown.lt a.block rfl
theorem lL.keep (h:lL base w T sz P xs A c) (hb:But S w w') (hS:∀ a,A=some a→¬ S a.block):lL base w' T sz P xs A c:=by
 obtain⟨rows,hown,h1,h2,h3⟩:=h
 refine⟨rows,eP hown hb fun g hg=>?_,h1,h2,h3⟩
 cases A with
 | none=>cases hg
 | some a =>
  have e:a.block=g:=by simpa [Value.ownBlock] using hg
  subst e
  exact hS a rfl
theorem lL.add {rows:List (List Value)} {A2:Option Addr} {c2:Nat} {re:List Value} {x:α} (hrl:rows.length=xs.length) (hrw:∀ r∈rows,r.length=sz) (uT:∀ (j:Nat) (r:List Value) (x:α),rows[j]?=some r→xs[j]?=some x→P r x)
  (hre:re.length=sz) (hx:P re x) {m:Nat} (hm:xs.length=m) (hown:w.ownsRow base T sz (.slice A2 (m+1) c2) (m+1) (rows++[re]).flatten):lL base w T sz P (xs++[x]) A2 c2:=by
 have hl:(xs++[x]).length=m+1:=by simp[hm]
 refine⟨rows++[re],by rw[hl];exact hown,by simp[hrl],fun r hr=>?_,fun j r y hr hy=>?_⟩
 ·rcases List.mem_append.1 hr with hr|hr
  ·exact hrw r hr
  ·rw[List.mem_singleton.1 hr];exact hre
 ·rcases Nat.lt_or_ge j xs.length with hj|hj
  ·rw[List.getElem?_append_left (by omega)] at hr hy
   exact uT j r y hr hy
  ·rw[List.getElem?_append_right (by omega)] at hr hy
   have hj0:j-xs.length=0:=by
    have:=(List.getElem?_eq_some_iff.1 hy).1
    simp at this;omega
   rw[hj0] at hy
   rw[hrl,hj0] at hr
   simp at hr hy
   subst hr hy
   exact hx
theorem lL.ls {F:Nat→Prop} {P':List Value→α→Prop} (h:lL base w T sz P xs A c) (hF:∀ b,base≤b→F b) (hP:∀ r x,P r x→P' r x):ai F w sz P' A xs.length c xs:=by
 obtain⟨rows,hown,h1,h2,h3⟩:=id h
 exact⟨rows,az.kS hown h2 h1,fun a ha _=>hF _ (h.lo a ha).1,h1,fun j r x hr hx=>⟨h2 r (List.mem_of_getElem? hr),hP r x (h3 j r x hr hx)⟩⟩
end
def apart (A B:Option Addr):Prop:=∀ a b,A=some a→B=some b→a.block≠b.block
structure iW (w2 wr:World) (g:Nat) (hue:Nat→Nat) (w0:World) (k:Nat) (x:Kn) (Ac:Option Addr) (nc cc:Nat) (exprs:List Ex) (body els:List St) (Ae:Option Addr) (ce:Nat) (Ab:Option Addr) (cb:Nat) (Al:Option Addr) (cl:Nat):Prop where
 box:af wr g 49 #[.int .i64 x.op,.string x.name,.string x.src,.int .i64 x.n,.slice Ac nc cc,.slice Ae exprs.length ce,.slice Ab body.length cb,.slice Al els.length cl]
 Va:lL w2.heap.size wr 55 6 (aC (Hu hue 0) 50 w0) exprs Ae ce
 RY:lL w2.heap.size wr 49 8 (bQ (Hu hue 0) (50+k) w0) body Ab cb
 els:lL w2.heap.size wr 49 8 (bQ (Hu hue 0) (50+k) w0) els Al cl
 eb:apart Ae Ab
 el:apart Ae Al
 bl:apart Ab Al
 but:But (fun b=>b=g) w2 wr
theorem kU (A:Option Addr):apart A none:=fun a b _ h=>by cases h
theorem iW.start {w2:World} {g:Nat} (hue:Nat→Nat) (w0:World) (k:Nat) (x:Kn) (Ac:Option Addr) (nc cc:Nat) (h:af w2 g 49 #[.int .i64 x.op,.string x.name,.string x.src,.int .i64 x.n,.slice Ac nc cc,.slice none 0 0,.slice none 0 0,.slice none 0 0]) :
  iW w2 w2 g hue w0 k x Ac nc cc [] [] [] none 0 none 0 none 0 :=
 ⟨h,lL.nil_ _ _ _ _ _,lL.nil_ _ _ _ _ _,lL.nil_ _ _ _ _ _,kU _,kU _,kU _,But.refl _ _⟩
theorem gQ {w2 wr w3:World} {g j:Nat} {Aa A3 B:Option Addr} {o:Obj} {u:Value} (hlt:∀ a,Aa=some a→w2.heap.size≤a.block∧a.block<wr.heap.size) (hB:∀ b,B=some b→w2.heap.size≤b.block∧b.block<wr.heap.size) (hap:apart Aa B∨apart B Aa) (hg:g<w2.heap.size)
  (dB:But (fun k=>Aa.map (·.block)=some k) ((wr.drew).alloc o) w3) (hf3:∀ a2,A3=some a2→Aa=some a2∨((wr.drew).alloc o).heap.size≤a2.block) :
  But (fun b=>Aa.map (·.block)=some b∨b=g) wr (w3.setCell ⟨g,j,none⟩ u)∧(∀ b,B=some b→¬ (Aa.map (·.block)=some b.block∨b.block=g))∧apart A3 B∧apart B A3:=by
 have hz:((wr.drew).alloc o).heap.size=wr.heap.size+1:=by simp
 have hne:∀ a b,Aa=some a→B=some b→a.block≠b.block:=fun a b ha hb=>by
  rcases hap with h|h
  ·exact h a b ha hb
  ·exact fun e=>h b a hb ha e.symm
 have h3:∀ a b,A3=some a→B=some b→a.block≠b.block:=fun a b ha hb=>by
  rcases hf3 a ha with h|h
  ·exact hne a b h hb
  ·have:=(hB b hb).2
   omega
 refine⟨?_,fun b hb hx=>?_,h3,fun b a hb ha e=>h3 a b ha hb e.symm⟩
 ·have h1:But (fun b=>Aa.map (·.block)=some b∨b=g) wr ((wr.drew).alloc o):=((But.refl _ wr).drew).alloc o
  exact(h1.trans dB fun i hi=>.inl (.inl hi)).setCell (p:=⟨g,j,none⟩) (.inl (.inr rfl)) _
 ·rcases hx with hx|hx
  ·cases Aa with
   | none=>cases hx
   | some a=>exact hne a b rfl hb (by simpa using hx)
  ·have:=(hB b hb).1
   omega
theorem iW.aol {w2 wr w0 w3:World} {g k m:Nat} {hue:Nat→Nat} {x:Kn} {Ac:Option Addr} {nc cc:Nat} {exprs:List Ex} {body els:List St} {Ae Ab Al A3:Option Addr} {ce cb cl c3:Nat} {rows:List (List Value)} {re:List Value} {a:Ex} {o:Obj}
    (h:iW w2 wr g hue w0 k x Ac nc cc exprs body els Ae ce Ab cb Al cl) (hm:exprs.length=m) (hg:g<w2.heap.size) (hrl:rows.length=exprs.length) (hrw:∀ r∈rows,r.length=6)
    (uT:∀ (j:Nat) (r:List Value) (e:Ex),rows[j]?=some r→exprs[j]?=some e→aC (Hu hue 0) 50 w0 r e) (hre:re.length=6) (hra:aC (Hu hue 0) 50 w0 re a)
    (hown3:w3.ownsRow w2.heap.size 55 6 (.slice A3 (m+1) c3) (m+1) (rows++[re]).flatten) (dB:But (fun k=>Ae.map (·.block)=some k) ((wr.drew).alloc o) w3) (hf3:∀ a2,A3=some a2→Ae=some a2∨((wr.drew).alloc o).heap.size≤a2.block) :
    iW w2 (w3.setCell ⟨g,5,none⟩ (.slice A3 (m+1) c3)) g hue w0 k x Ac nc cc (exprs++[a]) body els A3 c3 Ab cb Al cl:=by
  have hl:(exprs++[a]).length=m+1:=by simp[hm]
  have hz:=h.but.size
  have hlo:=h.Va.lo
  have hg3:¬ Ae.map (·.block)=some g:=fun e=>by
    cases Ae with
    | none=>cases e
    | some a1 => have:=(hlo a1 rfl).1;have e:a1.block=g:=by simpa using e
                 omega
  have hgb:But (fun b=>Ae.map (·.block)=some b∨b=g) wr (w3.setCell ⟨g,5,none⟩ (.slice A3 (m+1) c3)):=(gQ (j:=5) (u:=.slice A3 (m+1) c3) (B:=none) hlo (fun b hb=>by cases hb) (.inl (kU _)) hg dB hf3).1
  obtain⟨_,n0,p0,q0⟩:=gQ (j:=5) (u:=.slice A3 (m+1) c3) (B:=Ab) hlo h.RY.lo (.inl h.eb) hg dB hf3
  obtain⟨_,n1,p1,q1⟩:=gQ (j:=5) (u:=.slice A3 (m+1) c3) (B:=Al) hlo h.els.lo (.inl h.el) hg dB hf3
  have hbx:af (w3.setCell ⟨g,5,none⟩ (.slice A3 (m+1) c3)) g 49 _:=(((show af wr.drew g _ _ from h.box).alloc o).ag (dB.block g (by have:=h.box.lt;simp;omega) hg3)).stored 5 (.slice A3 (m+1) c3)
  have hown:lL w2.heap.size (w3.setCell ⟨g,5,none⟩ (.slice A3 (m+1) c3)) 55 6 (aC (Hu hue 0) 50 w0) (exprs++[a]) A3 c3 :=
    (lL.add hrl hrw uT hre hra hm hown3).keep ((But.refl (fun b=>b=g) w3).setCell (p:=⟨g,5,none⟩) (.inl rfl) _) fun a3 ha e=>by
      rcases hf3 a3 ha with h1|h1
      · have:=(hlo a3 h1).1;omega
      · simp at h1;omega
  have fE : But (fun b=>b=g) w2 (w3.setCell ⟨g,5,none⟩ (.slice A3 (m+1) c3)):=h.but.trans hgb fun i hi=>by
    rcases hi with hi|hi
    · cases Ae with
      | none=>cases hi
      | some a1 => have:=(hlo a1 rfl).1;have e:a1.block=i:=by simpa using hi
                   exact .inr (by omega)
    · exact .inl hi
  exact⟨by rw[hl];exact hbx,hown,h.RY.keep hgb n0,h.els.keep hgb n1,p0,p1,h.bl,fE⟩
theorem iW.aom {w2 wr w0 w3:World} {g k m:Nat} {hue:Nat→Nat} {x:Kn} {Ac:Option Addr} {nc cc:Nat} {exprs:List Ex} {body els:List St} {Ae Ab Al A3:Option Addr} {ce cb cl c3:Nat} {rows:List (List Value)} {re:List Value} {a:St} {o:Obj}
    (h:iW w2 wr g hue w0 k x Ac nc cc exprs body els Ae ce Ab cb Al cl) (hm:body.length=m) (hg:g<w2.heap.size) (hrl:rows.length=body.length) (hrw:∀ r∈rows,r.length=8)
    (uT:∀ (j:Nat) (r:List Value) (e:St),rows[j]?=some r→body[j]?=some e→bQ (Hu hue 0) (50+k) w0 r e) (hre:re.length=8) (hra:bQ (Hu hue 0) (50+k) w0 re a)
    (hown3:w3.ownsRow w2.heap.size 49 8 (.slice A3 (m+1) c3) (m+1) (rows++[re]).flatten) (dB:But (fun k=>Ab.map (·.block)=some k) ((wr.drew).alloc o) w3) (hf3:∀ a2,A3=some a2→Ab=some a2∨((wr.drew).alloc o).heap.size≤a2.block) :
    iW w2 (w3.setCell ⟨g,6,none⟩ (.slice A3 (m+1) c3)) g hue w0 k x Ac nc cc exprs (body++[a]) els Ae ce A3 c3 Al cl:=by
  have hl:(body++[a]).length=m+1:=by simp[hm]
  have hz:=h.but.size
  have hlo:=h.RY.lo
  have hg3:¬ Ab.map (·.block)=some g:=fun e=>by
    cases Ab with
    | none=>cases e
    | some a1 => have:=(hlo a1 rfl).1;have e:a1.block=g:=by simpa using e
                 omega
  have hgb:But (fun b=>Ab.map (·.block)=some b∨b=g) wr (w3.setCell ⟨g,6,none⟩ (.slice A3 (m+1) c3)):=(gQ (j:=6) (u:=.slice A3 (m+1) c3) (B:=none) hlo (fun b hb=>by cases hb) (.inl (kU _)) hg dB hf3).1
  obtain⟨_,n0,p0,q0⟩:=gQ (j:=6) (u:=.slice A3 (m+1) c3) (B:=Ae) hlo h.Va.lo (.inr h.eb) hg dB hf3
  obtain⟨_,n1,p1,q1⟩:=gQ (j:=6) (u:=.slice A3 (m+1) c3) (B:=Al) hlo h.els.lo (.inl h.bl) hg dB hf3
  have hbx:af (w3.setCell ⟨g,6,none⟩ (.slice A3 (m+1) c3)) g 49 _:=(((show af wr.drew g _ _ from h.box).alloc o).ag (dB.block g (by have:=h.box.lt;simp;omega) hg3)).stored 6 (.slice A3 (m+1) c3)
  have hown:lL w2.heap.size (w3.setCell ⟨g,6,none⟩ (.slice A3 (m+1) c3)) 49 8 (bQ (Hu hue 0) (50+k) w0) (body++[a]) A3 c3 :=
    (lL.add hrl hrw uT hre hra hm hown3).keep ((But.refl (fun b=>b=g) w3).setCell (p:=⟨g,6,none⟩) (.inl rfl) _) fun a3 ha e=>by
      rcases hf3 a3 ha with h1|h1
      · have:=(hlo a3 h1).1;omega
      · simp at h1;omega
  have fE : But (fun b=>b=g) w2 (w3.setCell ⟨g,6,none⟩ (.slice A3 (m+1) c3)):=h.but.trans hgb fun i hi=>by
    rcases hi with hi|hi
    · cases Ab with
      | none=>cases hi
      | some a1 => have:=(hlo a1 rfl).1;have e:a1.block=i:=by simpa using hi
                   exact .inr (by omega)
    · exact .inl hi
  exact⟨by rw[hl];exact hbx,h.Va.keep hgb n0,hown,h.els.keep hgb n1,q0,h.el,p1,fE⟩
theorem iW.aon {w2 wr w0 w3:World} {g k m:Nat} {hue:Nat→Nat} {x:Kn} {Ac:Option Addr} {nc cc:Nat} {exprs:List Ex} {body els:List St} {Ae Ab Al A3:Option Addr} {ce cb cl c3:Nat} {rows:List (List Value)} {re:List Value} {a:St} {o:Obj}
    (h:iW w2 wr g hue w0 k x Ac nc cc exprs body els Ae ce Ab cb Al cl) (hm:els.length=m) (hg:g<w2.heap.size) (hrl:rows.length=els.length) (hrw:∀ r∈rows,r.length=8)
    (uT:∀ (j:Nat) (r:List Value) (e:St),rows[j]?=some r→els[j]?=some e→bQ (Hu hue 0) (50+k) w0 r e) (hre:re.length=8) (hra:bQ (Hu hue 0) (50+k) w0 re a)
    (hown3:w3.ownsRow w2.heap.size 49 8 (.slice A3 (m+1) c3) (m+1) (rows++[re]).flatten) (dB:But (fun k=>Al.map (·.block)=some k) ((wr.drew).alloc o) w3) (hf3:∀ a2,A3=some a2→Al=some a2∨((wr.drew).alloc o).heap.size≤a2.block) :
    iW w2 (w3.setCell ⟨g,7,none⟩ (.slice A3 (m+1) c3)) g hue w0 k x Ac nc cc exprs body (els++[a]) Ae ce Ab cb A3 c3:=by
  have hl:(els++[a]).length=m+1:=by simp[hm]
  have hz:=h.but.size
  have hlo:=h.els.lo
  have hg3:¬ Al.map (·.block)=some g:=fun e=>by
    cases Al with
    | none=>cases e
    | some a1 => have:=(hlo a1 rfl).1;have e:a1.block=g:=by simpa using e
                 omega
  have hgb:But (fun b=>Al.map (·.block)=some b∨b=g) wr (w3.setCell ⟨g,7,none⟩ (.slice A3 (m+1) c3)):=(gQ (j:=7) (u:=.slice A3 (m+1) c3) (B:=none) hlo (fun b hb=>by cases hb) (.inl (kU _)) hg dB hf3).1
  obtain⟨_,n0,p0,q0⟩:=gQ (j:=7) (u:=.slice A3 (m+1) c3) (B:=Ae) hlo h.Va.lo (.inr h.el) hg dB hf3
  obtain⟨_,n1,p1,q1⟩:=gQ (j:=7) (u:=.slice A3 (m+1) c3) (B:=Ab) hlo h.RY.lo (.inr h.bl) hg dB hf3
  have hbx:af (w3.setCell ⟨g,7,none⟩ (.slice A3 (m+1) c3)) g 49 _:=(((show af wr.drew g _ _ from h.box).alloc o).ag (dB.block g (by have:=h.box.lt;simp;omega) hg3)).stored 7 (.slice A3 (m+1) c3)
  have hown:lL w2.heap.size (w3.setCell ⟨g,7,none⟩ (.slice A3 (m+1) c3)) 49 8 (bQ (Hu hue 0) (50+k) w0) (els++[a]) A3 c3 :=
    (lL.add hrl hrw uT hre hra hm hown3).keep ((But.refl (fun b=>b=g) w3).setCell (p:=⟨g,7,none⟩) (.inl rfl) _) fun a3 ha e=>by
      rcases hf3 a3 ha with h1|h1
      · have:=(hlo a3 h1).1;omega
      · simp at h1;omega
  have fE : But (fun b=>b=g) w2 (w3.setCell ⟨g,7,none⟩ (.slice A3 (m+1) c3)):=h.but.trans hgb fun i hi=>by
    rcases hi with hi|hi
    · cases Al with
      | none=>cases hi
      | some a1 => have:=(hlo a1 rfl).1;have e:a1.block=i:=by simpa using hi
                   exact .inr (by omega)
    · exact .inl hi
  exact⟨by rw[hl];exact hbx,h.Va.keep hgb n0,h.RY.keep hgb n1,hown,h.eb,q0,q1,fE⟩
theorem iW.below {w1 w2 wr w0:World} {g k:Nat} {hue:Nat→Nat} {x:Kn} {Ac:Option Addr} {nc cc:Nat} {exprs:List Ex} {body els:List St} {Ae Ab Al:Option Addr} {ce cb cl:Nat}
  (h:iW w2 wr g hue w0 k x Ac nc cc exprs body els Ae ce Ab cb Al cl) (hb:Below w1.heap.size w1 w2) (hg:w1.heap.size≤g):Below w1.heap.size w1 wr :=
 hb.trans (h.but.below' hb.size fun i hi=>by subst hi;exact hg)
theorem iW.done {w1 w2 wr:World} {g k:Nat} {hue:Nat→Nat} {x:Kn} {Ac:Option Addr} {nc cc:Nat} {exprs:List Ex} {body els:List St} {Ae Ab Al:Option Addr} {ce cb cl:Nat} {F:Nat→Prop}
  (h:iW w2 wr g hue w1 k x Ac nc cc exprs body els Ae ce Ab cb Al cl) (hb:Below w1.heap.size w1 wr) (hz:w1.heap.size≤w2.heap.size) (G5:ai F w1 1 dL Ac nc cc x.cols) (hF:∀ b,F b→hue b=0)
  (o1:okI x.op) (o2:okI x.n) (o3:okS x.name) (o4:okS x.src) :
  PS (aK hue w1 0) wr k [.int .i64 x.op,.string x.name,.string x.src,.int .i64 x.n,.slice Ac nc cc,.slice Ae exprs.length ce,.slice Ab body.length cb,.slice Al els.length cl] (.mk x.op x.name x.src x.n x.cols exprs body els):=by
 have hh:∀ b,b<w1.heap.size→hue b=0→Hu (aK hue w1 0) 0 b:=fun b hb0 h0=>(aT b hb0).trans h0
 have hn:∀ b,w2.heap.size≤b→Hu (aK hue w1 0) 0 b:=fun b hb0=>zK (by omega)
 exact⟨o1,o2,o3,o4,Ac,nc,cc,Ae,exprs.length,ce,Ab,body.length,cb,Al,els.length,cl,rfl,G5.conv (Kept.of_below hb) (fun a ha h0 hf=>hh _ (G5.lt h0 a ha) (hF _ hf)) (fun _ _ _ h=>h),
  h.Va.ls hn fun r e he=>aC.turn hh (Kept.of_below hb) 50 (by omega) he,h.RY.ls hn fun r e he=>bQ.turn hh (Kept.of_below hb) (50+k) (Nat.le_refl _) he,h.els.ls hn fun r e he=>bQ.turn hh (Kept.of_below hb) (50+k) (Nat.le_refl _) he⟩
theorem lL.mem {α:Type} {base:Nat} {w:World} {T:TypeId} {sz:Nat} {P:List Value→α→Prop} {xs:List α} {A:Option Addr} {c:Nat} (h:lL base w T sz P xs A c):∀ x∈xs,∃ r,P r x:=by
 obtain⟨rows,_,h1,_,h3⟩:=h
 intro x hx
 obtain⟨j,hj⟩:=List.mem_iff_getElem?.1 hx
 have hlt:=(List.getElem?_eq_some_iff.1 hj).1
 exact⟨_,h3 j _ x (List.getElem?_eq_getElem (by omega)) hj⟩
theorem JY (d:Nat):∀ {d':Nat} {e:St},d≤d'→Ez d e→Ez d' e:=by
 induction d with
 | zero=>intro d' e _ h;exact h.elim
 | succ d ih =>
  intro d' e hd h
  obtain⟨d',rfl⟩:∃ k,d'=k+1:=⟨d'-1,by omega⟩
  exact⟨fun x hx=>uS.mono d (by omega) (h.1 x hx),fun x hx=>ih (by omega) (h.2.1 x hx),fun x hx=>ih (by omega) (h.2.2 x hx)⟩
theorem iW.tell {w2 wr w1:World} {g k:Nat} {hue:Nat→Nat} {x:Kn} {Ac:Option Addr} {nc cc:Nat} {exprs:List Ex} {body els:List St} {Ae Ab Al:Option Addr} {ce cb cl:Nat}
  (h:iW w2 wr g hue w1 k x Ac nc cc exprs body els Ae ce Ab cb Al cl) (hk:k≤49) :
  rP (1+(sumT (exprs.map bZ)+sumT (body.map aX)+sumT (els.map aX)),max (max (iU (exprs.map bZ)) (iU (body.map aX))) (iU (els.map aX)))=aX (.mk x.op x.name x.src x.n x.cols exprs body els) :=
 acZ (fun a ha=>by obtain⟨r,hr⟩:=h.Va.mem a ha;exact hr.fits) (fun a ha=>by obtain⟨r,hr⟩:=h.RY.mem a ha;exact JY (50+k) (by omega) hr.fits) (fun a ha=>by obtain⟨r,hr⟩:=h.els.mem a ha;exact JY (50+k) (by omega) hr.fits)
theorem pK.later {F:Nat→Prop} {w w1 wr:World} {hue:Nat→Nat} {es:List Ex} {ss:List St} {A0 A1 A2 A3 A4 A5:Option Addr} {c0 c1 c2 c3 c4 c5:Nat} (h:pK F w w1 hue es ss A0 c0 A1 c1 A2 c2 A3 c3 A4 c4 A5 c5) (hb:Below w1.heap.size w1 wr):pK F w wr (aK hue w1 0) es ss A0 c0 A1 c1 A2 c2 A3 c3 A4 c4 A5 c5:=by
 have hh:∀ b,b<w1.heap.size→Hu hue 0 b→Hu (aK hue w1 0) 0 b:=fun b hb0 h0=>(aT b hb0).trans h0
 exact⟨h.box.ag (hb.block _ h.box.lt),h.res.ag (hb.block _ h.res.lt),(aT _ h.box.lt).trans h.hb,(aT _ h.res.lt).trans h.hr,fun b hb0=>by rw[aT _ (Nat.lt_of_lt_of_le hb0 h.low.size)];exact h.old b hb0,
  aO.turn hh (Kept.of_below hb) (Nat.le_refl _) h.Va,h.nod.conv (Kept.of_below hb) (fun a ha h0 hf=>hh _ (h.nod.lt h0 a ha) hf) (fun _ _ _ h=>h),h.dep.conv (Kept.of_below hb) (fun a ha h0 hf=>hh _ (h.dep.lt h0 a ha) hf) (fun _ _ _ h=>h),
  h.tri.keep (S:=fun _=>False) (But.of_below hb) (fun _ _ hf=>hf.elim) aT fun _ _ _ _ hp=>bQ.turn hh (Kept.of_below hb) _ (Nat.le_refl _) hp,h.low.trans (hb.mono h.low.size),h.few,h.adm⟩
theorem pK.add {F:Nat→Prop} {w wr W3 W6 W9:World} {h0:Nat→Nat} {es:List Ex} {ss:List St} {A0 A1 A2 A3 A4 A5 B0 B1 B2:Option Addr} {c0 c1 c2 c3 c4 c5 d0 d1 d2 k:Nat} (h:pK F w wr h0 es ss A0 c0 A1 c1 A2 c2 A3 c3 A4 c4 A5 c5) {E:St} (hk:ss.length=k) (h50:k<50) {SE SG:Int} (hte:aX E=(SE,SG))
  {rows:List (List Value)} (uT:∀ (j:Nat) (r:List Value) (e:St),rows[j]?=some r→ss[j]?=some e→PS h0 wr j r e) {r0:List Value} (hr0:PS h0 wr k r0 E)
  (b1:But (fun b=>h0 b=2∨b=w.heap.size+1) wr W3) (b2:But (fun b=>aK h0 wr 2 b=3∨b=w.heap.size+1) W3 W6) (b3:But (fun b=>aK (aK h0 wr 2) W3 3 b=4∨b=w.heap.size+1) W6 W9)
  (r1:eQ (aK h0 wr 2) 2 w.heap.size W3 49 8 B0 (k+1) d0 (rows++[r0])) (r2:eQ (aK (aK h0 wr 2) W3 3) 3 w.heap.size W6 3 1 B1 (k+1) d1 (ss.map (fun x=>[.int .i64 (aX x).1])++[[.int .i64 SE]]))
  (r3:eQ (aK (aK (aK h0 wr 2) W3 3) W6 4) 4 w.heap.size W9 3 1 B2 (k+1) d2 (ss.map (fun x=>[.int .i64 (aX x).2])++[[.int .i64 SG]]))
  (hbox:af W9 (w.heap.size+1) 44 #[.slice A0 es.length c0,.slice A1 es.length c1,.slice A2 es.length c2,.slice B0 (k+1) d0,.slice B1 (k+1) d1,.slice B2 (k+1) d2]) :
  pK F w W9 (aK (aK (aK h0 wr 2) W3 3) W6 4) es (ss++[E]) A0 c0 A1 c1 A2 c2 B0 d0 B1 d1 B2 d2:=by
 have z1:=b1.size
 have z2:=b2.size
 have z3:=b3.size
 have e1:∀ b,b<wr.heap.size→aK h0 wr 2 b=h0 b:=aT
 have e2:∀ b,b<wr.heap.size→aK (aK h0 wr 2) W3 3 b=h0 b:=fun b hb=>(aT b (by omega)).trans (e1 b hb)
 have e3:∀ b,b<wr.heap.size→aK (aK (aK h0 wr 2) W3 3) W6 4 b=h0 b:=fun b hb=>(aT b (by omega)).trans (e2 b hb)
 have hbl:=h.box.lt
 have hl:(ss++[E]).length=k+1:=by simp[hk]
 have hlow:=h.low.size
 -- all in one
 have hall:But (fun b=>b<wr.heap.size∧(h0 b=2∨h0 b=3∨h0 b=4∨b=w.heap.size+1)) wr W9:=by
  refine⟨b3.os.trans (b2.os.trans b1.os),b3.tape.trans (b2.tape.trans b1.tape),b3.output.trans (b2.output.trans b1.output),by omega,fun b hb hn=>?_⟩
  have n1:¬ (h0 b=2∨b=w.heap.size+1):=fun hx=>hn ⟨hb,by rcases hx with hx|hx<;>simp[hx]⟩
  have n2:¬ (aK h0 wr 2 b=3∨b=w.heap.size+1):=fun hx=>hn ⟨hb,by rw[e1 b hb] at hx;rcases hx with hx|hx<;>simp[hx]⟩
  have n3:¬ (aK (aK h0 wr 2) W3 3 b=4∨b=w.heap.size+1):=fun hx=>hn ⟨hb,by rw[e2 b hb] at hx;rcases hx with hx|hx<;>simp[hx]⟩
  exact(b3.block b (by omega) n3).trans ((b2.block b (by omega) n2).trans (b1.block b hb n1))
 have hn0:∀ b,Hu h0 0 b→¬ (b<wr.heap.size∧(h0 b=2∨h0 b=3∨h0 b=4∨b=w.heap.size+1)):=fun b h0b hx=>by
  obtain⟨hb,hx⟩:=hx
  unfold Hu at h0b
  rcases hx with hx|hx|hx|hx
  ·omega
  ·omega
  ·omega
  ·rw[hx,h.hb] at h0b;omega
 have hh:∀ b,b<wr.heap.size→Hu h0 0 b→Hu (aK (aK (aK h0 wr 2) W3 3) W6 4) 0 b:=fun b hb hf=>(e3 b hb).trans hf
 have hP0:∀ {j r e},PS h0 wr j r e→PS (aK (aK (aK h0 wr 2) W3 3) W6 4) W9 j r e:=fun hp=>bQ.turn hh (Kept.aN hall hn0) _ (Nat.le_refl _) hp
 have aiR:aK h0 wr 2 (w.heap.size+1)=1:=(e1 _ hbl).trans h.hb
 have ac2:aK (aK h0 wr 2) W3 3 (w.heap.size+1)=1:=(e2 _ hbl).trans h.hb
 have r1':=(r1.keep b2 (iq aiR (by omega) (by omega)) (aT (i:=3))).keep b3 (iq ac2 (by omega) (by omega)) (aT (i:=4))
 have r2':=r2.keep b3 (iq ac2 (by omega) (by omega)) (aT (i:=4))
 refine⟨by rw[hl];exact hbox,?_,(e3 _ hbl).trans h.hb,(e3 _ h.res.lt).trans h.hr,fun b hb=>by rw[e3 b (by omega)];exact h.old b hb,?ex,?no,?de,⟨⟨rows++[r0],by rw[hl];exact r1',fun j r e hr he=>?_⟩,?_,?_⟩,?_,h.few,by rw[hl];omega⟩
 case ex=>exact aO.turn hh (Kept.aN hall hn0) (Nat.le_refl _) h.Va
 case no=>exact h.nod.conv (Kept.aN hall hn0) (fun a ha h0 hf=>hh _ (h.nod.lt h0 a ha) hf) (fun _ _ _ h=>h)
 case de=>exact h.dep.conv (Kept.aN hall hn0) (fun a ha h0 hf=>hh _ (h.dep.lt h0 a ha) hf) (fun _ _ _ h=>h)
 ·refine h.res.ag (hall.block _ h.res.lt fun hx=>?_)
  obtain⟨_,hx⟩:=hx
  rw[h.hr] at hx
  omega
 ·have hrl:=r1.len
  have aiS:rows.length=k:=by simp at hrl;omega
  rcases Nat.lt_or_ge j k with hj|hj
  ·rw[List.getElem?_append_left (by omega)] at hr he
   exact hP0 (uT j r e hr he)
  ·rw[List.getElem?_append_right (by omega)] at hr he
   have hj0:j=k:=by
    have:=(List.getElem?_eq_some_iff.1 he).1
    simp at this;omega
   subst hj0
   rw[hk,Nat.sub_self] at he
   rw[aiS,Nat.sub_self] at hr
   simp at hr he
   subst hr he
   exact hP0 hr0
 ·rw[hl,List.map_append,List.map_cons,List.map_nil,hte];exact r2'
 ·rw[hl,List.map_append,List.map_cons,List.map_nil,hte];exact r3
 ·exact h.low.trans (hall.below' hlow fun b hx=>by
   obtain⟨hb,hx⟩:=hx
   rcases Nat.lt_or_ge b w.heap.size with hlt|hlt
   ·have:=ac1 (h.old b hlt);omega
   ·exact hlt)
theorem iW.drewN {w2 wr w0:World} {g k:Nat} {hue:Nat→Nat} {x:Kn} {Ac:Option Addr} {nc cc:Nat} {exprs:List Ex} {body els:List St} {Ae Ab Al:Option Addr} {ce cb cl:Nat}
  (h:iW w2 wr g hue w0 k x Ac nc cc exprs body els Ae ce Ab cb Al cl) (a:Nat):iW w2 (wr.drewN a) g hue w0 k x Ac nc cc exprs body els Ae ce Ab cb Al cl :=
 ⟨h.box,h.Va,h.RY,h.els,h.eb,h.el,h.bl,h.but.drewN a⟩
theorem pU {w:World} {g:Nat} {T:TypeId} {v0 v1 v2 v3 v4 v5 v6 v7:Value} (h:af w g T #[v0,v1,v2,v3,v4,v5,v6,v7]) :
  w.cell? ⟨g,0,none⟩=some v0∧w.cell? ⟨g,1,none⟩=some v1∧w.cell? ⟨g,2,none⟩=some v2∧w.cell? ⟨g,3,none⟩=some v3∧w.cell? ⟨g,4,none⟩=some v4∧w.cell? ⟨g,5,none⟩=some v5∧w.cell? ⟨g,6,none⟩=some v6∧w.cell? ⟨g,7,none⟩=some v7∧g<w.heap.size:=by
 have h0:=h.cell 0;have h1:=h.cell 1;have h2:=h.cell 2;have h3:=h.cell 3;have h4:=h.cell 4;have h5:=h.cell 5;have h6:=h.cell 6;have h7:=h.cell 7
 simp at h0 h1 h2 h3 h4 h5 h6 h7
 exact⟨h0,h1,h2,h3,h4,h5,h6,h7,h.lt⟩
theorem Vo {args:List Ex} (h:args.length≤10):0≤sumT (args.map bZ)∧sumT (args.map bZ)≤10000:=by
 have:=Dj (l:=args.map bZ) (fun t ht=>by obtain⟨a,_,rfl⟩:=List.mem_map.1 ht;exact kH a)
 rw[List.length_map] at this
 omega
theorem uy {args:List St} (h:args.length≤10):0≤sumT (args.map aX)∧sumT (args.map aX)≤10000:=by
 have:=Dj (l:=args.map aX) (fun t ht=>by obtain⟨a,_,rfl⟩:=List.mem_map.1 ht;exact iy a)
 rw[List.length_map] at this
 omega
theorem RX {a b q:Nat} (ha:a≤9223372036854775807) (hb:b≤9223372036854775807) (h:(q:Int)<wrap64 ((a:Int)+(b:Int))):q<a+b:=by
 rcases Nat.lt_or_ge 9223372036854775807 (a+b) with h1|h1
 ·have e:wrap64 ((a:Int)+(b:Int))=(a:Int)+(b:Int)-18446744073709551616:=by
   unfold wrap64
   omega
  rw[e] at h
  omega
 ·rw[IntWalk.wrap64_in _ ⟨by omega,by omega⟩] at h
  omega
open Go.RowKit Go.Afx
theorem pK.end_ {F:Nat→Prop} {w wr W:World} {hue:Nat→Nat} {es:List Ex} {ss:List St} {A0 A1 A2 A3 A4 A5:Option Addr} {c0 c1 c2 c3 c4 c5:Nat} (h:pK F w wr hue es ss A0 c0 A1 c1 A2 c2 A3 c3 A4 c4 A5 c5) (hb:But (fun b=>b=w.heap.size) wr W) :
  ac0 (fun b=>b<W.heap.size∧(b<w.heap.size→F b)) W [.slice A0 es.length c0,.slice A1 es.length c1,.slice A2 es.length c2,.slice A3 ss.length c3,.slice A4 ss.length c4,.slice A5 ss.length c5] es ss∧Below w.heap.size w W:=by
 have hz:=hb.size
 have hk:Kept (fun b=>hue b≠9∧hue b≠8) wr W:=Kept.aN hb (fun b h0 e=>h0.1 (by rw[e];exact h.hr))
 have h0:∀ b,b<wr.heap.size→Hu hue 0 b→(hue b≠9∧hue b≠8):=fun b _ hb0=>by
  have e:hue b=0:=hb0
  rw[e];omega
 have h1:∀ b,b<wr.heap.size→(hue b≠9∧hue b≠8)→(b<W.heap.size∧(b<w.heap.size→F b)):=fun b hb0 hn=>⟨Nat.lt_of_lt_of_le hb0 hz,fun hw=>by
  rcases Classical.em (F b) with hf|hf
  ·exact hf
  ·exact absurd ((h.old b hw).2 hf) hn.2⟩
 obtain⟨k1,k2,k3⟩:=h.tri.lists (F:=fun b=>hue b≠9∧hue b≠8) (Q:=bQ (fun b=>hue b≠9∧hue b≠8) 101 wr) (fun b _ hb0=>by show hue b≠9∧hue b≠8;omega) (fun k r x hk0 hp=>by
  have:=h.adm
  exact bQ.turn h0 (Kept.refl _ _) (50+k+1) (by omega) hp) (fun x=>Wu (iy x))
 have e1:=aO.turn h1 hk (Nat.le_refl _) (aO.turn h0 (Kept.refl _ _) (Nat.le_refl _) h.Va)
 have lst:∀ {A:Option Addr} {n c:Nat} {xs:List Int},ai (fun b=>hue b≠9∧hue b≠8) wr 1 kD A n c xs→ai (fun b=>b<W.heap.size∧(b<w.heap.size→F b)) W 1 kD A n c xs:=fun hl=>hl.conv hk (fun a ha hn hf=>h1 _ (hl.lt hn a ha) hf) (fun _ _ _ h=>h)
 have num:∀ {A:Option Addr} {n c:Nat} {xs:List Int},ai (Hu hue 0) wr 1 kD A n c xs→ai (fun b=>hue b≠9∧hue b≠8) wr 1 kD A n c xs:=fun hl=>hl.conv (Kept.refl _ _) (fun a ha hn hf=>h0 _ (hl.lt hn a ha) hf) (fun _ _ _ h=>h)
 exact⟨⟨A0,c0,A1,c1,A2,c2,A3,c3,A4,c4,A5,c5,rfl,e1,lst (num h.nod),lst (num h.dep),aP.turn h1 hk (Nat.le_refl _) k1,lst k2,lst k3,h.few,h.adm⟩,h.low.trans (hb.below' h.low.size fun b e=>Nat.le_of_eq e.symm)⟩
theorem Ih (W:World) (g:Nat) (v0 v1 v2 v3 v4 v5:Value):But (fun b=>b=g) W ((((((W.setCell ⟨g,0,none⟩ v0).setCell ⟨g,1,none⟩ v1).setCell ⟨g,2,none⟩ v2).setCell ⟨g,3,none⟩ v3).setCell ⟨g,4,none⟩ v4).setCell ⟨g,5,none⟩ v5) :=
 ((((((But.refl (fun b=>b=g) W).setCell (p:=⟨g,0,none⟩) (.inl rfl) _).setCell (p:=⟨g,1,none⟩) (.inl rfl) _).setCell (p:=⟨g,2,none⟩) (.inl rfl) _).setCell (p:=⟨g,3,none⟩) (.inl rfl) _).setCell (p:=⟨g,4,none⟩) (.inl rfl) _).setCell (p:=⟨g,5,none⟩) (.inl rfl) _
def alN (w:World) (e:Ending) (w':World):Prop:=∃ b:Bool,e=.returned (.bool b)∧w=w'
theorem WH (F : Nat→Prop) (A A':Option Addr) (n c n' c':Nat) (xs:List Lf) (ys:List Kn) (w:World) (h1:ai F w 6 (yU F w) A n c xs) (h2:ai F w 8 (yV F w) A' n' c' ys) :
    Calls Tryz.prog 9 #[.slice A n c,.slice A' n' c'] w (alN w):=by
  have hn:=h1.gu
  have hn':=h2.gu
  by_cases hbig:50<n∨50<n'
  · clear h1 h2
    rcases hbig with hbig|hbig
    all_goals
      go_enter Tryz.func9,Tryz.ntmps9
      go_wp2
      all_goals
        first
        | (go_ret;exact⟨_,rfl,rfl⟩)
        | skip
  · have art : n ≤ 50 := by omega
    have apw:n'≤50:=by omega
    have hi1:¬ (50:Int)<(n:Int):=by omega
    have hi2:¬ (50:Int)<(n':Int):=by omega
    clear hbig
    go_enter Tryz.func9,Tryz.ntmps9
    go_wp2
    go_loop [5] (fun i=>∃ k:Nat,k≤n∧i=.int .i64 k) (fun i=>n-(intOf i).toNat)
    case atStart=>exact⟨0,Nat.zero_le _,rfl⟩
    case round =>
      obtain⟨k,hk,rfl⟩:=hrel
      by_cases hlt:k<n
      · obtain⟨b,o,r,x,rfl,hbl,_,hx,hrl,hp,hc⟩:=h1.get hlt
        obtain⟨o1,o2,o3,o4,o5,A5,m5,c5,rfl,_⟩:=hp
        have hc2:=hc 2 _ rfl;have hc3:=hc 3 _ rfl;have hc4:=hc 4 _ rfl
        clear hc hx
        unfold okS at o3 o4 o5
        go_wp2
        all_goals
          first
          | (go_ret;exact⟨_,rfl,rfl⟩)
          | (go_round
             case rel=>exact⟨k+1,by omega,by go_num⟩
             case measure=>simp[intOf];omega)
      · go_wp2
        go_loop [6] (fun i=>∃ k:Nat,k≤n'∧i=.int .i64 k) (fun i=>n'-(intOf i).toNat)
        case atStart=>exact⟨0,Nat.zero_le _,rfl⟩
        case round =>
          obtain⟨k2,hk2,rfl⟩:=hrel
          by_cases hlt2:k2<n'
          · obtain ⟨b, o,r,x,rfl,hbl,_,hx,hrl,hp,hc⟩:=h2.get hlt2
            obtain⟨o1,o2,o3,o4,Ac,nc,cc,Ax,nx,cx,Ab,nb,cb,Al,nl,cl,rfl,G5,_⟩:=hp
            have hc1:=hc 1 _ rfl;have hc2:=hc 2 _ rfl;have hc4:=hc 4 _ rfl
            have hnc:=G5.gu
            clear hc hx
            unfold okS at o3 o4
            by_cases hq:12<nc
            · have hq':(12:Int)<(nc:Int):=by omega
              go_wp2
              all_goals
                first
                | (go_ret;exact⟨_,rfl,rfl⟩)
                | skip
            · have hq' : ¬ (12:Int)<(nc:Int):=by omega
              have apx:nc≤12:=by omega
              go_wp2
              all_goals
                first
                | (go_ret;exact⟨_,rfl,rfl⟩)
                | (go_loop [7] (fun i=>∃ k:Nat,k≤nc∧i=.int .i64 k) (fun i=>nc-(intOf i).toNat)
                   case atStart=>exact⟨0,Nat.zero_le _,rfl⟩
                   case round =>
                     obtain⟨k3,hk3,rfl⟩:=hrel
                     by_cases hlt3:k3<nc
                     · obtain⟨b3,o3,r3,x3,rfl,SV,_,hx3,hrl3,hp3,aoo⟩:=G5.get hlt3
                       obtain⟨rfl,ok3⟩:=hp3
                       have hcc:=aoo 0 _ rfl
                       rw[Nat.mul_one,Nat.add_zero] at hcc
                       unfold okS at ok3
                       go_wp2
                       all_goals
                         first
                         | (go_ret;exact⟨_,rfl,rfl⟩)
                         | (go_round
                            case rel=>exact⟨k3+1,by omega,by go_num⟩
                            case measure=>simp[intOf];omega)
                     · go_wp2
                       go_round
                       case rel=>exact⟨k2+1,by omega,by go_num⟩
                       case measure=>simp[intOf];omega)
          · go_wp2
            go_ret
            exact⟨_,rfl,rfl⟩
end Go.Proofs.YtjjfkhbajidmdaaGreatDoor

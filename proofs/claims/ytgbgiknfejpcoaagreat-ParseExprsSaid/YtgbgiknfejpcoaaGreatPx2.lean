/- Parts of this proof, one behind the other: Hue, SynP, SynR, SynX, SynA, SynB. -/
import Derived.Test.YtgbgiknfejpcoaaGreatPx1
import Derived.Test.YtgbgiknfejpcoaaGreatProg
import Derived.WalkSpells
import Derived.WalkLawsBesides
import Derived.Deep.QuietTactic
import Derived.BigQuiet
import Derived.BigRegion
import Derived.Outline
import Derived.Lib.Hide
set_option maxRecDepth 1000000
set_option maxHeartbeats 40000000
namespace Go.Afx
open Go.RowKit
theorem ExAt.turn {F F':Nat→Prop} {w w':World} (hF:∀ k,k<w.heap.size→F k→F' k) (hk:Kept F w w'):∀ (d:Nat) {d':Nat} {r:List Value} {e:Ex},d≤d'→ExAt F d w r e→ExAt F' d' w' r e:=by
 intro d
 induction d with
 | zero=>intro d' r e _ h;exact h.elim
 | succ d ih =>
  intro d' r e hd h
  obtain⟨d',rfl⟩:∃ k,d'=k+1:=⟨d'-1,by omega⟩
  obtain⟨h1,h2,h3,h4,h5,A,m,c,hr,hl⟩:=h
  exact⟨h1,h2,h3,h4,h5,A,m,c,hr,hl.conv hk (fun a ha h0 h=>hF _ (hl.lt h0 a ha) h) fun r x _ hx=>ih (by omega) hx⟩
theorem ExsAt.turn {F F':Nat→Prop} {w w':World} (hF:∀ k,k<w.heap.size→F k→F' k) (hk:Kept F w w') {d d':Nat} (hd:d≤d') {A:Option Addr} {n c:Nat} {es:List Ex} (h:ExsAt F d w A n c es):ExsAt F' d' w' A n c es :=
 LsAt.conv h hk (fun a ha h0 hf=>hF _ (LsAt.lt h h0 a ha) hf) fun _ _ _ hx=>ExAt.turn hF hk d hd hx
theorem StAt.turn {F F':Nat→Prop} {w w':World} (hF:∀ k,k<w.heap.size→F k→F' k) (hk:Kept F w w'):∀ (d:Nat) {d':Nat} {r:List Value} {e:St},d≤d'→StAt F d w r e→StAt F' d' w' r e:=by
 intro d
 induction d with
 | zero=>intro d' r e _ h;exact h.elim
 | succ d ih =>
  intro d' r e hd h
  obtain⟨d',rfl⟩:∃ k,d'=k+1:=⟨d'-1,by omega⟩
  obtain⟨h1,h2,h3,h4,Ac,nc,cc,Ae,ne,ce,Ab,nb,cb,Al,nl,cl,hr,k1,k2,k3,k4⟩:=h
  exact⟨h1,h2,h3,h4,Ac,nc,cc,Ae,ne,ce,Ab,nb,cb,Al,nl,cl,hr,k1.conv hk (fun a ha h0 h=>hF _ (k1.lt h0 a ha) h) (fun _ _ _ h=>h),ExsAt.turn hF hk (by omega) k2,
   k3.conv hk (fun a ha h0 h=>hF _ (k3.lt h0 a ha) h) (fun _ _ _ hx=>ih (by omega) hx),k4.conv hk (fun a ha h0 h=>hF _ (k4.lt h0 a ha) h) (fun _ _ _ hx=>ih (by omega) hx)⟩
theorem StsAt.turn {F F':Nat→Prop} {w w':World} (hF:∀ k,k<w.heap.size→F k→F' k) (hk:Kept F w w') {d d':Nat} (hd:d≤d') {A:Option Addr} {n c:Nat} {es:List St} (h:StsAt F d w A n c es):StsAt F' d' w' A n c es :=
 LsAt.conv h hk (fun a ha h0 hf=>hF _ (LsAt.lt h h0 a ha) hf) fun _ _ _ hx=>StAt.turn hF hk d hd hx
def Hu (hue:Nat→Nat) (i:Nat):Nat→Prop:=fun b=>hue b=i
def hueNew (hue:Nat→Nat) (w:World) (i:Nat):Nat→Nat:=fun b=>if b<w.heap.size then hue b else i
theorem hueNew_old {hue:Nat→Nat} {w:World} {i:Nat}:∀ k,k<w.heap.size→hueNew hue w i k=hue k:=fun _ hk=>if_pos hk
theorem hueNew_new {hue:Nat→Nat} {w:World} {i k:Nat} (hk:w.heap.size≤k):hueNew hue w i k=i:=if_neg (by omega)
structure HueRow (hue:Nat→Nat) (i base:Nat) (w:World) (T:TypeId) (sz:Nat) (A:Option Addr) (n c:Nat) (rows:List (List Value)):Prop where
 own:w.ownsRow base T sz (.slice A n c) n rows.flatten
 hue:∀ a,A=some a→hue a.block=i
 len:rows.length=n
 wid:∀ r∈rows,r.length=sz
section
variable {hue hue':Nat→Nat} {i base:Nat} {w w' w2:World} {T:TypeId} {sz:Nat} {A:Option Addr} {n c:Nat} {rows:List (List Value)} {S:Nat→Prop}
theorem HueRow.lt (h:HueRow hue i base w T sz A n c rows):∀ a,A=some a→a.block<w.heap.size:=by
 intro a ha;subst ha;exact(h.own.lt a.block rfl).2
theorem HueRow.nil_ (hue:Nat→Nat) (i base:Nat) (w:World) (T:TypeId) (sz:Nat):HueRow hue i base w T sz none 0 0 []:=⟨World.ownsRow_nil _ _ _ _,(by intro a h;cases h),rfl,(by intro r h;cases h)⟩
theorem HueRow.at_ (h:HueRow hue i base w T sz A n c rows):RowsAt w sz A n c rows:=RowsAt.of_own h.own h.wid h.len
theorem HueRow.keep (h:HueRow hue i base w T sz A n c rows) (hb:But S w w') (hS:∀ k,k<w.heap.size→S k→hue k≠i) (hh:∀ k,k<w.heap.size→hue' k=hue k):HueRow hue' i base w' T sz A n c rows:=by
 refine⟨own_but h.own hb fun g hg hs=>?_,fun a ha=>?_,h.len,h.wid⟩
 ·cases A with
  | none=>cases hg
  | some a =>
   have e:a.block=g:=by simpa [Value.ownBlock] using hg
   subst e
   exact hS _ (h.lt a rfl) hs (h.hue a rfl)
 ·rw[hh _ (h.lt a ha)];exact h.hue a ha
theorem HueRow.grow (h:HueRow hue i base w T sz A n c rows) {o:Obj} {A2:Option Addr} {m c2 bt j:Nat} {news:List (List Value)} {u:Value}
  (hown:w2.ownsRow base T sz (.slice A2 (n+m) c2) (n+m) (rows++news).flatten) (hnl:news.length=m) (hnw:∀ r∈news,r.length=sz) (hbut:But (fun k=>A.map (·.block)=some k) (w.alloc o) w2)
  (hf:∀ a2,A2=some a2→A=some a2∨(w.alloc o).heap.size≤a2.block) (hbt:bt<w.heap.size) (hbi:hue bt≠i) :
  HueRow (hueNew hue w i) i base (w2.setCell ⟨bt,j,none⟩ u) T sz A2 (n+m) c2 (rows++news)∧But (fun k=>hue k=i∨k=bt) w (w2.setCell ⟨bt,j,none⟩ u):=by
 have hz:=hbut.size
 simp only[World.alloc,Array.size_push] at hz
 have hA2:∀ a2,A2=some a2→hueNew hue w i a2.block=i:=by
  intro a2 ha
  rcases hf a2 ha with h1|h1
  ·rw[hueNew_old _ (h.lt a2 h1)];exact h.hue a2 h1
  ·simp only[World.alloc,Array.size_push] at h1;exact hueNew_new (by omega)
 have hb1:But (fun k=>hue k=i∨k=bt) w w2:=((But.refl _ w).alloc o).trans hbut fun k hk=>by
  cases A with
  | none=>cases hk
  | some a =>
   have e:a.block=k:=by simpa using hk
   subst e
   exact .inl (.inl (h.hue a rfl))
 refine⟨⟨?_,hA2,by simp[h.len,hnl],fun r hr=>?_⟩,hb1.setCell (p:=⟨bt,j,none⟩) (.inl (.inr rfl)) u⟩
 ·refine own_but hown ((But.refl (fun k=>k=bt) w2).setCell (p:=⟨bt,j,none⟩) (.inl rfl) u) fun g hg e=>?_
  subst e
  cases A2 with
  | none=>cases hg
  | some a2 =>
   have e:a2.block=g:=by simpa [Value.ownBlock] using hg
   have h1:=hA2 a2 rfl
   rw[e,hueNew_old _ hbt] at h1
   exact hbi h1
 ·rcases List.mem_append.1 hr with hr|hr
  ·exact h.wid r hr
  ·exact hnw r hr
end
structure Tri {α:Type} (hue:Nat→Nat) (i base:Nat) (w:World) (T:TypeId) (sz:Nat) (TI:TypeId) (P:Nat→List Value→α→Prop) (tell:α→Int×Int) (A0:Option Addr) (c0:Nat) (A1:Option Addr) (c1:Nat) (A2:Option Addr) (c2:Nat) (xs:List α):Prop where
 rows:∃ rows,HueRow hue i base w T sz A0 xs.length c0 rows∧∀ (k:Nat) (r:List Value) (x:α),rows[k]?=some r→xs[k]?=some x→P k r x
 nodes:HueRow hue (i+1) base w TI 1 A1 xs.length c1 (xs.map fun x=>[.int .i64 (tell x).1])
 deep:HueRow hue (i+2) base w TI 1 A2 xs.length c2 (xs.map fun x=>[.int .i64 (tell x).2])
section
variable {α:Type} {hue hue':Nat→Nat} {i base:Nat} {w w':World} {T:TypeId} {sz:Nat} {TI:TypeId} {P P':Nat→List Value→α→Prop} {tell:α→Int×Int} {A0 A1 A2:Option Addr} {c0 c1 c2:Nat} {xs:List α} {S:Nat→Prop}
theorem Tri.nil_ (hue:Nat→Nat) (i base:Nat) (w:World) (T:TypeId) (sz:Nat) (TI:TypeId) (P:Nat→List Value→α→Prop) (tell:α→Int×Int):Tri hue i base w T sz TI P tell none 0 none 0 none 0 [] :=
 ⟨⟨[],HueRow.nil_ _ _ _ _ _ _,fun k r x h=>by simp at h⟩,HueRow.nil_ _ _ _ _ _ _,HueRow.nil_ _ _ _ _ _ _⟩
theorem Tri.keep (h:Tri hue i base w T sz TI P tell A0 c0 A1 c1 A2 c2 xs) (hb:But S w w') (hS:∀ k,k<w.heap.size→S k→hue k≠i∧hue k≠i+1∧hue k≠i+2) (hh:∀ k,k<w.heap.size→hue' k=hue k) (hP:∀ k r x,x∈xs→P k r x→P' k r x) :
  Tri hue' i base w' T sz TI P' tell A0 c0 A1 c1 A2 c2 xs:=by
 obtain⟨⟨rows,h1,h2⟩,h3,h4⟩:=h
 exact⟨⟨rows,h1.keep hb (fun k hk hs=>(hS k hk hs).1) hh,fun k r x hr hx=>hP k r x (List.mem_of_getElem? hx) (h2 k r x hr hx)⟩,h3.keep hb (fun k hk hs=>(hS k hk hs).2.1) hh,h4.keep hb (fun k hk hs=>(hS k hk hs).2.2) hh⟩
theorem Tri.get (h:Tri hue i base w T sz TI P tell A0 c0 A1 c1 A2 c2 xs) {k:Nat} (hk:k<xs.length) :
  ∃ b0 b1 b2 r x,A0=some ⟨b0,0,none⟩∧A1=some ⟨b1,0,none⟩∧A2=some ⟨b2,0,none⟩∧b0<w.heap.size∧b1<w.heap.size∧b2<w.heap.size∧xs[k]?=some x∧r.length=sz∧P k r x∧(∀ j u,r[j]?=some u→w.cell? ⟨b0,k*sz+j,none⟩=some u) ∧
   w.cell? ⟨b1,k,none⟩=some (.int .i64 (tell x).1)∧w.cell? ⟨b2,k,none⟩=some (.int .i64 (tell x).2)∧hue b0=i∧hue b1=i+1∧hue b2=i+2:=by
 obtain⟨⟨rows,h1,h2⟩,h3,h4⟩:=h
 have hx:xs[k]?=some xs[k]:=List.getElem?_eq_getElem hk
 have hr:rows[k]?=some (rows[k]'(by have:=h1.len;omega)):=List.getElem?_eq_getElem _
 obtain⟨g0,cap0,e0,_⟩:=h1.own.form (by omega)
 obtain⟨g1,cap1,e1,_⟩:=h3.own.form (by omega)
 obtain⟨g2,cap2,e2,_⟩:=h4.own.form (by omega)
 simp only[Value.slice.injEq] at e0 e1 e2
 obtain⟨rfl,_,rfl⟩:=e0
 obtain⟨rfl,_,rfl⟩:=e1
 obtain⟨rfl,_,rfl⟩:=e2
 obtain⟨b,o,hA,hb,hc⟩:=h1.at_.at_ k _ hr
 obtain⟨b',o',hA',hb',hc'⟩:=h3.at_.one (u:=.int .i64 (tell xs[k]).1) (k:=k) (by rw[List.getElem?_map,hx];rfl)
 obtain⟨b'',o'',hA'',hb'',hc''⟩:=h4.at_.one (u:=.int .i64 (tell xs[k]).2) (k:=k) (by rw[List.getElem?_map,hx];rfl)
 simp only[Option.some.injEq,Addr.mk.injEq,and_true] at hA hA' hA''
 obtain⟨rfl,rfl⟩:=hA
 obtain⟨rfl,rfl⟩:=hA'
 obtain⟨rfl,rfl⟩:=hA''
 exact⟨_,_,_,_,_,rfl,rfl,rfl,hb,hb',hb'',hx,h1.wid _ (List.mem_of_getElem? hr),h2 k _ _ hr hx,fun j u hj=>by simpa using hc j u hj,by simpa using hc',by simpa using hc'',h1.hue _ rfl,h3.hue _ rfl,h4.hue _ rfl⟩
theorem Tri.lists {F:Nat→Prop} {Q:List Value→α→Prop} (h:Tri hue i base w T sz TI P tell A0 c0 A1 c1 A2 c2 xs) (hF:∀ k,k<w.heap.size→(hue k=i∨hue k=i+1∨hue k=i+2)→F k) (hQ:∀ k r x,k<xs.length→P k r x→Q r x) (htell:∀ x,okI (tell x).1∧okI (tell x).2) :
  LsAt F w sz Q A0 xs.length c0 xs∧LsAt F w 1 IRow A1 xs.length c1 (xs.map fun x=>(tell x).1)∧LsAt F w 1 IRow A2 xs.length c2 (xs.map fun x=>(tell x).2):=by
 obtain⟨⟨rows,h1,h2⟩,h3,h4⟩:=h
 refine⟨⟨rows,h1.at_,fun a ha _=>hF _ (h1.lt a ha) (.inl (h1.hue a ha)),h1.len,fun k r x hr hx=>⟨h1.wid r (List.mem_of_getElem? hr),hQ k r x (List.getElem?_eq_some_iff.1 hx).1 (h2 k r x hr hx)⟩⟩,
  ⟨_,h3.at_,fun a ha _=>hF _ (h3.lt a ha) (.inr (.inl (h3.hue a ha))),by simp,fun k r x hr hx=>?_⟩,⟨_,h4.at_,fun a ha _=>hF _ (h4.lt a ha) (.inr (.inr (h4.hue a ha))),by simp,fun k r x hr hx=>?_⟩⟩
 ·rw[List.getElem?_map] at hr hx
  obtain⟨y,hy,rfl⟩:=Option.map_eq_some_iff.1 hr
  rw[hy] at hx
  injection hx with hx
  subst hx
  exact⟨rfl,rfl,(htell y).1⟩
 ·rw[List.getElem?_map] at hr hx
  obtain⟨y,hy,rfl⟩:=Option.map_eq_some_iff.1 hr
  rw[hy] at hx
  injection hx with hx
  subst hx
  exact⟨rfl,rfl,(htell y).2⟩
end
end Go.Afx
namespace Go.Afx
open Go.RowKit
theorem bs_inj {a b:ByteArray} (h:a.toList=b.toList):a=b:=WideShapes.bytes_inj (by rw[← ByteArray.toList_eq,← ByteArray.toList_eq,h])
theorem bs_eq {a b:ByteArray}:(a.toList==b.toList)=decide (a=b):=by
 rw[Bool.eq_iff_iff,beq_iff_eq,decide_eq_true_iff]
 exact⟨bs_inj,fun h=>by rw[h]⟩
/- sizes -/
def fullZ (s:Int×Int):Bool:=decide (1000≤s.1)||decide (1000≤s.2)
def addZ (s t:Int×Int):Int×Int:=(min (s.1+t.1) 1000,max s.2 t.2)
def overZ (s:Int×Int):Int×Int:=(min (s.1+1) 1000,min (s.2+1) 1000)
def toldZ (s:Int×Int):Int×Int:=if fullZ s then (1000,1000) else s
def allZ {α:Type} (lv:Int) (one:α→Int×Int):Int×Int→List α→Int×Int
 | s,[]=>s
 | s,x::r=>if fullZ s||decide (1000≤lv) then (1000,1000) else allZ lv one (addZ s (one x)) r
def sizeE:Nat→Int→Ex→Int×Int
 | 0,_,_=>(0,0)
 | d+1,lv,e=>overZ (allZ (lv+1) (sizeE d (lv+1)) (0,0) e.args)
def sizeS:Nat→Int→St→Int×Int
 | 0,_,_=>(0,0)
 | d+1,lv,x=>overZ (addZ (addZ (allZ (lv+1) (sizeE d (lv+1)) (0,0) x.exprs) (allZ (lv+1) (sizeS d (lv+1)) (0,0) x.body)) (allZ (lv+1) (sizeS d (lv+1)) (0,0) x.els))
def Zok (s:Int×Int):Prop:=0≤s.1∧s.1≤1000∧0≤s.2∧s.2≤1000
theorem Zok.nought:Zok (0,0):=⟨by omega,by omega,by omega,by omega⟩
theorem Zok.much:Zok (1000,1000):=⟨by omega,by omega,by omega,by omega⟩
theorem Zok.add {s t:Int×Int} (h:Zok s) (k:Zok t):Zok (addZ s t):=by
 obtain⟨a,b⟩:=s;obtain⟨c,d⟩:=t
 simp only[Zok,addZ] at h k ⊢;omega
theorem Zok.over {s:Int×Int} (h:Zok s):Zok (overZ s):=by
 obtain⟨a,b⟩:=s
 simp only[Zok,overZ] at h ⊢;omega
theorem Zok.all {α:Type} {lv:Int} {one:α→Int×Int} (h:∀ x,Zok (one x)):∀ {l:List α} {s:Int×Int},Zok s→Zok (allZ lv one s l):=by
 intro l
 induction l with
 | nil=>intro s hs;exact hs
 | cons x r ih =>
  intro s hs
  unfold allZ
  split
  ·exact Zok.much
  ·exact ih (hs.add (h x))
theorem sizeE_ok (d:Nat):∀ lv e,Zok (sizeE d lv e):=by
 induction d with
 | zero=>intro lv e;exact Zok.nought
 | succ d ih=>intro lv e;exact(Zok.all (ih _) Zok.nought).over
theorem sizeS_ok (d:Nat):∀ lv e,Zok (sizeS d lv e):=by
 induction d with
 | zero=>intro lv e;exact Zok.nought
 | succ d ih=>intro lv e;exact(((Zok.all (sizeE_ok d _) Zok.nought).add (Zok.all (ih _) Zok.nought)).add (Zok.all (ih _) Zok.nought)).over
/- names -/
def letterB (c:UInt8):Bool:=decide (97≤c.toNat)&&decide (c.toNat≤122)
def partB (c:UInt8):Bool:=letterB c||(decide (48≤c.toNat)&&decide (c.toNat≤57))||decide (c.toNat=95)
def namedB (s:ByteArray):Bool:=match s.data.toList with
 | []=>false
 | c::r=>decide (r.length+1≤16)&&letterB c&&r.all partB
def str (l:List UInt8):ByteArray:=⟨l.toArray⟩
def wordsL:List ByteArray:=[str [97,110,100],str [111,114],str [110,111,116],str [116,114,117,101],str [102,97,108,115,101],str [108,101,116],str [115,101,116],str [105,110,115,101,114,116],str [117,112,100,97,116,101],str [100,101,108,101,116,101],str [102,111,114],str [105,110],
 str [119,104,101,114,101],str [108,105,109,105,116],str [105,102],str [101,108,115,101],str [101,109,105,116],str [97,98,111,114,116],str [114,101,112,108,121],str [99,111,117,110,116],str [115,117,109],str [109,105,110],str [109,97,120],str [105,110,116],str [116,101,120,116],str [98,111,111,108],str [116,97,98,108,101],
 str [115,116,114,101,97,109],str [119,105,110,100,111,119],str [115,105,110,107],str [112,114,111,99],str [107,101,121],str [117,110,105,113,117,101],str [105,110,100,101,120],str [112,97,114,116,115],str [98,121],str [111,110],str [102,114,111,109],str [97,116],str [102,117,101,108],str [116,117,112,108,101,115],
 str [98,97,116,99,104,101,115],str [115,108,105,100,101]]
def resB (s:ByteArray):Bool:=wordsL.any fun x=>x.toList==s.toList
def freeB (s:ByteArray):Bool:=namedB s&&!resB s
def freesB (l:List ByteArray):Bool:=l.all namedB&&!l.any resB
theorem freesB_all (l:List ByteArray):freesB l=l.all freeB:=by
 unfold freesB freeB
 induction l with
 | nil=>rfl
 | cons a r ih =>
  simp only[List.all_cons,List.any_cons,← ih]
  cases namedB a<;>cases resB a<;>cases (List.all r namedB)<;>cases (List.any r resB)<;>rfl
/- expressions -/
def arityB (op:Int):Int:=if 1≤op∧op≤5 then 0 else if 6≤op∧op≤18 then 2 else if op=19∨op=20 then 1 else if op=21 then 1 else if 22≤op∧op≤24 then 2 else -1
def rowsB (op:Int):Bool:=decide (21≤op)&&decide (op≤24)
def noS (s:ByteArray):Bool:=decide (s=ByteArray.empty)
def fieldsR (op n:Int) (s name src:ByteArray):Bool :=
 if op=1 then decide (0≤n)&&noS s&&noS name&&noS src
 else if op=2 then decide (s.size≤200)&&decide (n=0)&&noS name&&noS src
 else if op=3 then (decide (n=0)||decide (n=1))&&noS s&&noS name&&noS src
 else if op=4 then freeB name&&decide (n=0)&&noS s&&noS src
 else if op=5 then freeB name&&freeB s&&decide (n=0)&&noS src
 else if rowsB op then freeB name&&freeB src&&decide (n=0)&&noS s
 else decide (n=0)&&noS s&&noS name&&noS src
def fieldsE (e:Ex):Bool:=fieldsR e.op e.n e.s e.name e.src
def headE (e:Ex):Bool:=decide (arityB e.op=e.args.length)&&fieldsE e
def builtE:Nat→Ex→Bool
 | 0,_=>false
 | d+1,e=>headE e&&e.args.all (builtE d)
/- statements -/
def shapeP (hn hc hnum hb ho hs:Bool) (least most:Int) (name src:ByteArray) (n:Int) (cols:List ByteArray) (ne nb nl:Nat):Bool :=
 (if hn then freeB name else noS name)&&(if hs then freeB src else noS src) &&
 (if hc then decide (1≤cols.length)&&decide (cols.length≤8)&&freesB cols&&decide cols.Nodup else decide (cols.length=0)) &&
 (if hnum then decide (0≤n)&&decide (n≤1000) else decide (n=0))&&(decide (least≤(ne:Int))&&decide ((ne:Int)≤most)) &&
 (hb||decide (nb=0))&&(ho||decide (nl=0))
def shapeR (op:Int) (name src:ByteArray) (n:Int) (cols:List ByteArray) (ne nb nl:Nat):Bool :=
 if op=1∨op=2 then shapeP true false false false false false 1 1 name src n cols ne nb nl
 else if op=3∨op=8 then shapeP false false false false false true 1 8 name src n cols ne nb nl
 else if op=4 then shapeP true true false false false true (cols.length+1) (cols.length+1) name src n cols ne nb nl
 else if op=5 then shapeP true false false false false true 1 1 name src n cols ne nb nl
 else if op=6 then shapeP true false true true false true 1 1 name src n cols ne nb nl
 else if op=7 then shapeP false false false true true false 1 1 name src n cols ne nb nl
 else if op=9 then shapeP false false false false false false 1 1 name src n cols ne nb nl
 else if op=10 then shapeP false false false false false false 1 8 name src n cols ne nb nl
 else false
def shapeB (x:St):Bool:=shapeR x.op x.name x.src x.n x.cols x.exprs.length x.body.length x.els.length
def builtS:Nat→St→Bool
 | 0,_=>false
 | d+1,x=>shapeB x&&x.exprs.all (builtE d)&&x.body.all (builtS d)&&x.els.all (builtS d)
/- procedures -/
structure Co where
 name:ByteArray
 kind:Int
structure Pr where
 name:ByteArray
 src:ByteArray
 part:ByteArray
 fuel:Int
 params:List Co
 body:List St
def smallZ (s:Int×Int):Bool:=decide (s.1≤300)&&decide (s.2≤12)
def kindB (c:Co):Bool:=decide (1≤c.kind)&&decide (c.kind≤3)
def headsR (name src part:ByteArray) (fuel:Int) (params:List Co):Bool :=
 params.all kindB&&freeB name&&decide (params.length≤8)&&freesB (params.map Co.name)&&decide (params.map Co.name).Nodup&&(decide (1≤fuel)&&decide (fuel≤2000)) &&
 (if noS src then noS part||(params.map Co.name).any fun x=>decide (x=part) else freeB src&&decide (params.length=0)&&noS part)
def headsB (p:Pr):Bool:=headsR p.name p.src p.part p.fuel p.params
def sizeP (d:Nat) (p:Pr):Int×Int:=allZ 0 (sizeS d 0) (0,0) p.body
def rightB (d:Nat) (p:Pr):Bool:=headsB p&&smallZ (sizeP d p)&&p.body.all (builtS d)
/- what is used -/
def srcsE:Nat→Ex→List ByteArray
 | 0,_=>[]
 | d+1,e=>(if rowsB e.op then [e.src] else [])++e.args.flatMap (srcsE d)
def readsS:Nat→St→List ByteArray
 | 0,_=>[]
 | d+1,x=>(if x.op=4∨x.op=5∨x.op=6 then [x.src] else [])++x.exprs.flatMap (srcsE d)++x.body.flatMap (readsS d)++x.els.flatMap (readsS d)
def writesS:Nat→St→List ByteArray
 | 0,_=>[]
 | d+1,x=>(if x.op=3∨x.op=4∨x.op=5 then [x.src] else [])++x.body.flatMap (writesS d)++x.els.flatMap (writesS d)
def emitsS:Nat→St→List ByteArray
 | 0,_=>[]
 | d+1,x=>(if x.op=8 then [x.src] else [])++x.body.flatMap (emitsS d)++x.els.flatMap (emitsS d)
end Go.Afx
namespace Go.Afx
open Go.RowKit
def cntE:Nat→Ex→Nat
 | 0,_=>0
 | d+1,e=>1+(e.args.map (cntE d)).sum
def cntS:Nat→St→Nat
 | 0,_=>0
 | d+1,x=>1+(x.exprs.map (cntE d)).sum+(x.body.map (cntS d)).sum+(x.els.map (cntS d)).sum
theorem sum_take {α:Type} {f:α→Nat} {l:List α} {k:Nat} {x:α} (h:l[k]?=some x):((l.take k).map f).sum+f x≤(l.map f).sum:=by
 obtain⟨hk,rfl⟩:=List.getElem?_eq_some_iff.1 h
 have e:l=l.take k++l[k]::l.drop (k+1):=by rw[← List.drop_eq_getElem_cons hk,List.take_append_drop]
 conv=>rhs;rw[e]
 simp only[List.map_append,List.sum_append,List.map_cons,List.sum_cons]
 omega
end Go.Afx
namespace Go.Afx
open Go.RowKit
def maxN (l:List Nat):Nat:=l.foldr max 0
theorem maxN_cons (a:Nat) (l:List Nat):maxN (a::l)=max a (maxN l):=rfl
theorem maxN_le {b:Nat}:∀ {l:List Nat},(∀ x∈l,x≤b)→maxN l≤b:=by
 intro l
 induction l with
 | nil=>intro _;simp[maxN]
 | cons a r ih=>intro h;rw[maxN_cons];have:=h a (by simp);have:=ih fun x hx=>h x (by simp[hx]);omega
def dptE:Nat→Ex→Nat
 | 0,_=>0
 | d+1,e=>1+maxN (e.args.map (dptE d))
def dptS:Nat→St→Nat
 | 0,_=>0
 | d+1,x=>1+max (max (maxN (x.exprs.map (dptE d))) (maxN (x.body.map (dptS d)))) (maxN (x.els.map (dptS d)))
theorem dptE_le (d:Nat):∀ e,dptE d e≤d:=by
 induction d with
 | zero=>intro e;simp[dptE]
 | succ d ih =>
  intro e
  have:maxN (e.args.map (dptE d))≤d:=maxN_le fun x hx=>by obtain⟨y,_,rfl⟩:=List.mem_map.1 hx;exact ih y
  rw[dptE];omega
def Cts (s:Int×Int) (N H:Nat):Prop:=s.1=min (N:Int) 1000∧(N<1000→s.2=H)∧H≤900
theorem Cts.nought:Cts (0,0) 0 0:=⟨by decide,fun _=>rfl,by omega⟩
theorem Cts.add {s t:Int×Int} {N H M K:Nat} (h:Cts s N H) (k:Cts t M K):Cts (addZ s t) (N+M) (max H K):=by
 obtain⟨h1,h2,h3⟩:=h
 obtain⟨k1,k2,k3⟩:=k
 refine⟨?_,fun hl=>?_,by omega⟩
 ·simp only[addZ];omega
 ·have a:=h2 (by omega)
  have b:=k2 (by omega)
  simp only[addZ];omega
theorem Cts.over {s:Int×Int} {N H:Nat} (h:Cts s N H) (hH:H+1≤900):Cts (overZ s) (1+N) (1+H):=by
 obtain⟨h1,h2,h3⟩:=h
 refine⟨?_,fun hl=>?_,by omega⟩
 ·simp only[overZ];omega
 ·have a:=h2 (by omega)
  simp only[overZ];omega
theorem Cts.all {α:Type} {lv:Int} {one:α→Int×Int} {f g:α→Nat} (hlv:lv<1000) (h:∀ x,Cts (one x) (f x) (g x)):∀ (l:List α) {s:Int×Int} {N H:Nat},Cts s N H→Cts (allZ lv one s l) (N+(l.map f).sum) (max H (maxN (l.map g))):=by
 intro l
 induction l with
 | nil=>intro s N H hs;simpa [allZ,maxN] using hs
 | cons x r ih =>
  intro s N H hs
  rw[List.map_cons,List.map_cons,List.sum_cons,maxN_cons]
  unfold allZ
  split
  ·rename_i hf
   obtain⟨h1,h2,h3⟩:=hs
   have hN:¬ N<1000:=by
    intro hN
    have a:=h2 hN
    simp only[fullZ,Bool.or_eq_true,decide_eq_true_eq] at hf
    omega
   have hg:∀ l:List α,maxN (l.map g)≤900:=fun l=>maxN_le fun y hy=>by obtain⟨z,_,rfl⟩:=List.mem_map.1 hy;exact(h z).2.2
   have:=hg r
   have:=(h x).2.2
   exact⟨by simp;omega,fun hl=>absurd hl (by omega),by omega⟩
  ·have:=ih (hs.add (h x))
   rw[Nat.add_assoc,Nat.max_assoc] at this
   exact this
theorem sizeE_cts (d:Nat):∀ (lv:Int) (e:Ex),lv+d≤900→d≤900→Cts (sizeE d lv e) (cntE d e) (dptE d e):=by
 induction d with
 | zero=>intro lv e _ _;exact Cts.nought
 | succ d ih =>
  intro lv e h hd
  rw[sizeE,cntE,dptE]
  have:=Cts.all (lv:=lv+1) (by omega) (fun x=>ih (lv+1) x (by omega) (by omega)) e.args Cts.nought
  rw[Nat.zero_add,Nat.zero_max] at this
  refine this.over ?_
  have:=dptE_le (d+1) e
  rw[dptE] at this
  omega
def cntP (d:Nat) (p:Pr):Nat:=(p.body.map (cntS d)).sum
def dptP (d:Nat) (p:Pr):Nat:=maxN (p.body.map (dptS d))
def readsP (d:Nat) (p:Pr):List ByteArray:=if rightB d p then p.body.flatMap (readsS d) else []
def writesP (d:Nat) (p:Pr):List ByteArray:=if rightB d p then p.body.flatMap (writesS d) else []
def emitsP (d:Nat) (p:Pr):List ByteArray:=if rightB d p then p.body.flatMap (emitsS d) else []
end Go.Afx
namespace Go.Proofs.YtgbgiknfejpcoaaGreat
open Go.RowKit Go.Afx
theorem over_any (a b:Int) (w:World) (ha:0≤a) (hb:0≤b) (ha':a≤1000) (hb':b≤1000) :
  Calls Tryz.prog 114 #[.agg #[.int .i64 a,.int .i64 b]] w fun e w'=>e=.returned (.agg #[.int .i64 (overZ (a,b)).1,.int .i64 (overZ (a,b)).2])∧Below w.heap.size w w':=by
 go_enter Tryz.func114,Tryz.ntmps114
 go_wp2
 all_goals
  refine bodyPost_ret (v:=.agg #[.int .i64 (overZ (a,b)).1,.int .i64 (overZ (a,b)).2]) ?_ rfl ⟨rfl,?_⟩
  ·simp[results,Tryz.results114,go_sem,overZ]
   omega
  ·exact((Below.refl _ _).alloc (Nat.le_refl _) _).alloc (by simp) _
theorem full_any (g:Nat) (a b:Int) (w:World) (hk:IsBlk w g 156 #[.int .i64 a,.int .i64 b]) :
  Calls Tryz.prog 132 #[.pointer (some ⟨g,0,none⟩)] w fun e w'=>e=.returned (.bool (fullZ (a,b)))∧w=w':=by
 have h0:=hk.cell 0
 have h1:=hk.cell 1
 simp at h0 h1
 have hlt:=hk.lt
 go_enter Tryz.func132,Tryz.ntmps132
 go_wp2
 all_goals
  go_ret
  refine⟨ret_bool ?_,rfl⟩
  simp_all [fullZ]
theorem blk_two {w:World} {g:Nat} {T:TypeId} {a b x y X Y:Int} {o:Obj} (hk:IsBlk w g T #[.int .i64 a,.int .i64 b]) (hx:X=x) (hy:Y=y) :
  IsBlk (((w.setCell ⟨g,0,none⟩ (.int .i64 X)).setCell ⟨g,1,none⟩ (.int .i64 Y)).alloc o).drew g T #[.int .i64 x,.int .i64 y]:=by
 subst hx hy
 exact((hk.stored 0 _).stored 1 _).alloc o
theorem ret_ib {a b:Int} {x y:Bool} (h:a=b) (k:x=y):Ending.returned (.tuple #[.int .i64 a,.bool x])=.returned (.tuple #[.int .i64 b,.bool y]):=by rw[h,k]
theorem add_any (g:Nat) (a b c d:Int) (w:World) (hk:IsBlk w g 156 #[.int .i64 a,.int .i64 b]) (ha:0≤a) (ha':a≤1000) (hc:0≤c) (hc':c≤1000) :
  Calls Tryz.prog 133 #[.pointer (some ⟨g,0,none⟩),.agg #[.int .i64 c,.int .i64 d]] w fun e w'=>e=.returned (.tuple #[]) ∧
   IsBlk w' g 156 #[.int .i64 (addZ (a,b) (c,d)).1,.int .i64 (addZ (a,b) (c,d)).2]∧But (fun k=>k=g) w w':=by
 have h0:=hk.cell 0
 have h1:=hk.cell 1
 simp at h0 h1
 have hlt:=hk.lt
 have hfz:=hk.frozen
 go_enter Tryz.func133,Tryz.ntmps133
 go_wp2
 go_region
 all_goals go_wp2
 all_goals
  go_end0
  exact⟨rfl,blk_two hk (by simp only[addZ];omega) (by simp only[addZ];omega),((((But.refl (fun k=>k=g) w).setCell (p:=⟨g,0,none⟩) (.inl rfl) _).setCell (p:=⟨g,1,none⟩) (.inl rfl) _).alloc _).drew⟩
theorem small_any (g:Nat) (a b:Int) (w:World) (hk:IsBlk w g 156 #[.int .i64 a,.int .i64 b]) :
  Calls Tryz.prog 72 #[.pointer (some ⟨g,0,none⟩)] w fun e w'=>e=.returned (.bool (smallZ (a,b)))∧w=w':=by
 have h0:=hk.cell 0
 have h1:=hk.cell 1
 simp at h0 h1
 have hlt:=hk.lt
 go_enter Tryz.func72,Tryz.ntmps72
 go_wp2
 all_goals
  go_ret
  refine⟨ret_bool ?_,rfl⟩
  simp_all [smallZ]
  try omega
theorem args_any (op:Int) (w:World) :
  Calls Tryz.prog 116 #[.int .i64 op] w fun e w'=>e=.returned (.tuple #[.int .i64 (arityB op),.bool (rowsB op)])∧w=w':=by
 go_enter Tryz.func116,Tryz.ntmps116
 go_wp2
 all_goals
  go_ret2
  (try simp only[beq_iff_eq,beq_eq_false_iff_ne,ne_eq] at *)
  first|(exfalso;omega)|exact⟨ret_ib (by unfold arityB;repeat (first|rw[if_pos (by omega)]|rw[if_neg (by omega)])) (by simp[rowsB];try omega),by first|rfl|trivial⟩
def SizesE (F:Nat→Prop) (d:Nat):Prop:=∀ (e:Ex) (row:List Value) (lv:Int) (w:World),ExAt F d w row e→0≤lv→lv+d≤100000 →
 Calls Tryz.prog 71 #[.agg row.toArray,.int .i64 lv] w fun x w'=>x=.returned (.agg #[.int .i64 (sizeE d lv e).1,.int .i64 (sizeE d lv e).2])∧Below w.heap.size w w'
theorem drop_cons {α:Type} {l:List α} {k:Nat} {x:α} (h:l[k]?=some x):l.drop k=x::l.drop (k+1):=by
 obtain⟨hk,rfl⟩:=List.getElem?_eq_some_iff.1 h
 exact List.drop_eq_getElem_cons hk
theorem allE_any (F:Nat→Prop) (d:Nat) (ih:SizesE F d) (A:Option Addr) (n c:Nat) (es:List Ex) (lv:Int) (w:World) (h:ExsAt F d w A n c es) (h0:0≤lv) (h1:lv+d≤100000) :
  Calls Tryz.prog 115 #[.slice A n c,.int .i64 lv,.func (.func 71) #[] #[]] w fun x w'=>x=.returned (.agg #[.int .i64 (allZ lv (sizeE d lv) (0,0) es).1,.int .i64 (allZ lv (sizeE d lv) (0,0) es).2])∧Below w.heap.size w w':=by
 have hn:=h.n_le
 have Hlen:=Lhd h.len
 obtain⟨w2,Hw2⟩:∃ w2,Hid (w2=(w.alloc (.cells #[.int .i64 0,.int .i64 0] 156)).alloc (.cells #[.int .i64 0,.int .i64 0] 156)):=⟨_,rfl⟩
 have hb2:Below w.heap.size w w2:=by rw[Hw2.out];exact((Below.refl _ _).alloc (Nat.le_refl _) _).alloc (by simp) _
 have hr2:IsBlk w2 w.heap.size 156 #[.int .i64 0,.int .i64 0]:=by rw[Hw2.out];exact(IsBlk.laid _ _ _).alloc _
 have hs2:IsBlk w2 (w.heap.size+1) 156 #[.int .i64 0,.int .i64 0]:=by
  have:=IsBlk.laid (w.alloc (.cells #[.int .i64 0,.int .i64 0] 156)) 156 #[.int .i64 0,.int .i64 0]
  rw[Hw2.out];simpa using this
 go_enter Tryz.func115,Tryz.ntmps115
 go_wp2
 rw[← Hw2.out]
 go_loopw [12] (fun i wr=>∃ (k:Nat) (s:Int×Int),k≤n∧i=.int .i64 k∧IsBlk wr (w.heap.size+1) 156 #[.int .i64 s.1,.int .i64 s.2]∧IsBlk wr w.heap.size 156 #[.int .i64 0,.int .i64 0]∧Zok s ∧
  allZ lv (sizeE d lv) (0,0) es=allZ lv (sizeE d lv) s (es.drop k)∧Below w.heap.size w wr) (fun i _=>n-(intOf i).toNat)
 case atStart=>exact⟨0,(0,0),Nat.zero_le _,rfl,hs2,hr2,Zok.nought,rfl,hb2⟩
 case round =>
  obtain⟨k,⟨s1,s2⟩,hk,rfl,hs,hr,hz,heq,hb⟩:=hrel
  have Heq:=Lhd heq
  clear heq hs2 hr2 hb2 Hw2
  have hlt:=hr.lt
  have hlts:=hs.lt
  obtain⟨z1,z2,z3,z4⟩:=hz
  simp only at z1 z2 z3 z4
  have hr0:=hr.cell 0
  have hr1:=hr.cell 1
  have hs0:=hs.cell 0
  have hs1:=hs.cell 1
  simp at hr0 hr1 hs0 hs1
  have hrf:=hr.frozen
  by_cases hlt':k<n
  ·cases d with
   | zero =>
    obtain⟨b,o,r,e,hA,hbl,_,he,hl,hp,hc⟩:=LsAt.get (h.below hb) hlt'
    exact hp.elim
   | succ d =>
    obtain⟨b,o,e,A2,m2,c2,rfl,hbl,hek,hc0,hc1,hc2,hc3,hc4,hc5,hp,_⟩:=ExsAt.get (h.below hb) hlt'
    have Hd:=Lhd (drop_cons hek)
    clear hek
    have hf:=fun W (hk:IsBlk W (w.heap.size+1) 156 #[.int .i64 s1,.int .i64 s2])=>full_any (w.heap.size+1) s1 s2 W hk
    obtain⟨fl,Hfl⟩:∃ fl,Hid (fullZ (s1,s2)=fl):=⟨_,rfl⟩
    rw[Hfl.out] at hf
    have Hf:=Lhd hf
    clear hf
    have hsn:=hs.alloc (.cells #[.int .i64 e.op,.int .i64 e.n,.string e.s,.string e.name,.string e.src,.slice A2 m2 c2] 60)
    have hrn:=hr.alloc (.cells #[.int .i64 e.op,.int .i64 e.n,.string e.s,.string e.name,.string e.src,.slice A2 m2 c2] 60)
    have hbn:=hb.alloc hb.size (.cells #[.int .i64 e.op,.int .i64 e.n,.string e.s,.string e.name,.string e.src,.slice A2 m2 c2] 60)
    have hpn:=hp.below ((Below.refl wr.heap.size wr).alloc (Nat.le_refl _) (.cells #[.int .i64 e.op,.int .i64 e.n,.string e.s,.string e.name,.string e.src,.slice A2 m2 c2] 60))
    cases fl
    ·by_cases hlv:lv<1000
     ·go_wp2_with (first|(go_at_call 132;refine(Hf.out _ hsn).mono ?_;rintro x w' ⟨rfl,rfl⟩))
      have hz2:=sizeE_ok (d+1) lv e
      obtain⟨y1,y2,y3,y4⟩:=hz2
      have Hih:=Lhd (ih e _ lv _ hpn h0 (by omega))
      refine Hih.out.mono ?_
      rintro x w3 ⟨rfl,hb3⟩
      have hs3:=hsn.as_was (hb3.block _ hsn.lt)
      have hr3:=hrn.as_was (hb3.block _ hrn.lt)
      have hb03:=hbn.trans (hb3.mono hbn.size)
      go_wp2_with fail
      refine(add_any (w.heap.size+1) s1 s2 _ _ w3 hs3 z1 z2 y1 y2).mono ?_
      rintro x w4 ⟨rfl,hs4,hbut4⟩
      have hr4:=hr3.as_was (hbut4.block _ hr3.lt (by omega))
      have hb04:=hb03.trans (hbut4.below' hb03.size (fun i hi=>by omega))
      go_wp2
      go_roundw
      case rel=>exact⟨k+1,addZ (s1,s2) (sizeE (d+1) lv e),by omega,by go_num,hs4,hr4,Zok.add ⟨z1,z2,z3,z4⟩ ⟨y1,y2,y3,y4⟩,by rw[Heq.out,Hd.out,allZ,Hfl.out];simp;intro hh;omega,hb04⟩
      case measure=>simp[intOf];omega
     ·go_wp2_with (first|(go_at_call 132;refine(Hf.out _ hsn).mono ?_;rintro x w' ⟨rfl,rfl⟩))
      refine bodyPost_ret (v:=.agg #[.int .i64 1000,.int .i64 1000]) (by simp[results,Tryz.results115,go_sem,hr0,hr1,hlt]) rfl ⟨?_,((hb.setCell (p:=⟨w.heap.size,0,none⟩) (Nat.le_refl _) _).setCell (p:=⟨w.heap.size,1,none⟩) (Nat.le_refl _) _).alloc (by simpa using hb.size) _⟩
      rw[Heq.out,Hd.out,allZ,Hfl.out,if_pos (by simp;omega)]
    ·go_wp2_with (first|(go_at_call 132;refine(Hf.out _ hsn).mono ?_;rintro x w' ⟨rfl,rfl⟩))
     refine bodyPost_ret (v:=.agg #[.int .i64 1000,.int .i64 1000]) (by simp[results,Tryz.results115,go_sem,hr0,hr1,hlt]) rfl ⟨?_,((hb.setCell (p:=⟨w.heap.size,0,none⟩) (Nat.le_refl _) _).setCell (p:=⟨w.heap.size,1,none⟩) (Nat.le_refl _) _).alloc (by simpa using hb.size) _⟩
     rw[Heq.out,Hd.out,allZ,Hfl.out,if_pos (by simp)]
  ·go_wp2
   refine bodyPost_ret (v:=.agg #[.int .i64 s1,.int .i64 s2]) (by simp[results,Tryz.results115,go_sem,hr0,hr1]) rfl ⟨?_,(hb.setCell (p:=⟨w.heap.size,0,none⟩) (Nat.le_refl _) _).setCell (p:=⟨w.heap.size,1,none⟩) (Nat.le_refl _) _⟩
   rw[Heq.out,List.drop_of_length_le (by rw[Hlen.out];omega)]
   rfl
theorem laid_at {w:World} {g:Nat} (hg:g=w.heap.size) (T:TypeId) (cs:Array Value):IsBlk (w.alloc (.cells cs T)) g T cs:=by subst hg;exact IsBlk.laid _ _ _
theorem sizeE_any (F:Nat→Prop) (d:Nat):SizesE F d:=by
 induction d with
 | zero=>intro e row lv w h;exact h.elim
 | succ d ih =>
  intro e row lv w h h0 h1
  obtain⟨A,m,c,rfl,hl⟩:=h.open_.2.2.2.2.2
  have hb1:Below w.heap.size w (w.alloc (.cells #[.int .i64 e.op,.int .i64 e.n,.string e.s,.string e.name,.string e.src,.slice A m c] 60)):=(Below.refl _ _).alloc (Nat.le_refl _) _
  have hb2:=hb1.alloc hb1.size (.cells #[.int .i64 0,.int .i64 0] 156)
  have Hall:=Lhd (allE_any F d ih A m c e.args (lv+1) _ (hl.below hb2) (by omega) (by omega))
  obtain⟨y1,y2,y3,y4⟩:=Zok.all (lv:=lv+1) (l:=e.args) (sizeE_ok d (lv+1)) Zok.nought
  have hr2:IsBlk ((w.alloc (.cells #[.int .i64 e.op,.int .i64 e.n,.string e.s,.string e.name,.string e.src,.slice A m c] 60)).alloc (.cells #[.int .i64 0,.int .i64 0] 156)) (w.heap.size+1) 156 #[.int .i64 0,.int .i64 0]:=laid_at (by simp) _ _
  have Hr2:=Lhd hr2
  clear hr2
  go_enter Tryz.func71,Tryz.ntmps71
  go_wp2_with (first|(go_at_call 115;refine Hall.out.mono ?_;rintro x w3 ⟨rfl,hb3⟩;have hr3:=Hr2.out.as_was (hb3.block _ Hr2.out.lt);have hb03:=hb2.trans (hb3.mono hb2.size))|(go_at_call 114;refine(over_any _ _ _ y1 y3 y2 y4).mono ?_;rintro x w4 ⟨rfl,hb4⟩;have hr4:=hr3.as_was (hb4.block _ hr3.lt);have q0:=hr4.cell 0;have q1:=hr4.cell 1;simp at q0 q1;have qf:=hr4.frozen;have ql:=hr4.lt))
  have hb04:=hb03.trans (hb4.mono hb03.size)
  refine bodyPost_ret (v:=.agg #[.int .i64 (sizeE (d+1) lv e).1,.int .i64 (sizeE (d+1) lv e).2]) (by simp[results,Tryz.results71,go_sem,q0,q1,sizeE]) rfl ⟨rfl,(hb04.setCell (p:=⟨w.heap.size+1,0,none⟩) (by simp) _).setCell (p:=⟨w.heap.size+1,1,none⟩) (by simp) _⟩
end Go.Proofs.YtgbgiknfejpcoaaGreat

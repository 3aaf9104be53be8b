/- Parts of this proof, one behind the other: Hue, SynP, SynR, SynX, SynA, SynB. -/
import Derived.Test.YtjjfkhbajidmdaaGreatDoorPb1
import Derived.Test.YtjjfkhbajidmdaaGreatDoorProg
import Derived.WalkSpells
import Derived.WalkLawsBesides
import Derived.Deep.QuietTactic
import Derived.BigQuiet
import Derived.BigRegion
import Derived.Outline
import Derived.Lib.Hide
set_option maxRecDepth 1000000
set_option maxHeartbeats 40000000
namespace Go.Afx
open Go.RowKit
theorem aC.turn {F F':Nat→Prop} {w w':World} (hF:∀ k,k<w.heap.size→F k→F' k) (hk:Kept F w w'):∀ (d:Nat) {d':Nat} {r:List Value} {e:Ex},d≤d'→aC F d w r e→aC F' d' w' r e:=by
 intro d
 induction d with
 | zero=>intro d' r e _ h;exact h.elim
 | succ d ih =>
  intro d' r e hd h
  obtain⟨d',rfl⟩:∃ k,d'=k+1:=⟨d'-1,by omega⟩
  obtain⟨h1,h2,h3,h4,h5,A,m,c,hr,hl⟩:=h
  exact⟨h1,h2,h3,h4,h5,A,m,c,hr,hl.conv hk (fun a ha h0 h=>hF _ (hl.lt h0 a ha) h) fun r x _ hx=>ih (by omega) hx⟩
theorem aO.turn {F F':Nat→Prop} {w w':World} (hF:∀ k,k<w.heap.size→F k→F' k) (hk:Kept F w w') {d d':Nat} (hd:d≤d') {A:Option Addr} {n c:Nat} {es:List Ex} (h:aO F d w A n c es):aO F' d' w' A n c es :=
 ai.conv h hk (fun a ha h0 hf=>hF _ (ai.lt h h0 a ha) hf) fun _ _ _ hx=>aC.turn hF hk d hd hx
theorem bQ.turn {F F':Nat→Prop} {w w':World} (hF:∀ k,k<w.heap.size→F k→F' k) (hk:Kept F w w'):∀ (d:Nat) {d':Nat} {r:List Value} {e:St},d≤d'→bQ F d w r e→bQ F' d' w' r e:=by
 intro d
 induction d with
 | zero=>intro d' r e _ h;exact h.elim
 | succ d ih =>
  intro d' r e hd h
  obtain⟨d',rfl⟩:∃ k,d'=k+1:=⟨d'-1,by omega⟩
  obtain⟨h1,h2,h3,h4,Ac,nc,cc,Ae,ne,ce,Ab,nb,cb,Al,nl,cl,hr,k1,k2,k3,k4⟩:=h
  exact⟨h1,h2,h3,h4,Ac,nc,cc,Ae,ne,ce,Ab,nb,cb,Al,nl,cl,hr,k1.conv hk (fun a ha h0 h=>hF _ (k1.lt h0 a ha) h) (fun _ _ _ h=>h),aO.turn hF hk (by omega) k2,
   k3.conv hk (fun a ha h0 h=>hF _ (k3.lt h0 a ha) h) (fun _ _ _ hx=>ih (by omega) hx),k4.conv hk (fun a ha h0 h=>hF _ (k4.lt h0 a ha) h) (fun _ _ _ hx=>ih (by omega) hx)⟩
theorem aP.turn {F F':Nat→Prop} {w w':World} (hF:∀ k,k<w.heap.size→F k→F' k) (hk:Kept F w w') {d d':Nat} (hd:d≤d') {A:Option Addr} {n c:Nat} {es:List St} (h:aP F d w A n c es):aP F' d' w' A n c es :=
 ai.conv h hk (fun a ha h0 hf=>hF _ (ai.lt h h0 a ha) hf) fun _ _ _ hx=>bQ.turn hF hk d hd hx
def Hu (hue:Nat→Nat) (i:Nat):Nat→Prop:=fun b=>hue b=i
def aK (hue:Nat→Nat) (w:World) (i:Nat):Nat→Nat:=fun b=>if b<w.heap.size then hue b else i
theorem aT {hue:Nat→Nat} {w:World} {i:Nat}:∀ k,k<w.heap.size→aK hue w i k=hue k:=fun _ hk=>if_pos hk
theorem zK {hue:Nat→Nat} {w:World} {i k:Nat} (hk:w.heap.size≤k):aK hue w i k=i:=if_neg (by omega)
structure eQ (hue:Nat→Nat) (i base:Nat) (w:World) (T:TypeId) (sz:Nat) (A:Option Addr) (n c:Nat) (rows:List (List Value)):Prop where
 own:w.ownsRow base T sz (.slice A n c) n rows.flatten
 hue:∀ a,A=some a→hue a.block=i
 len:rows.length=n
 wid:∀ r∈rows,r.length=sz
section
variable {hue zL:Nat→Nat} {i base:Nat} {w w' w2:World} {T:TypeId} {sz:Nat} {A:Option Addr} {n c:Nat} {rows:List (List Value)} {S:Nat→Prop}
theorem eQ.lt (h:eQ hue i base w T sz A n c rows):∀ a,A=some a→a.block<w.heap.size:=by
 intro a ha;subst ha;exact(h.own.lt a.block rfl).2
theorem eQ.nil_ (hue:Nat→Nat) (i base:Nat) (w:World) (T:TypeId) (sz:Nat):eQ hue i base w T sz none 0 0 []:=⟨World.ownsRow_nil _ _ _ _,(by intro a h;cases h),rfl,(by intro r h;cases h)⟩
theorem eQ.at_ (h:eQ hue i base w T sz A n c rows):az w sz A n c rows:=az.kS h.own h.wid h.len
theorem eQ.keep (h:eQ hue i base w T sz A n c rows) (hb:But S w w') (hS:∀ k,k<w.heap.size→S k→hue k≠i) (hh:∀ k,k<w.heap.size→zL k=hue k):eQ zL i base w' T sz A n c rows:=by
 refine⟨eP h.own hb fun g hg hs=>?_,fun a ha=>?_,h.len,h.wid⟩
 ·cases A with
  | none=>cases hg
  | some a =>
   have e:a.block=g:=by simpa [Value.ownBlock] using hg
   subst e
   exact hS _ (h.lt a rfl) hs (h.hue a rfl)
 ·rw[hh _ (h.lt a ha)];exact h.hue a ha
theorem eQ.grow (h:eQ hue i base w T sz A n c rows) {o:Obj} {A2:Option Addr} {m c2 bt j:Nat} {news:List (List Value)} {u:Value}
  (hown:w2.ownsRow base T sz (.slice A2 (n+m) c2) (n+m) (rows++news).flatten) (hnl:news.length=m) (hnw:∀ r∈news,r.length=sz) (fE:But (fun k=>A.map (·.block)=some k) (w.alloc o) w2)
  (hf:∀ a2,A2=some a2→A=some a2∨(w.alloc o).heap.size≤a2.block) (hbt:bt<w.heap.size) (hbi:hue bt≠i) :
  eQ (aK hue w i) i base (w2.setCell ⟨bt,j,none⟩ u) T sz A2 (n+m) c2 (rows++news)∧But (fun k=>hue k=i∨k=bt) w (w2.setCell ⟨bt,j,none⟩ u):=by
 have hz:=fE.size
 simp only[World.alloc,Array.size_push] at hz
 have hA2:∀ a2,A2=some a2→aK hue w i a2.block=i:=by
  intro a2 ha
  rcases hf a2 ha with h1|h1
  ·rw[aT _ (h.lt a2 h1)];exact h.hue a2 h1
  ·simp only[World.alloc,Array.size_push] at h1;exact zK (by omega)
 have hb1:But (fun k=>hue k=i∨k=bt) w w2:=((But.refl _ w).alloc o).trans fE fun k hk=>by
  cases A with
  | none=>cases hk
  | some a =>
   have e:a.block=k:=by simpa using hk
   subst e
   exact .inl (.inl (h.hue a rfl))
 refine⟨⟨?_,hA2,by simp[h.len,hnl],fun r hr=>?_⟩,hb1.setCell (p:=⟨bt,j,none⟩) (.inl (.inr rfl)) u⟩
 ·refine eP hown ((But.refl (fun k=>k=bt) w2).setCell (p:=⟨bt,j,none⟩) (.inl rfl) u) fun g hg e=>?_
  subst e
  cases A2 with
  | none=>cases hg
  | some a2 =>
   have e:a2.block=g:=by simpa [Value.ownBlock] using hg
   have h1:=hA2 a2 rfl
   rw[e,aT _ hbt] at h1
   exact hbi h1
 ·rcases List.mem_append.1 hr with hr|hr
  ·exact h.wid r hr
  ·exact hnw r hr
end
structure WV {α:Type} (hue:Nat→Nat) (i base:Nat) (w:World) (T:TypeId) (sz:Nat) (TI:TypeId) (P:Nat→List Value→α→Prop) (tell:α→Int×Int) (A0:Option Addr) (c0:Nat) (A1:Option Addr) (c1:Nat) (A2:Option Addr) (c2:Nat) (xs:List α):Prop where
 rows:∃ rows,eQ hue i base w T sz A0 xs.length c0 rows∧∀ (k:Nat) (r:List Value) (x:α),rows[k]?=some r→xs[k]?=some x→P k r x
 nodes:eQ hue (i+1) base w TI 1 A1 xs.length c1 (xs.map fun x=>[.int .i64 (tell x).1])
 deep:eQ hue (i+2) base w TI 1 A2 xs.length c2 (xs.map fun x=>[.int .i64 (tell x).2])
section
variable {α:Type} {hue zL:Nat→Nat} {i base:Nat} {w w':World} {T:TypeId} {sz:Nat} {TI:TypeId} {P P':Nat→List Value→α→Prop} {tell:α→Int×Int} {A0 A1 A2:Option Addr} {c0 c1 c2:Nat} {xs:List α} {S:Nat→Prop}
theorem WV.nil_ (hue:Nat→Nat) (i base:Nat) (w:World) (T:TypeId) (sz:Nat) (TI:TypeId) (P:Nat→List Value→α→Prop) (tell:α→Int×Int):WV hue i base w T sz TI P tell none 0 none 0 none 0 [] :=
 ⟨⟨[],eQ.nil_ _ _ _ _ _ _,fun k r x h=>by simp at h⟩,eQ.nil_ _ _ _ _ _ _,eQ.nil_ _ _ _ _ _ _⟩
theorem WV.keep (h:WV hue i base w T sz TI P tell A0 c0 A1 c1 A2 c2 xs) (hb:But S w w') (hS:∀ k,k<w.heap.size→S k→hue k≠i∧hue k≠i+1∧hue k≠i+2) (hh:∀ k,k<w.heap.size→zL k=hue k) (hP:∀ k r x,x∈xs→P k r x→P' k r x) :
  WV zL i base w' T sz TI P' tell A0 c0 A1 c1 A2 c2 xs:=by
 obtain⟨⟨rows,h1,h2⟩,h3,h4⟩:=h
 exact⟨⟨rows,h1.keep hb (fun k hk hs=>(hS k hk hs).1) hh,fun k r x hr hx=>hP k r x (List.mem_of_getElem? hx) (h2 k r x hr hx)⟩,h3.keep hb (fun k hk hs=>(hS k hk hs).2.1) hh,h4.keep hb (fun k hk hs=>(hS k hk hs).2.2) hh⟩
theorem WV.get (h:WV hue i base w T sz TI P tell A0 c0 A1 c1 A2 c2 xs) {k:Nat} (hk:k<xs.length) :
  ∃ b0 b1 b2 r x,A0=some ⟨b0,0,none⟩∧A1=some ⟨b1,0,none⟩∧A2=some ⟨b2,0,none⟩∧b0<w.heap.size∧b1<w.heap.size∧b2<w.heap.size∧xs[k]?=some x∧r.length=sz∧P k r x∧(∀ j u,r[j]?=some u→w.cell? ⟨b0,k*sz+j,none⟩=some u) ∧
   w.cell? ⟨b1,k,none⟩=some (.int .i64 (tell x).1)∧w.cell? ⟨b2,k,none⟩=some (.int .i64 (tell x).2)∧hue b0=i∧hue b1=i+1∧hue b2=i+2:=by
 obtain⟨⟨rows,h1,h2⟩,h3,h4⟩:=h
 have hx:xs[k]?=some xs[k]:=List.getElem?_eq_getElem hk
 have hr:rows[k]?=some (rows[k]'(by have:=h1.len;omega)):=List.getElem?_eq_getElem _
 obtain⟨g0,cap0,e0,_⟩:=h1.own.form (by omega)
 obtain⟨g1,cap1,e1,_⟩:=h3.own.form (by omega)
 obtain⟨g2,cap2,e2,_⟩:=h4.own.form (by omega)
 simp only[Value.slice.injEq] at e0 e1 e2
 obtain⟨rfl,_,rfl⟩:=e0
 obtain⟨rfl,_,rfl⟩:=e1
 obtain⟨rfl,_,rfl⟩:=e2
 obtain⟨b,o,hA,hb,hc⟩:=h1.at_.at_ k _ hr
 obtain⟨b',o',hA',hb',hc'⟩:=h3.at_.one (u:=.int .i64 (tell xs[k]).1) (k:=k) (by rw[List.getElem?_map,hx];rfl)
 obtain⟨b'',o'',PY,anb,hc''⟩:=h4.at_.one (u:=.int .i64 (tell xs[k]).2) (k:=k) (by rw[List.getElem?_map,hx];rfl)
 simp only[Option.some.injEq,Addr.mk.injEq,and_true] at hA hA' PY
 obtain⟨rfl,rfl⟩:=hA
 obtain⟨rfl,rfl⟩:=hA'
 obtain⟨rfl,rfl⟩:=PY
 exact⟨_,_,_,_,_,rfl,rfl,rfl,hb,hb',anb,hx,h1.wid _ (List.mem_of_getElem? hr),h2 k _ _ hr hx,fun j u hj=>by simpa using hc j u hj,by simpa using hc',by simpa using hc'',h1.hue _ rfl,h3.hue _ rfl,h4.hue _ rfl⟩
theorem WV.lists {F:Nat→Prop} {Q:List Value→α→Prop} (h:WV hue i base w T sz TI P tell A0 c0 A1 c1 A2 c2 xs) (hF:∀ k,k<w.heap.size→(hue k=i∨hue k=i+1∨hue k=i+2)→F k) (hQ:∀ k r x,k<xs.length→P k r x→Q r x) (agj:∀ x,okI (tell x).1∧okI (tell x).2) :
  ai F w sz Q A0 xs.length c0 xs∧ai F w 1 kD A1 xs.length c1 (xs.map fun x=>(tell x).1)∧ai F w 1 kD A2 xs.length c2 (xs.map fun x=>(tell x).2):=by
 obtain⟨⟨rows,h1,h2⟩,h3,h4⟩:=h
 refine⟨⟨rows,h1.at_,fun a ha _=>hF _ (h1.lt a ha) (.inl (h1.hue a ha)),h1.len,fun k r x hr hx=>⟨h1.wid r (List.mem_of_getElem? hr),hQ k r x (List.getElem?_eq_some_iff.1 hx).1 (h2 k r x hr hx)⟩⟩,
  ⟨_,h3.at_,fun a ha _=>hF _ (h3.lt a ha) (.inr (.inl (h3.hue a ha))),by simp,fun k r x hr hx=>?_⟩,⟨_,h4.at_,fun a ha _=>hF _ (h4.lt a ha) (.inr (.inr (h4.hue a ha))),by simp,fun k r x hr hx=>?_⟩⟩
 ·rw[List.getElem?_map] at hr hx
  obtain⟨y,hy,rfl⟩:=Option.map_eq_some_iff.1 hr
  rw[hy] at hx
  injection hx with hx
  subst hx
  exact⟨rfl,rfl,(agj y).1⟩
 ·rw[List.getElem?_map] at hr hx
  obtain⟨y,hy,rfl⟩:=Option.map_eq_some_iff.1 hr
  rw[hy] at hx
  injection hx with hx
  subst hx
  exact⟨rfl,rfl,(agj y).2⟩
end
end Go.Afx
namespace Go.Afx
open Go.RowKit
theorem TQ {a b:ByteArray} (h:a.toList=b.toList):a=b:=WideShapes.bytes_inj (by rw[← ByteArray.toList_eq,← ByteArray.toList_eq,h])
theorem aks {a b:ByteArray}:(a.toList==b.toList)=decide (a=b):=by
 rw[Bool.eq_iff_iff,beq_iff_eq,decide_eq_true_iff]
 exact⟨TQ,fun h=>by rw[h]⟩
/- sizes -/
def vP (s:Int×Int):Bool:=decide (1000≤s.1)||decide (1000≤s.2)
def uk (s t:Int×Int):Int×Int:=(min (s.1+t.1) 1000,max s.2 t.2)
def pM (s:Int×Int):Int×Int:=(min (s.1+1) 1000,min (s.2+1) 1000)
def rP (s:Int×Int):Int×Int:=if vP s then (1000,1000) else s
def jh {α:Type} (lv:Int) (one:α→Int×Int):Int×Int→List α→Int×Int
 | s,[]=>s
 | s,x::r=>if vP s||decide (1000≤lv) then (1000,1000) else jh lv one (uk s (one x)) r
def iZ:Nat→Int→Ex→Int×Int
 | 0,_,_=>(0,0)
 | d+1,lv,e=>pM (jh (lv+1) (iZ d (lv+1)) (0,0) e.args)
def iL:Nat→Int→St→Int×Int
 | 0,_,_=>(0,0)
 | d+1,lv,x=>pM (uk (uk (jh (lv+1) (iZ d (lv+1)) (0,0) x.exprs) (jh (lv+1) (iL d (lv+1)) (0,0) x.body)) (jh (lv+1) (iL d (lv+1)) (0,0) x.els))
def tV (s:Int×Int):Prop:=0≤s.1∧s.1≤1000∧0≤s.2∧s.2≤1000
theorem tV.nought:tV (0,0):=⟨by omega,by omega,by omega,by omega⟩
theorem tV.much:tV (1000,1000):=⟨by omega,by omega,by omega,by omega⟩
theorem tV.add {s t:Int×Int} (h:tV s) (k:tV t):tV (uk s t):=by
 obtain⟨a,b⟩:=s;obtain⟨c,d⟩:=t
 simp only[tV,uk] at h k ⊢;omega
theorem tV.over {s:Int×Int} (h:tV s):tV (pM s):=by
 obtain⟨a,b⟩:=s
 simp only[tV,pM] at h ⊢;omega
theorem tV.all {α:Type} {lv:Int} {one:α→Int×Int} (h:∀ x,tV (one x)):∀ {l:List α} {s:Int×Int},tV s→tV (jh lv one s l):=by
 intro l
 induction l with
 | nil=>intro s hs;exact hs
 | cons x r ih =>
  intro s hs
  unfold jh
  split
  ·exact tV.much
  ·exact ih (hs.add (h x))
theorem DC (d:Nat):∀ lv e,tV (iZ d lv e):=by
 induction d with
 | zero=>intro lv e;exact tV.nought
 | succ d ih=>intro lv e;exact(tV.all (ih _) tV.nought).over
theorem I7 (d:Nat):∀ lv e,tV (iL d lv e):=by
 induction d with
 | zero=>intro lv e;exact tV.nought
 | succ d ih=>intro lv e;exact(((tV.all (DC d _) tV.nought).add (tV.all (ih _) tV.nought)).add (tV.all (ih _) tV.nought)).over
/- names -/
def ni (c:UInt8):Bool:=decide (97≤c.toNat)&&decide (c.toNat≤122)
def uD (c:UInt8):Bool:=ni c||(decide (48≤c.toNat)&&decide (c.toNat≤57))||decide (c.toNat=95)
def dV (s:ByteArray):Bool:=match s.data.toList with
 | []=>false
 | c::r=>decide (r.length+1≤16)&&ni c&&r.all uD
def str (l:List UInt8):ByteArray:=⟨l.toArray⟩
def ug:List ByteArray:=[str [97,110,100],str [111,114],str [110,111,116],str [116,114,117,101],str [102,97,108,115,101],str [108,101,116],str [115,101,116],str [105,110,115,101,114,116],str [117,112,100,97,116,101],str [100,101,108,101,116,101],str [102,111,114],str [105,110],
 str [119,104,101,114,101],str [108,105,109,105,116],str [105,102],str [101,108,115,101],str [101,109,105,116],str [97,98,111,114,116],str [114,101,112,108,121],str [99,111,117,110,116],str [115,117,109],str [109,105,110],str [109,97,120],str [105,110,116],str [116,101,120,116],str [98,111,111,108],str [116,97,98,108,101],
 str [115,116,114,101,97,109],str [119,105,110,100,111,119],str [115,105,110,107],str [112,114,111,99],str [107,101,121],str [117,110,105,113,117,101],str [105,110,100,101,120],str [112,97,114,116,115],str [98,121],str [111,110],str [102,114,111,109],str [97,116],str [102,117,101,108],str [116,117,112,108,101,115],
 str [98,97,116,99,104,101,115],str [115,108,105,100,101]]
def tu (s:ByteArray):Bool:=ug.any fun x=>x.toList==s.toList
def aJ (s:ByteArray):Bool:=dV s&&!tu s
def lN (l:List ByteArray):Bool:=l.all dV&&!l.any tu
theorem kV (l:List ByteArray):lN l=l.all aJ:=by
 unfold lN aJ
 induction l with
 | nil=>rfl
 | cons a r ih =>
  simp only[List.all_cons,List.any_cons,← ih]
  cases dV a<;>cases tu a<;>cases (List.all r dV)<;>cases (List.any r tu)<;>rfl
/- expressions -/
def iY (op:Int):Int:=if 1≤op∧op≤5 then 0 else if 6≤op∧op≤18 then 2 else if op=19∨op=20 then 1 else if op=21 then 1 else if 22≤op∧op≤24 then 2 else -1
def lM (op:Int):Bool:=decide (21≤op)&&decide (op≤24)
def noS (s:ByteArray):Bool:=decide (s=ByteArray.empty)
def bT (op n:Int) (s name src:ByteArray):Bool :=
 if op=1 then decide (0≤n)&&noS s&&noS name&&noS src
 else if op=2 then decide (s.size≤200)&&decide (n=0)&&noS name&&noS src
 else if op=3 then (decide (n=0)||decide (n=1))&&noS s&&noS name&&noS src
 else if op=4 then aJ name&&decide (n=0)&&noS s&&noS src
 else if op=5 then aJ name&&aJ s&&decide (n=0)&&noS src
 else if lM op then aJ name&&aJ src&&decide (n=0)&&noS s
 else decide (n=0)&&noS s&&noS name&&noS src
def Vz (e:Ex):Bool:=bT e.op e.n e.s e.name e.src
def agc (e:Ex):Bool:=decide (iY e.op=e.args.length)&&Vz e
def aA:Nat→Ex→Bool
 | 0,_=>false
 | d+1,e=>agc e&&e.args.all (aA d)
/- statements -/
def fF (hn hc hnum hb ho hs:Bool) (least most:Int) (name src:ByteArray) (n:Int) (cols:List ByteArray) (ne nb nl:Nat):Bool :=
 (if hn then aJ name else noS name)&&(if hs then aJ src else noS src) &&
 (if hc then decide (1≤cols.length)&&decide (cols.length≤8)&&lN cols&&decide cols.Nodup else decide (cols.length=0)) &&
 (if hnum then decide (0≤n)&&decide (n≤1000) else decide (n=0))&&(decide (least≤(ne:Int))&&decide ((ne:Int)≤most)) &&
 (hb||decide (nb=0))&&(ho||decide (nl=0))
def dm (op:Int) (name src:ByteArray) (n:Int) (cols:List ByteArray) (ne nb nl:Nat):Bool :=
 if op=1∨op=2 then fF true false false false false false 1 1 name src n cols ne nb nl
 else if op=3∨op=8 then fF false false false false false true 1 8 name src n cols ne nb nl
 else if op=4 then fF true true false false false true (cols.length+1) (cols.length+1) name src n cols ne nb nl
 else if op=5 then fF true false false false false true 1 1 name src n cols ne nb nl
 else if op=6 then fF true false true true false true 1 1 name src n cols ne nb nl
 else if op=7 then fF false false false true true false 1 1 name src n cols ne nb nl
 else if op=9 then fF false false false false false false 1 1 name src n cols ne nb nl
 else if op=10 then fF false false false false false false 1 8 name src n cols ne nb nl
 else false
def TR (x:St):Bool:=dm x.op x.name x.src x.n x.cols x.exprs.length x.body.length x.els.length
def bD:Nat→St→Bool
 | 0,_=>false
 | d+1,x=>TR x&&x.exprs.all (aA d)&&x.body.all (bD d)&&x.els.all (bD d)
/- procedures -/
structure Co where
 name:ByteArray
 kind:Int
structure Pr where
 name:ByteArray
 src:ByteArray
 part:ByteArray
 fuel:Int
 params:List Co
 body:List St
def mO (s:Int×Int):Bool:=decide (s.1≤300)&&decide (s.2≤12)
def FP (c:Co):Bool:=decide (1≤c.kind)&&decide (c.kind≤3)
def rW (name src part:ByteArray) (fuel:Int) (params:List Co):Bool :=
 params.all FP&&aJ name&&decide (params.length≤8)&&lN (params.map Co.name)&&decide (params.map Co.name).Nodup&&(decide (1≤fuel)&&decide (fuel≤2000)) &&
 (if noS src then noS part||(params.map Co.name).any fun x=>decide (x=part) else aJ src&&decide (params.length=0)&&noS part)
def zM (p:Pr):Bool:=rW p.name p.src p.part p.fuel p.params
def I8 (d:Nat) (p:Pr):Int×Int:=jh 0 (iL d 0) (0,0) p.body
def cZ (d:Nat) (p:Pr):Bool:=zM p&&mO (I8 d p)&&p.body.all (bD d)
/- what is used -/
def agk:Nat→Ex→List ByteArray
 | 0,_=>[]
 | d+1,e=>(if lM e.op then [e.src] else [])++e.args.flatMap (agk d)
def TS:Nat→St→List ByteArray
 | 0,_=>[]
 | d+1,x=>(if x.op=4∨x.op=5∨x.op=6 then [x.src] else [])++x.exprs.flatMap (agk d)++x.body.flatMap (TS d)++x.els.flatMap (TS d)
def MI:Nat→St→List ByteArray
 | 0,_=>[]
 | d+1,x=>(if x.op=3∨x.op=4∨x.op=5 then [x.src] else [])++x.body.flatMap (MI d)++x.els.flatMap (MI d)
def TT:Nat→St→List ByteArray
 | 0,_=>[]
 | d+1,x=>(if x.op=8 then [x.src] else [])++x.body.flatMap (TT d)++x.els.flatMap (TT d)
end Go.Afx
namespace Go.Afx
open Go.RowKit
def iI:Nat→Ex→Nat
 | 0,_=>0
 | d+1,e=>1+(e.args.map (iI d)).sum
def lJ:Nat→St→Nat
 | 0,_=>0
 | d+1,x=>1+(x.exprs.map (iI d)).sum+(x.body.map (lJ d)).sum+(x.els.map (lJ d)).sum
end Go.Afx
namespace Go.Afx
open Go.RowKit
def iJ (l:List Nat):Nat:=l.foldr max 0
theorem lu (a:Nat) (l:List Nat):iJ (a::l)=max a (iJ l):=rfl
theorem ny {b:Nat}:∀ {l:List Nat},(∀ x∈l,x≤b)→iJ l≤b:=by
 intro l
 induction l with
 | nil=>intro _;simp[iJ]
 | cons a r ih=>intro h;rw[lu];have:=h a (by simp);have:=ih fun x hx=>h x (by simp[hx]);omega
def dQ:Nat→Ex→Nat
 | 0,_=>0
 | d+1,e=>1+iJ (e.args.map (dQ d))
def dN:Nat→St→Nat
 | 0,_=>0
 | d+1,x=>1+max (max (iJ (x.exprs.map (dQ d))) (iJ (x.body.map (dN d)))) (iJ (x.els.map (dN d)))
theorem DD (d:Nat):∀ e,dQ d e≤d:=by
 induction d with
 | zero=>intro e;simp[dQ]
 | succ d ih =>
  intro e
  have:iJ (e.args.map (dQ d))≤d:=ny fun x hx=>by obtain⟨y,_,rfl⟩:=List.mem_map.1 hx;exact ih y
  rw[dQ];omega
theorem Ik (d:Nat):∀ e,dN d e≤d:=by
 induction d with
 | zero=>intro e;simp[dN]
 | succ d ih =>
  intro e
  have h1:iJ (e.exprs.map (dQ d))≤d:=ny fun x hx=>by obtain⟨y,_,rfl⟩:=List.mem_map.1 hx;exact DD d y
  have h2:iJ (e.body.map (dN d))≤d:=ny fun x hx=>by obtain⟨y,_,rfl⟩:=List.mem_map.1 hx;exact ih y
  have h3:iJ (e.els.map (dN d))≤d:=ny fun x hx=>by obtain⟨y,_,rfl⟩:=List.mem_map.1 hx;exact ih y
  rw[dN];omega
def EE (s:Int×Int) (N H:Nat):Prop:=s.1=min (N:Int) 1000∧(N<1000→s.2=H)∧H≤900
theorem EE.nought:EE (0,0) 0 0:=⟨by decide,fun _=>rfl,by omega⟩
theorem EE.add {s t:Int×Int} {N H M K:Nat} (h:EE s N H) (k:EE t M K):EE (uk s t) (N+M) (max H K):=by
 obtain⟨h1,h2,h3⟩:=h
 obtain⟨k1,k2,k3⟩:=k
 refine⟨?_,fun hl=>?_,by omega⟩
 ·simp only[uk];omega
 ·have a:=h2 (by omega)
  have b:=k2 (by omega)
  simp only[uk];omega
theorem EE.over {s:Int×Int} {N H:Nat} (h:EE s N H) (hH:H+1≤900):EE (pM s) (1+N) (1+H):=by
 obtain⟨h1,h2,h3⟩:=h
 refine⟨?_,fun hl=>?_,by omega⟩
 ·simp only[pM];omega
 ·have a:=h2 (by omega)
  simp only[pM];omega
theorem EE.all {α:Type} {lv:Int} {one:α→Int×Int} {f g:α→Nat} (hlv:lv<1000) (h:∀ x,EE (one x) (f x) (g x)):∀ (l:List α) {s:Int×Int} {N H:Nat},EE s N H→EE (jh lv one s l) (N+(l.map f).sum) (max H (iJ (l.map g))):=by
 intro l
 induction l with
 | nil=>intro s N H hs;simpa [jh,iJ] using hs
 | cons x r ih =>
  intro s N H hs
  rw[List.map_cons,List.map_cons,List.sum_cons,lu]
  unfold jh
  split
  ·rename_i hf
   obtain⟨h1,h2,h3⟩:=hs
   have hN:¬ N<1000:=by
    intro hN
    have a:=h2 hN
    simp only[vP,Bool.or_eq_true,decide_eq_true_eq] at hf
    omega
   have hg:∀ l:List α,iJ (l.map g)≤900:=fun l=>ny fun y hy=>by obtain⟨z,_,rfl⟩:=List.mem_map.1 hy;exact(h z).2.2
   have:=hg r
   have:=(h x).2.2
   exact⟨by simp;omega,fun hl=>absurd hl (by omega),by omega⟩
  ·have:=ih (hs.add (h x))
   rw[Nat.add_assoc,Nat.max_assoc] at this
   exact this
theorem WW (d:Nat):∀ (lv:Int) (e:Ex),lv+d≤900→d≤900→EE (iZ d lv e) (iI d e) (dQ d e):=by
 induction d with
 | zero=>intro lv e _ _;exact EE.nought
 | succ d ih =>
  intro lv e h hd
  rw[iZ,iI,dQ]
  have:=EE.all (lv:=lv+1) (by omega) (fun x=>ih (lv+1) x (by omega) (by omega)) e.args EE.nought
  rw[Nat.zero_add,Nat.zero_max] at this
  refine this.over ?_
  have:=DD (d+1) e
  rw[dQ] at this
  omega
theorem WX (d:Nat):∀ (lv:Int) (e:St),lv+d≤900→d≤900→EE (iL d lv e) (lJ d e) (dN d e):=by
 induction d with
 | zero=>intro lv e _ _;exact EE.nought
 | succ d ih =>
  intro lv e h hd
  rw[iL,lJ,dN]
  have h1:=EE.all (lv:=lv+1) (by omega) (fun x=>WW d (lv+1) x (by omega) (by omega)) e.exprs EE.nought
  have h2:=EE.all (lv:=lv+1) (by omega) (fun x=>ih (lv+1) x (by omega) (by omega)) e.body EE.nought
  have h3:=EE.all (lv:=lv+1) (by omega) (fun x=>ih (lv+1) x (by omega) (by omega)) e.els EE.nought
  rw[Nat.zero_add,Nat.zero_max] at h1 h2 h3
  rw[Nat.add_assoc 1,Nat.add_assoc 1]
  refine((h1.add h2).add h3).over ?_
  have:=Ik (d+1) e
  rw[dN] at this
  omega
def adq (d:Nat) (p:Pr):Nat:=(p.body.map (lJ d)).sum
def WB (d:Nat) (p:Pr):Nat:=iJ (p.body.map (dN d))
theorem WY (d:Nat) (p:Pr) (hd:d≤900):EE (I8 d p) (adq d p) (WB d p):=by
 have:=EE.all (lv:=0) (by omega) (fun x=>WX d 0 x (by omega) hd) p.body EE.nought
 rw[Nat.zero_add,Nat.zero_max] at this
 exact this
theorem WZ {d:Nat} {p:Pr} (hd:d≤900) (h:mO (I8 d p)=true):adq d p≤300∧WB d p≤12:=by
 obtain⟨h1,h2,_⟩:=WY d p hd
 simp only[mO,Bool.and_eq_true,decide_eq_true_eq] at h
 have:adq d p≤300:=by omega
 have:=h2 (by omega)
 omega
def anc (d:Nat) (p:Pr):List ByteArray:=if cZ d p then p.body.flatMap (TS d) else []
def al7 (d:Nat) (p:Pr):List ByteArray:=if cZ d p then p.body.flatMap (MI d) else []
def ane (d:Nat) (p:Pr):List ByteArray:=if cZ d p then p.body.flatMap (TT d) else []
end Go.Afx
namespace Go.Proofs.YtjjfkhbajidmdaaGreatDoor
open Go.RowKit Go.Afx
theorem Qi (a b:Int) (w:World) (ha:0≤a) (hb:0≤b) (ha':a≤1000) (hb':b≤1000) :
  Calls Tryz.prog 72 #[.agg #[.int .i64 a,.int .i64 b]] w fun e w'=>e=.returned (.agg #[.int .i64 (pM (a,b)).1,.int .i64 (pM (a,b)).2])∧Below w.heap.size w w':=by
 go_enter Tryz.func72,Tryz.ntmps72
 go_wp2
 all_goals
  refine bodyPost_ret (v:=.agg #[.int .i64 (pM (a,b)).1,.int .i64 (pM (a,b)).2]) ?_ rfl ⟨rfl,?_⟩
  ·simp[results,Tryz.results72,go_sem,pM]
   omega
  ·exact((Below.refl _ _).alloc (Nat.le_refl _) _).alloc (by simp) _
theorem Qj (g:Nat) (a b:Int) (w:World) (hk:af w g 87 #[.int .i64 a,.int .i64 b]) :
  Calls Tryz.prog 69 #[.pointer (some ⟨g,0,none⟩)] w fun e w'=>e=.returned (.bool (vP (a,b)))∧w=w':=by
 have h0:=hk.cell 0
 have h1:=hk.cell 1
 simp at h0 h1
 have hlt:=hk.lt
 go_enter Tryz.func69,Tryz.ntmps69
 go_wp2
 all_goals
  go_ret
  refine⟨aI ?_,rfl⟩
  simp_all [vP]
theorem ad1 {w:World} {g:Nat} {T:TypeId} {a b x y X Y:Int} {o:Obj} (hk:af w g T #[.int .i64 a,.int .i64 b]) (hx:X=x) (hy:Y=y) :
  af (((w.setCell ⟨g,0,none⟩ (.int .i64 X)).setCell ⟨g,1,none⟩ (.int .i64 Y)).alloc o).drew g T #[.int .i64 x,.int .i64 y]:=by
 subst hx hy
 exact((hk.stored 0 _).stored 1 _).alloc o
theorem ahh {a b:Int} {x y:Bool} (h:a=b) (k:x=y):Ending.returned (.tuple #[.int .i64 a,.bool x])=.returned (.tuple #[.int .i64 b,.bool y]):=by rw[h,k]
theorem add_any (g:Nat) (a b c d:Int) (w:World) (hk:af w g 87 #[.int .i64 a,.int .i64 b]) (ha:0≤a) (ha':a≤1000) (hc:0≤c) (hc':c≤1000) :
  Calls Tryz.prog 70 #[.pointer (some ⟨g,0,none⟩),.agg #[.int .i64 c,.int .i64 d]] w fun e w'=>e=.returned (.tuple #[]) ∧
   af w' g 87 #[.int .i64 (uk (a,b) (c,d)).1,.int .i64 (uk (a,b) (c,d)).2]∧But (fun k=>k=g) w w':=by
 have h0:=hk.cell 0
 have h1:=hk.cell 1
 simp at h0 h1
 have hlt:=hk.lt
 have hfz:=hk.frozen
 go_enter Tryz.func70,Tryz.ntmps70
 go_wp2
 go_region
 all_goals go_wp2
 all_goals
  go_end0
  exact⟨rfl,ad1 hk (by simp only[uk];omega) (by simp only[uk];omega),((((But.refl (fun k=>k=g) w).setCell (p:=⟨g,0,none⟩) (.inl rfl) _).setCell (p:=⟨g,1,none⟩) (.inl rfl) _).alloc _).drew⟩
theorem KI (g:Nat) (a b:Int) (w:World) (hk:af w g 87 #[.int .i64 a,.int .i64 b]) :
  Calls Tryz.prog 35 #[.pointer (some ⟨g,0,none⟩)] w fun e w'=>e=.returned (.bool (mO (a,b)))∧w=w':=by
 have h0:=hk.cell 0
 have h1:=hk.cell 1
 simp at h0 h1
 have hlt:=hk.lt
 go_enter Tryz.func35,Tryz.ntmps35
 go_wp2
 all_goals
  go_ret
  refine⟨aI ?_,rfl⟩
  simp_all [mO]
  try omega
theorem oL (op:Int) (w:World) :
  Calls Tryz.prog 95 #[.int .i64 op] w fun e w'=>e=.returned (.tuple #[.int .i64 (iY op),.bool (lM op)])∧w=w':=by
 go_enter Tryz.func95,Tryz.ntmps95
 go_wp2
 all_goals
  go_ret2
  (try simp only[beq_iff_eq,beq_eq_false_iff_ne,ne_eq] at *)
  first|(exfalso;omega)|exact⟨ahh (by unfold iY;repeat (first|rw[if_pos (by omega)]|rw[if_neg (by omega)])) (by simp[lM];try omega),by first|rfl|trivial⟩
def aaR (F:Nat→Prop) (d:Nat):Prop:=∀ (e:Ex) (row:List Value) (lv:Int) (w:World),aC F d w row e→0≤lv→lv+d≤100000 →
 Calls Tryz.prog 60 #[.agg row.toArray,.int .i64 lv] w fun x w'=>x=.returned (.agg #[.int .i64 (iZ d lv e).1,.int .i64 (iZ d lv e).2])∧Below w.heap.size w w'
theorem drop_cons {α:Type} {l:List α} {k:Nat} {x:α} (h:l[k]?=some x):l.drop k=x::l.drop (k+1):=by
 obtain⟨hk,rfl⟩:=List.getElem?_eq_some_iff.1 h
 exact List.drop_eq_getElem_cons hk
theorem Qk (F:Nat→Prop) (d:Nat) (ih:aaR F d) (A:Option Addr) (n c:Nat) (es:List Ex) (lv:Int) (w:World) (h:aO F d w A n c es) (h0:0≤lv) (h1:lv+d≤100000) :
  Calls Tryz.prog 71 #[.slice A n c,.int .i64 lv,.func (.func 60) #[] #[]] w fun x w'=>x=.returned (.agg #[.int .i64 (jh lv (iZ d lv) (0,0) es).1,.int .i64 (jh lv (iZ d lv) (0,0) es).2])∧Below w.heap.size w w':=by
 have hn:=h.gu
 have Hlen:=ae h.len
 obtain⟨w2,Hw2⟩:∃ w2,Hid (w2=(w.alloc (.cells #[.int .i64 0,.int .i64 0] 87)).alloc (.cells #[.int .i64 0,.int .i64 0] 87)):=⟨_,rfl⟩
 have hb2:Below w.heap.size w w2:=by rw[Hw2.out];exact((Below.refl _ _).alloc (Nat.le_refl _) _).alloc (by simp) _
 have hr2:af w2 w.heap.size 87 #[.int .i64 0,.int .i64 0]:=by rw[Hw2.out];exact(af.laid _ _ _).alloc _
 have hs2:af w2 (w.heap.size+1) 87 #[.int .i64 0,.int .i64 0]:=by
  have:=af.laid (w.alloc (.cells #[.int .i64 0,.int .i64 0] 87)) 87 #[.int .i64 0,.int .i64 0]
  rw[Hw2.out];simpa using this
 go_enter Tryz.func71,Tryz.ntmps71
 go_wp2
 rw[← Hw2.out]
 go_loopw [12] (fun i wr=>∃ (k:Nat) (s:Int×Int),k≤n∧i=.int .i64 k∧af wr (w.heap.size+1) 87 #[.int .i64 s.1,.int .i64 s.2]∧af wr w.heap.size 87 #[.int .i64 0,.int .i64 0]∧tV s ∧
  jh lv (iZ d lv) (0,0) es=jh lv (iZ d lv) s (es.drop k)∧Below w.heap.size w wr) (fun i _=>n-(intOf i).toNat)
 case atStart=>exact⟨0,(0,0),Nat.zero_le _,rfl,hs2,hr2,tV.nought,rfl,hb2⟩
 case round =>
  obtain⟨k,⟨s1,s2⟩,hk,rfl,hs,hr,hz,heq,hb⟩:=hrel
  have Heq:=ae heq
  clear heq hs2 hr2 hb2 Hw2
  have hlt:=hr.lt
  have hlts:=hs.lt
  obtain⟨z1,z2,z3,z4⟩:=hz
  simp only at z1 z2 z3 z4
  have hr0:=hr.cell 0
  have hr1:=hr.cell 1
  have hs0:=hs.cell 0
  have hs1:=hs.cell 1
  simp at hr0 hr1 hs0 hs1
  have hrf:=hr.frozen
  by_cases hlt':k<n
  ·cases d with
   | zero =>
    obtain⟨b,o,r,e,hA,hbl,_,he,hl,hp,hc⟩:=ai.get (h.below hb) hlt'
    exact hp.elim
   | succ d =>
    obtain⟨b,o,e,A2,m2,c2,rfl,hbl,hek,hc0,hc1,hc2,hc3,hc4,hc5,hp,_⟩:=aO.get (h.below hb) hlt'
    have Hd:=ae (drop_cons hek)
    clear hek
    have hf:=fun W (hk:af W (w.heap.size+1) 87 #[.int .i64 s1,.int .i64 s2])=>Qj (w.heap.size+1) s1 s2 W hk
    obtain⟨fl,Hfl⟩:∃ fl,Hid (vP (s1,s2)=fl):=⟨_,rfl⟩
    rw[Hfl.out] at hf
    have Hf:=ae hf
    clear hf
    have hsn:=hs.alloc (.cells #[.int .i64 e.op,.int .i64 e.n,.string e.s,.string e.name,.string e.src,.slice A2 m2 c2] 55)
    have hrn:=hr.alloc (.cells #[.int .i64 e.op,.int .i64 e.n,.string e.s,.string e.name,.string e.src,.slice A2 m2 c2] 55)
    have hbn:=hb.alloc hb.size (.cells #[.int .i64 e.op,.int .i64 e.n,.string e.s,.string e.name,.string e.src,.slice A2 m2 c2] 55)
    have hpn:=hp.below ((Below.refl wr.heap.size wr).alloc (Nat.le_refl _) (.cells #[.int .i64 e.op,.int .i64 e.n,.string e.s,.string e.name,.string e.src,.slice A2 m2 c2] 55))
    cases fl
    ·by_cases hlv:lv<1000
     ·go_wp2_with (first|(go_at_call 69;refine(Hf.out _ hsn).mono ?_;rintro x w' ⟨rfl,rfl⟩))
      have hz2:=DC (d+1) lv e
      obtain⟨y1,y2,y3,y4⟩:=hz2
      have Hih:=ae (ih e _ lv _ hpn h0 (by omega))
      refine Hih.out.mono ?_
      rintro x w3 ⟨rfl,hb3⟩
      have hs3:=hsn.ag (hb3.block _ hsn.lt)
      have hr3:=hrn.ag (hb3.block _ hrn.lt)
      have yZ:=hbn.trans (hb3.mono hbn.size)
      go_wp2_with fail
      refine(add_any (w.heap.size+1) s1 s2 _ _ w3 hs3 z1 z2 y1 y2).mono ?_
      rintro x w4 ⟨rfl,hs4,Ql⟩
      have hr4:=hr3.ag (Ql.block _ hr3.lt (by omega))
      have zN:=yZ.trans (Ql.below' yZ.size (fun i hi=>by omega))
      go_wp2
      go_roundw
      case rel=>exact⟨k+1,uk (s1,s2) (iZ (d+1) lv e),by omega,by go_num,hs4,hr4,tV.add ⟨z1,z2,z3,z4⟩ ⟨y1,y2,y3,y4⟩,by rw[Heq.out,Hd.out,jh,Hfl.out];simp;intro hh;omega,zN⟩
      case measure=>simp[intOf];omega
     ·go_wp2_with (first|(go_at_call 69;refine(Hf.out _ hsn).mono ?_;rintro x w' ⟨rfl,rfl⟩))
      refine bodyPost_ret (v:=.agg #[.int .i64 1000,.int .i64 1000]) (by simp[results,Tryz.results71,go_sem,hr0,hr1,hlt]) rfl ⟨?_,((hb.setCell (p:=⟨w.heap.size,0,none⟩) (Nat.le_refl _) _).setCell (p:=⟨w.heap.size,1,none⟩) (Nat.le_refl _) _).alloc (by simpa using hb.size) _⟩
      rw[Heq.out,Hd.out,jh,Hfl.out,if_pos (by simp;omega)]
    ·go_wp2_with (first|(go_at_call 69;refine(Hf.out _ hsn).mono ?_;rintro x w' ⟨rfl,rfl⟩))
     refine bodyPost_ret (v:=.agg #[.int .i64 1000,.int .i64 1000]) (by simp[results,Tryz.results71,go_sem,hr0,hr1,hlt]) rfl ⟨?_,((hb.setCell (p:=⟨w.heap.size,0,none⟩) (Nat.le_refl _) _).setCell (p:=⟨w.heap.size,1,none⟩) (Nat.le_refl _) _).alloc (by simpa using hb.size) _⟩
     rw[Heq.out,Hd.out,jh,Hfl.out,if_pos (by simp)]
  ·go_wp2
   refine bodyPost_ret (v:=.agg #[.int .i64 s1,.int .i64 s2]) (by simp[results,Tryz.results71,go_sem,hr0,hr1]) rfl ⟨?_,(hb.setCell (p:=⟨w.heap.size,0,none⟩) (Nat.le_refl _) _).setCell (p:=⟨w.heap.size,1,none⟩) (Nat.le_refl _) _⟩
   rw[Heq.out,List.drop_of_length_le (by rw[Hlen.out];omega)]
   rfl
theorem fZ {w:World} {g:Nat} (hg:g=w.heap.size) (T:TypeId) (cs:Array Value):af (w.alloc (.cells cs T)) g T cs:=by subst hg;exact af.laid _ _ _
theorem KH (F:Nat→Prop) (d:Nat):aaR F d:=by
 induction d with
 | zero=>intro e row lv w h;exact h.elim
 | succ d ih =>
  intro e row lv w h h0 h1
  obtain⟨A,m,c,rfl,hl⟩:=h.open_.2.2.2.2.2
  have hb1:Below w.heap.size w (w.alloc (.cells #[.int .i64 e.op,.int .i64 e.n,.string e.s,.string e.name,.string e.src,.slice A m c] 55)):=(Below.refl _ _).alloc (Nat.le_refl _) _
  have hb2:=hb1.alloc hb1.size (.cells #[.int .i64 0,.int .i64 0] 87)
  have lZ:=ae (Qk F d ih A m c e.args (lv+1) _ (hl.below hb2) (by omega) (by omega))
  obtain⟨y1,y2,y3,y4⟩:=tV.all (lv:=lv+1) (l:=e.args) (DC d (lv+1)) tV.nought
  have hr2:af ((w.alloc (.cells #[.int .i64 e.op,.int .i64 e.n,.string e.s,.string e.name,.string e.src,.slice A m c] 55)).alloc (.cells #[.int .i64 0,.int .i64 0] 87)) (w.heap.size+1) 87 #[.int .i64 0,.int .i64 0]:=fZ (by simp) _ _
  have gm:=ae hr2
  clear hr2
  go_enter Tryz.func60,Tryz.ntmps60
  go_wp2_with (first|(go_at_call 71;refine lZ.out.mono ?_;rintro x w3 ⟨rfl,hb3⟩;have hr3:=gm.out.ag (hb3.block _ gm.out.lt);have yZ:=hb2.trans (hb3.mono hb2.size))|(go_at_call 72;refine(Qi _ _ _ y1 y3 y2 y4).mono ?_;rintro x w4 ⟨rfl,hb4⟩;have hr4:=hr3.ag (hb4.block _ hr3.lt);have q0:=hr4.cell 0;have q1:=hr4.cell 1;simp at q0 q1;have qf:=hr4.frozen;have ql:=hr4.lt))
  have zN:=yZ.trans (hb4.mono yZ.size)
  refine bodyPost_ret (v:=.agg #[.int .i64 (iZ (d+1) lv e).1,.int .i64 (iZ (d+1) lv e).2]) (by simp[results,Tryz.results60,go_sem,q0,q1,iZ]) rfl ⟨rfl,(zN.setCell (p:=⟨w.heap.size+1,0,none⟩) (by simp) _).setCell (p:=⟨w.heap.size+1,1,none⟩) (by simp) _⟩
end Go.Proofs.YtjjfkhbajidmdaaGreatDoor

/- Parts of this proof, one behind the other: Que, SynP, SynR, SynX, SynA. -/
import Derived.Test.YtomfpjgcficlgaaGreatFn2
import Derived.Deep.AppendSrc
import Derived.Deep.Upon
import Derived.Test.YtomfpjgcficlgaaGreatProg
import Derived.WalkSpells
import Derived.WalkLawsBesides
import Derived.Deep.QuietTactic
import Derived.BigQuiet
import Derived.BigRegion
import Derived.Outline
import Derived.Lib.Hide
set_option maxRecDepth 1000000
set_option maxHeartbeats 40000000
namespace Go.Afx
open Go.RowKit
structure QAt (w:World) (base:Nat) (A:Option Addr) (n c:Nat) (us:List Value):Prop where
 len:us.length=n
 le:n≤c
 max:c≤maxLen
 at_:0<c→∃ g o,A=some ⟨g,o,none⟩∧base≤g∧g<w.heap.size∧(∀ j,j<n→w.cell? ⟨g,o+j,none⟩=us[j]?)∧∀ j,j<c→(w.cell? ⟨g,o+j,none⟩).isSome=true∧w.frozen? ⟨g,o+j,none⟩=false
def QBlk (A:Option Addr) (c:Nat):Nat→Prop:=fun k=>0<c∧∃ o,A=some ⟨k,o,none⟩
section
variable {w w':World} {base:Nat} {A:Option Addr} {n c:Nat} {us:List Value}
theorem QAt.but {S:Nat→Prop} (h:QAt w base A n c us) (hb:But S w w') (hS:∀ k,S k→¬ QBlk A c k):QAt w' base A n c us:=by
 refine⟨h.len,h.le,h.max,fun h0=>?_⟩
 obtain⟨g,o,hA,hbg,hg,hc,hs⟩:=h.at_ h0
 have hn:¬ S g:=fun hs=>hS g hs ⟨h0,o,hA⟩
 exact⟨g,o,hA,hbg,Nat.lt_of_lt_of_le hg hb.size,fun j hj=>(hb.cell (p:=⟨g,o+j,none⟩) hg hn).trans (hc j hj),fun j hj=>⟨by rw[hb.cell (p:=⟨g,o+j,none⟩) hg hn];exact(hs j hj).1,(hb.frozen (p:=⟨g,o+j,none⟩) hg hn).trans (hs j hj).2⟩⟩
theorem QAt.below (h:QAt w base A n c us) (hb:Below w.heap.size w w'):QAt w' base A n c us:=h.but (But.of_below (S:=fun _=>False) hb) fun _ hf=>hf.elim
theorem QAt.blk (h:QAt w base A n c us) {k:Nat} (hk:QBlk A c k):base≤k∧k<w.heap.size:=by
 obtain⟨h0,o,rfl⟩:=hk
 obtain⟨g,o',hA,hbg,hg,_⟩:=h.at_ h0
 injection hA with hA
 injection hA with hA
 subst hA
 exact⟨hbg,hg⟩
theorem QAt.but' {S:Nat→Prop} (h:QAt w base A n c us) (hb:But S w w') (hS:∀ k,S k→k<base):QAt w' base A n c us:=h.but hb fun k hk hq=>by have:=(h.blk hq).1;have:=hS k hk;omega
theorem QAt.of_own {e:TypeId} (h:w.ownsRow base e 1 (.slice A n c) n us):QAt w base A n c us:=by
 have hl:=h.1
 rcases h.2 with ⟨hv,rfl⟩|⟨g,cap,cur,hv,hbg,hgg,hnc,hcm,hcs,ht⟩
 ·injection hv with h1 h2 h3
  subst h1 h3
  exact⟨by simpa using hl,Nat.le_refl _,Nat.zero_le _,fun h=>absurd h (Nat.lt_irrefl _)⟩
 ·injection hv with h1 h2 h3
  subst h1 h3
  have hlt:=(Array.getElem?_eq_some_iff.1 hgg).1
  have hk:IsBlk w g e cur:=hgg
  refine⟨by simpa using hl,hnc,hcm,fun _=>⟨g,0,rfl,hbg,hlt,fun j hj=>?_,fun j hj=>⟨?_,?_⟩⟩⟩
  ·rw[hk.cell,← ht,Nat.mul_one,List.getElem?_take,if_pos (by omega),Array.getElem?_toList];simp
  ·rw[hk.cell];simp;omega
  ·rw[hk.frozen]
theorem QAt.pop (h:QAt w base A (n+1) (c+1) us) (A':Option Addr) (hA:∀ g o,A=some ⟨g,o,none⟩→0<c→A'=some ⟨g,o+1,none⟩):QAt w base A' n c us.tail:=by
 obtain⟨g,o,rfl,hbg,hg,hc,hs⟩:=h.at_ (by omega)
 have hl:=h.len
 have hm:=h.max
 refine⟨by simp[hl],by have:=h.le;omega,by omega,fun h0=>⟨g,o+1,hA g o rfl h0,hbg,hg,fun j hj=>?_,fun j hj=>?_⟩⟩
 ·have:=hc (j+1) (by omega)
  rw[show o+1+j=o+(j+1) by omega,this]
  simp
 ·rw[show o+1+j=o+(j+1) by omega]
  exact hs (j+1) (by omega)
theorem run_push {P:Program} {t tx ty e:TypeId} {bytes:Nat} {z:Value} (hT:ElemTy P t e 1 bytes z) (h:QAt w base A n c us) (hbase:base≤w.heap.size) {x:Value} {m:Nat} {news:List Value} (hs:Src P 1 tx x m news w)
  (h63:n+m≤maxLen) (hbytes:(n+m)*bytes≤140737488355328) :
  ∃ A' c' w',(Builtin.append_ #[t,tx] ty #[.slice A n c,x]).run P w=.ok (.slice A' (n+m) c') w'∧QAt w' base A' (n+m) c' (us++news)∧But (QBlk A c) w w'∧(∀ k,QBlk A' c' k→QBlk A c k∨w.heap.size≤k):=by
 obtain⟨i,hi,hz,hsz,hby⟩:=hT.at_
 have hul:=h.len
 have hnl:=hs.newsLen
 rw[Nat.mul_one] at hnl
 by_cases hroom:n+m≤c
 ·rcases Nat.eq_zero_or_pos c with h0|h0
  ·subst h0
   obtain rfl:n=0:=by omega
   obtain rfl:m=0:=by omega
   obtain rfl:news=[]:=List.eq_nil_of_length_eq_zero hnl
   refine⟨A,0,w,run_append_nothing (P:=P) w t tx ty e i hT.und hi A 0 0 (Nat.le_refl _) x (hsz▸hs),by simpa using h,But.refl _ _,fun k hk=>.inl hk⟩
  ·obtain⟨g,o,rfl,hbg,hg,hc,hsp⟩:=h.at_ h0
   have hsome:∀ j,j<news.length→(w.cell? ⟨g,o+n+j,none⟩).isSome=true:=fun j hj=>by
    rw[show o+n+j=o+(n+j) by omega];exact(hsp (n+j) (by omega)).1
   have hrun:=run_append_room_src (P:=P) w t tx ty e i hT.und hi g o n c x m news (hsz▸hs) hroom (by rw[hsz,Nat.mul_one];exact hsome) (fun j hj=>by rw[hsz,Nat.mul_one,show o+n+j=o+(n+j) by omega];exact(hsp (n+j) (by omega)).2)
   rw[hsz,Nat.mul_one] at hrun
   have hB:But (QBlk (some ⟨g,o,none⟩) c) w (w.setCells g (o+n) news):=But.setCells (.inl ⟨h0,o,rfl⟩) news (o+n) w (But.refl _ w)
   refine⟨_,_,_,hrun,⟨by rw[List.length_append];omega,hroom,h.max,fun _=>⟨g,o,rfl,hbg,Nat.lt_of_lt_of_le hg hB.size,fun j hj=>?_,fun j hj=>⟨?_,?_⟩⟩⟩,hB,fun k hk=>.inl hk⟩
   ·by_cases hj1:j<n
    ·rw[World.cell?_setCells_out g _ _ _ _ (fun _ _=>Or.inl (by show o+j<o+n;omega)),List.getElem?_append_left (by omega)]
     exact hc j hj1
    ·have hj2:j-n<news.length:=by omega
     have:=World.cell?_setCells_in g news (o+n) w hsome (j-n) hj2
     rw[show o+n+(j-n)=o+j by omega] at this
     rw[this,List.getElem?_append_right (by omega),hul,List.getElem?_eq_getElem hj2]
   ·by_cases hin:n≤j∧j<n+news.length
    ·have:=World.cell?_setCells_in g news (o+n) w hsome (j-n) (by omega)
     rw[show o+n+(j-n)=o+j by omega] at this
     rw[this];rfl
    ·rw[World.cell?_setCells_out g _ _ _ _ (fun _ _=>by show o+j<o+n∨o+n+news.length≤o+j;omega)]
     exact(hsp j hj).1
   ·rw[World.frozen?_setCells]
    exact(hsp j hj).2
 ·have hold:(Builtin.firstCells i.size n (.slice A n c)).run P w.drew=.ok us.toArray w.drew:=by
   rw[hsz]
   rcases Nat.eq_zero_or_pos c with h0|h0
   ·have hle:=h.le
    subst h0
    obtain rfl:n=0:=by omega
    obtain rfl:us=[]:=List.eq_nil_of_length_eq_zero hul
    cases A with
    | none=>exact run_firstCells_none w.drew 1 0 0 0
    | some a'=>exact run_firstCells_some w.drew 1 0 a' 0 0 [] (by simp) (by intro _ _ h';simp at h')
   ·obtain⟨g,o,rfl,hbg,hg,hc,hsp⟩:=h.at_ h0
    refine run_firstCells_some w.drew 1 n ⟨g,o,none⟩ n c us (by omega) (fun j u hu=>?_)
    rw[Addr.add_lit]
    have hj:=(List.getElem?_eq_some_iff.1 hu).1
    exact(hc j (by omega)).trans hu
  subst hby
  have hrun:=run_append_grow_src (P:=P) w t tx ty e i z hT.und hi hz A n c us hold x m news (hsz▸hs) (by omega) (by unfold maxLen at h63;omega) (growslice_fits (by omega) hbytes)
  have hge:=grownCap_ge w (n+m) c e
  have hcm:=grownCap_le_maxLen w (n+m) c e h63
  have hzl:∀ k,(Builtin.zeroCells z.cells k).size=k:=fun k=>by rw[size_zeroCells,hT.zs,Nat.mul_one]
  refine⟨_,_,_,hrun,⟨by rw[List.length_append];omega,hge,hcm,fun _=>⟨w.heap.size,0,rfl,hbase,by simp,fun j hj=>?_,fun j hj=>⟨?_,?_⟩⟩⟩,((But.refl _ w).drew).alloc _,fun k hk=>?_⟩
  ·have e1:(w.drew.alloc (.cells ((us++news).toArray++Builtin.zeroCells z.cells (grownCap w (n+m) c e-(n+m))) e)).cell? ⟨w.heap.size,j,none⟩=_:=World.cell?_alloc_new w.drew _ _ j
   rw[Nat.zero_add,e1,Array.getElem?_append_left (by simp;omega),List.getElem?_toArray]
  ·have e1:(w.drew.alloc (.cells ((us++news).toArray++Builtin.zeroCells z.cells (grownCap w (n+m) c e-(n+m))) e)).cell? ⟨w.heap.size,j,none⟩=_:=World.cell?_alloc_new w.drew _ _ j
   rw[Nat.zero_add,e1,Array.getElem?_eq_getElem (by rw[Array.size_append,hzl];simp;omega)]
   rfl
  ·rw[Nat.zero_add];exact World.frozen?_alloc_new w.drew _ _ j
  ·obtain⟨_,o',ho⟩:=hk
   injection ho with ho
   injection ho with ho
   exact .inr (by omega)
end
theorem wpList_push {P:Program} {w:World} {ops:Array Oper} {rest:List Oper} {o:Oper} {a:Act} {Q:Exit→Act→World→Prop} (hgd:o.guard=none) {s x:Operand} {t tx:TypeId}
  (ho:o.op=.call { callee:=.builtin .append,args:=#[s,x],argTypes:=#[t,tx] })
  {base:Nat} {e:TypeId} {bytes:Nat} {z:Value} (hT:ElemTy P t e 1 bytes z) {A:Option Addr} {n c:Nat} {us:List Value} (hv:a.eval s=.slice A n c) (h:QAt w base A n c us) (hbase:base≤w.heap.size)
  {xv:Value} (hx:a.eval x=xv) {m:Nat} {news:List Value} (hs:Src P 1 tx xv m news w) (h63:n+m≤maxLen) (hbytes:(n+m)*bytes≤140737488355328)
  (hK:∀ A' c' w',QAt w' base A' (n+m) c' (us++news)→But (QBlk A c) w w'→(∀ k,QBlk A' c' k→QBlk A c k∨w.heap.size≤k)→wpList P ops Q rest (a.put o.dst (.slice A' (n+m) c')) w'):wpList P ops Q (o::rest) a w:=by
 refine wpList_plain hgd fun K hK'=>?_
 obtain⟨A',c',w',hrun,h1,h2,h3⟩:=run_push (P:=P) (ty:=o.type) hT h hbase hs h63 hbytes
 unfold Oper.wp
 simp[execOp,ho,resolve,invoke,builtin,hv,hx,hrun,Result.andThen]
 exact hK' _ _ (hK A' c' w' h1 h2 h3)
end Go.Afx
namespace Go.Afx
open Go.RowKit
theorem bs_inj {a b:ByteArray} (h:a.toList=b.toList):a=b:=WideShapes.bytes_inj (by rw[← ByteArray.toList_eq,← ByteArray.toList_eq,h])
theorem bs_eq {a b:ByteArray}:(a.toList==b.toList)=decide (a=b):=by
 rw[Bool.eq_iff_iff,beq_iff_eq,decide_eq_true_iff]
 exact⟨bs_inj,fun h=>by rw[h]⟩
/- sizes -/
def fullZ (s:Int×Int):Bool:=decide (1000≤s.1)||decide (1000≤s.2)
def addZ (s t:Int×Int):Int×Int:=(min (s.1+t.1) 1000,max s.2 t.2)
def overZ (s:Int×Int):Int×Int:=(min (s.1+1) 1000,min (s.2+1) 1000)
def toldZ (s:Int×Int):Int×Int:=if fullZ s then (1000,1000) else s
def allZ {α:Type} (lv:Int) (one:α→Int×Int):Int×Int→List α→Int×Int
 | s,[]=>s
 | s,x::r=>if fullZ s||decide (1000≤lv) then (1000,1000) else allZ lv one (addZ s (one x)) r
def sizeE:Nat→Int→Ex→Int×Int
 | 0,_,_=>(0,0)
 | d+1,lv,e=>overZ (allZ (lv+1) (sizeE d (lv+1)) (0,0) e.args)
def sizeS:Nat→Int→St→Int×Int
 | 0,_,_=>(0,0)
 | d+1,lv,x=>overZ (addZ (addZ (allZ (lv+1) (sizeE d (lv+1)) (0,0) x.exprs) (allZ (lv+1) (sizeS d (lv+1)) (0,0) x.body)) (allZ (lv+1) (sizeS d (lv+1)) (0,0) x.els))
def Zok (s:Int×Int):Prop:=0≤s.1∧s.1≤1000∧0≤s.2∧s.2≤1000
theorem Zok.nought:Zok (0,0):=⟨by omega,by omega,by omega,by omega⟩
theorem Zok.much:Zok (1000,1000):=⟨by omega,by omega,by omega,by omega⟩
theorem Zok.add {s t:Int×Int} (h:Zok s) (k:Zok t):Zok (addZ s t):=by
 obtain⟨a,b⟩:=s;obtain⟨c,d⟩:=t
 simp only[Zok,addZ] at h k ⊢;omega
theorem Zok.over {s:Int×Int} (h:Zok s):Zok (overZ s):=by
 obtain⟨a,b⟩:=s
 simp only[Zok,overZ] at h ⊢;omega
theorem Zok.all {α:Type} {lv:Int} {one:α→Int×Int} (h:∀ x,Zok (one x)):∀ {l:List α} {s:Int×Int},Zok s→Zok (allZ lv one s l):=by
 intro l
 induction l with
 | nil=>intro s hs;exact hs
 | cons x r ih =>
  intro s hs
  unfold allZ
  split
  ·exact Zok.much
  ·exact ih (hs.add (h x))
theorem sizeE_ok (d:Nat):∀ lv e,Zok (sizeE d lv e):=by
 induction d with
 | zero=>intro lv e;exact Zok.nought
 | succ d ih=>intro lv e;exact(Zok.all (ih _) Zok.nought).over
theorem sizeS_ok (d:Nat):∀ lv e,Zok (sizeS d lv e):=by
 induction d with
 | zero=>intro lv e;exact Zok.nought
 | succ d ih=>intro lv e;exact(((Zok.all (sizeE_ok d _) Zok.nought).add (Zok.all (ih _) Zok.nought)).add (Zok.all (ih _) Zok.nought)).over
/- names -/
def letterB (c:UInt8):Bool:=decide (97≤c.toNat)&&decide (c.toNat≤122)
def partB (c:UInt8):Bool:=letterB c||(decide (48≤c.toNat)&&decide (c.toNat≤57))||decide (c.toNat=95)
def namedB (s:ByteArray):Bool:=match s.data.toList with
 | []=>false
 | c::r=>decide (r.length+1≤16)&&letterB c&&r.all partB
def str (l:List UInt8):ByteArray:=⟨l.toArray⟩
def wordsL:List ByteArray:=[str [97,110,100],str [111,114],str [110,111,116],str [116,114,117,101],str [102,97,108,115,101],str [108,101,116],str [115,101,116],str [105,110,115,101,114,116],str [117,112,100,97,116,101],str [100,101,108,101,116,101],str [102,111,114],str [105,110],
 str [119,104,101,114,101],str [108,105,109,105,116],str [105,102],str [101,108,115,101],str [101,109,105,116],str [97,98,111,114,116],str [114,101,112,108,121],str [99,111,117,110,116],str [115,117,109],str [109,105,110],str [109,97,120],str [105,110,116],str [116,101,120,116],str [98,111,111,108],str [116,97,98,108,101],
 str [115,116,114,101,97,109],str [119,105,110,100,111,119],str [115,105,110,107],str [112,114,111,99],str [107,101,121],str [117,110,105,113,117,101],str [105,110,100,101,120],str [112,97,114,116,115],str [98,121],str [111,110],str [102,114,111,109],str [97,116],str [102,117,101,108],str [116,117,112,108,101,115],
 str [98,97,116,99,104,101,115],str [115,108,105,100,101]]
def resB (s:ByteArray):Bool:=wordsL.any fun x=>x.toList==s.toList
def freeB (s:ByteArray):Bool:=namedB s&&!resB s
def freesB (l:List ByteArray):Bool:=l.all namedB&&!l.any resB
theorem freesB_all (l:List ByteArray):freesB l=l.all freeB:=by
 unfold freesB freeB
 induction l with
 | nil=>rfl
 | cons a r ih =>
  simp only[List.all_cons,List.any_cons,← ih]
  cases namedB a<;>cases resB a<;>cases (List.all r namedB)<;>cases (List.any r resB)<;>rfl
/- expressions -/
def arityB (op:Int):Int:=if 1≤op∧op≤5 then 0 else if 6≤op∧op≤18 then 2 else if op=19∨op=20 then 1 else if op=21 then 1 else if 22≤op∧op≤24 then 2 else -1
def rowsB (op:Int):Bool:=decide (21≤op)&&decide (op≤24)
def noS (s:ByteArray):Bool:=decide (s=ByteArray.empty)
def fieldsR (op n:Int) (s name src:ByteArray):Bool :=
 if op=1 then decide (0≤n)&&noS s&&noS name&&noS src
 else if op=2 then decide (s.size≤200)&&decide (n=0)&&noS name&&noS src
 else if op=3 then (decide (n=0)||decide (n=1))&&noS s&&noS name&&noS src
 else if op=4 then freeB name&&decide (n=0)&&noS s&&noS src
 else if op=5 then freeB name&&freeB s&&decide (n=0)&&noS src
 else if rowsB op then freeB name&&freeB src&&decide (n=0)&&noS s
 else decide (n=0)&&noS s&&noS name&&noS src
def fieldsE (e:Ex):Bool:=fieldsR e.op e.n e.s e.name e.src
def headE (e:Ex):Bool:=decide (arityB e.op=e.args.length)&&fieldsE e
def builtE:Nat→Ex→Bool
 | 0,_=>false
 | d+1,e=>headE e&&e.args.all (builtE d)
/- statements -/
def shapeP (hn hc hnum hb ho hs:Bool) (least most:Int) (name src:ByteArray) (n:Int) (cols:List ByteArray) (ne nb nl:Nat):Bool :=
 (if hn then freeB name else noS name)&&(if hs then freeB src else noS src) &&
 (if hc then decide (1≤cols.length)&&decide (cols.length≤8)&&freesB cols&&decide cols.Nodup else decide (cols.length=0)) &&
 (if hnum then decide (0≤n)&&decide (n≤1000) else decide (n=0))&&(decide (least≤(ne:Int))&&decide ((ne:Int)≤most)) &&
 (hb||decide (nb=0))&&(ho||decide (nl=0))
def shapeR (op:Int) (name src:ByteArray) (n:Int) (cols:List ByteArray) (ne nb nl:Nat):Bool :=
 if op=1∨op=2 then shapeP true false false false false false 1 1 name src n cols ne nb nl
 else if op=3∨op=8 then shapeP false false false false false true 1 8 name src n cols ne nb nl
 else if op=4 then shapeP true true false false false true (cols.length+1) (cols.length+1) name src n cols ne nb nl
 else if op=5 then shapeP true false false false false true 1 1 name src n cols ne nb nl
 else if op=6 then shapeP true false true true false true 1 1 name src n cols ne nb nl
 else if op=7 then shapeP false false false true true false 1 1 name src n cols ne nb nl
 else if op=9 then shapeP false false false false false false 1 1 name src n cols ne nb nl
 else if op=10 then shapeP false false false false false false 1 8 name src n cols ne nb nl
 else false
def shapeB (x:St):Bool:=shapeR x.op x.name x.src x.n x.cols x.exprs.length x.body.length x.els.length
def builtS:Nat→St→Bool
 | 0,_=>false
 | d+1,x=>shapeB x&&x.exprs.all (builtE d)&&x.body.all (builtS d)&&x.els.all (builtS d)
/- procedures -/
structure Co where
 name:ByteArray
 kind:Int
structure Pr where
 name:ByteArray
 src:ByteArray
 part:ByteArray
 fuel:Int
 params:List Co
 body:List St
def smallZ (s:Int×Int):Bool:=decide (s.1≤300)&&decide (s.2≤12)
def kindB (c:Co):Bool:=decide (1≤c.kind)&&decide (c.kind≤3)
def headsR (name src part:ByteArray) (fuel:Int) (params:List Co):Bool :=
 params.all kindB&&freeB name&&decide (params.length≤8)&&freesB (params.map Co.name)&&decide (params.map Co.name).Nodup&&(decide (1≤fuel)&&decide (fuel≤2000)) &&
 (if noS src then noS part||(params.map Co.name).any fun x=>decide (x=part) else freeB src&&decide (params.length=0)&&noS part)
def headsB (p:Pr):Bool:=headsR p.name p.src p.part p.fuel p.params
def sizeP (d:Nat) (p:Pr):Int×Int:=allZ 0 (sizeS d 0) (0,0) p.body
def rightB (d:Nat) (p:Pr):Bool:=headsB p&&smallZ (sizeP d p)&&p.body.all (builtS d)
/- what is used -/
def srcsE:Nat→Ex→List ByteArray
 | 0,_=>[]
 | d+1,e=>(if rowsB e.op then [e.src] else [])++e.args.flatMap (srcsE d)
def readsS:Nat→St→List ByteArray
 | 0,_=>[]
 | d+1,x=>(if x.op=4∨x.op=5∨x.op=6 then [x.src] else [])++x.exprs.flatMap (srcsE d)++x.body.flatMap (readsS d)++x.els.flatMap (readsS d)
def writesS:Nat→St→List ByteArray
 | 0,_=>[]
 | d+1,x=>(if x.op=3∨x.op=4∨x.op=5 then [x.src] else [])++x.body.flatMap (writesS d)++x.els.flatMap (writesS d)
def emitsS:Nat→St→List ByteArray
 | 0,_=>[]
 | d+1,x=>(if x.op=8 then [x.src] else [])++x.body.flatMap (emitsS d)++x.els.flatMap (emitsS d)
end Go.Afx
namespace Go.Afx
open Go.RowKit
def cntE:Nat→Ex→Nat
 | 0,_=>0
 | d+1,e=>1+(e.args.map (cntE d)).sum
def cntS:Nat→St→Nat
 | 0,_=>0
 | d+1,x=>1+(x.exprs.map (cntE d)).sum+(x.body.map (cntS d)).sum+(x.els.map (cntS d)).sum
theorem sum_map_le {α:Type} {f g:α→Nat} (h:∀ x,f x≤g x):∀ l:List α,(l.map f).sum≤(l.map g).sum:=by
 intro l
 induction l with
 | nil=>simp
 | cons a r ih=>have:=h a;simp only[List.map_cons,List.sum_cons];omega
theorem flat_cnt {α β:Type} {f:α→List β} {g:α→Nat} (h:∀ x,(f x).length≤g x) (l:List α):(l.flatMap f).length≤(l.map g).sum:=by
 rw[List.length_flatMap]
 exact sum_map_le h l
theorem sum_take {α:Type} {f:α→Nat} {l:List α} {k:Nat} {x:α} (h:l[k]?=some x):((l.take k).map f).sum+f x≤(l.map f).sum:=by
 obtain⟨hk,rfl⟩:=List.getElem?_eq_some_iff.1 h
 have e:l=l.take k++l[k]::l.drop (k+1):=by rw[← List.drop_eq_getElem_cons hk,List.take_append_drop]
 conv=>rhs;rw[e]
 simp only[List.map_append,List.sum_append,List.map_cons,List.sum_cons]
 omega
theorem srcsE_le (d:Nat):∀ e,(srcsE d e).length≤cntE d e:=by
 induction d with
 | zero=>intro e;simp[srcsE]
 | succ d ih =>
  intro e
  have:=flat_cnt ih e.args
  rw[srcsE,cntE,List.length_append]
  split<;>simp only[List.length_cons,List.length_nil]<;>omega
theorem readsS_le (d:Nat):∀ x,(readsS d x).length≤cntS d x:=by
 induction d with
 | zero=>intro x;simp[readsS]
 | succ d ih =>
  intro x
  have h1:=flat_cnt (srcsE_le d) x.exprs
  have h2:=flat_cnt ih x.body
  have h3:=flat_cnt ih x.els
  rw[readsS,cntS,List.length_append,List.length_append,List.length_append]
  split<;>simp only[List.length_cons,List.length_nil]<;>omega
theorem writesS_le (d:Nat):∀ x,(writesS d x).length≤cntS d x:=by
 induction d with
 | zero=>intro x;simp[writesS]
 | succ d ih =>
  intro x
  have h2:=flat_cnt ih x.body
  have h3:=flat_cnt ih x.els
  rw[writesS,cntS,List.length_append,List.length_append]
  split<;>simp only[List.length_cons,List.length_nil]<;>omega
theorem emitsS_le (d:Nat):∀ x,(emitsS d x).length≤cntS d x:=by
 induction d with
 | zero=>intro x;simp[emitsS]
 | succ d ih =>
  intro x
  have h2:=flat_cnt ih x.body
  have h3:=flat_cnt ih x.els
  rw[emitsS,cntS,List.length_append,List.length_append]
  split<;>simp only[List.length_cons,List.length_nil]<;>omega
theorem len_cnt (d:Nat) (l:List St):l.length≤(l.map (cntS (d+1))).sum:=by
 induction l with
 | nil=>simp
 | cons a r ih =>
  have:1≤cntS (d+1) a:=by rw[cntS];omega
  simp only[List.map_cons,List.sum_cons,List.length_cons]
  omega
theorem sts_cnt {F:Nat→Prop} {d:Nat} {w:World} {A:Option Addr} {n c:Nat} {l:List St} (h:StsAt F d w A n c l):n≤(l.map (cntS d)).sum:=by
 cases d with
 | zero =>
  rcases Nat.eq_zero_or_pos n with h0|h0
  ·omega
  ·obtain⟨b,o,r,x,_,_,_,_,_,hp,_⟩:=LsAt.get h h0
   exact hp.elim
 | succ d=>rw[← LsAt.len h];exact len_cnt d l
end Go.Afx
namespace Go.Afx
open Go.RowKit
def maxN (l:List Nat):Nat:=l.foldr max 0
theorem maxN_cons (a:Nat) (l:List Nat):maxN (a::l)=max a (maxN l):=rfl
theorem maxN_le {b:Nat}:∀ {l:List Nat},(∀ x∈l,x≤b)→maxN l≤b:=by
 intro l
 induction l with
 | nil=>intro _;simp[maxN]
 | cons a r ih=>intro h;rw[maxN_cons];have:=h a (by simp);have:=ih fun x hx=>h x (by simp[hx]);omega
def dptE:Nat→Ex→Nat
 | 0,_=>0
 | d+1,e=>1+maxN (e.args.map (dptE d))
def dptS:Nat→St→Nat
 | 0,_=>0
 | d+1,x=>1+max (max (maxN (x.exprs.map (dptE d))) (maxN (x.body.map (dptS d)))) (maxN (x.els.map (dptS d)))
theorem dptE_le (d:Nat):∀ e,dptE d e≤d:=by
 induction d with
 | zero=>intro e;simp[dptE]
 | succ d ih =>
  intro e
  have:maxN (e.args.map (dptE d))≤d:=maxN_le fun x hx=>by obtain⟨y,_,rfl⟩:=List.mem_map.1 hx;exact ih y
  rw[dptE];omega
theorem dptS_le (d:Nat):∀ e,dptS d e≤d:=by
 induction d with
 | zero=>intro e;simp[dptS]
 | succ d ih =>
  intro e
  have h1:maxN (e.exprs.map (dptE d))≤d:=maxN_le fun x hx=>by obtain⟨y,_,rfl⟩:=List.mem_map.1 hx;exact dptE_le d y
  have h2:maxN (e.body.map (dptS d))≤d:=maxN_le fun x hx=>by obtain⟨y,_,rfl⟩:=List.mem_map.1 hx;exact ih y
  have h3:maxN (e.els.map (dptS d))≤d:=maxN_le fun x hx=>by obtain⟨y,_,rfl⟩:=List.mem_map.1 hx;exact ih y
  rw[dptS];omega
def Cts (s:Int×Int) (N H:Nat):Prop:=s.1=min (N:Int) 1000∧(N<1000→s.2=H)∧H≤900
theorem Cts.nought:Cts (0,0) 0 0:=⟨by decide,fun _=>rfl,by omega⟩
theorem Cts.add {s t:Int×Int} {N H M K:Nat} (h:Cts s N H) (k:Cts t M K):Cts (addZ s t) (N+M) (max H K):=by
 obtain⟨h1,h2,h3⟩:=h
 obtain⟨k1,k2,k3⟩:=k
 refine⟨?_,fun hl=>?_,by omega⟩
 ·simp only[addZ];omega
 ·have a:=h2 (by omega)
  have b:=k2 (by omega)
  simp only[addZ];omega
theorem Cts.over {s:Int×Int} {N H:Nat} (h:Cts s N H) (hH:H+1≤900):Cts (overZ s) (1+N) (1+H):=by
 obtain⟨h1,h2,h3⟩:=h
 refine⟨?_,fun hl=>?_,by omega⟩
 ·simp only[overZ];omega
 ·have a:=h2 (by omega)
  simp only[overZ];omega
theorem Cts.all {α:Type} {lv:Int} {one:α→Int×Int} {f g:α→Nat} (hlv:lv<1000) (h:∀ x,Cts (one x) (f x) (g x)):∀ (l:List α) {s:Int×Int} {N H:Nat},Cts s N H→Cts (allZ lv one s l) (N+(l.map f).sum) (max H (maxN (l.map g))):=by
 intro l
 induction l with
 | nil=>intro s N H hs;simpa [allZ,maxN] using hs
 | cons x r ih =>
  intro s N H hs
  rw[List.map_cons,List.map_cons,List.sum_cons,maxN_cons]
  unfold allZ
  split
  ·rename_i hf
   obtain⟨h1,h2,h3⟩:=hs
   have hN:¬ N<1000:=by
    intro hN
    have a:=h2 hN
    simp only[fullZ,Bool.or_eq_true,decide_eq_true_eq] at hf
    omega
   have hg:∀ l:List α,maxN (l.map g)≤900:=fun l=>maxN_le fun y hy=>by obtain⟨z,_,rfl⟩:=List.mem_map.1 hy;exact(h z).2.2
   have:=hg r
   have:=(h x).2.2
   exact⟨by simp;omega,fun hl=>absurd hl (by omega),by omega⟩
  ·have:=ih (hs.add (h x))
   rw[Nat.add_assoc,Nat.max_assoc] at this
   exact this
theorem sizeE_cts (d:Nat):∀ (lv:Int) (e:Ex),lv+d≤900→d≤900→Cts (sizeE d lv e) (cntE d e) (dptE d e):=by
 induction d with
 | zero=>intro lv e _ _;exact Cts.nought
 | succ d ih =>
  intro lv e h hd
  rw[sizeE,cntE,dptE]
  have:=Cts.all (lv:=lv+1) (by omega) (fun x=>ih (lv+1) x (by omega) (by omega)) e.args Cts.nought
  rw[Nat.zero_add,Nat.zero_max] at this
  refine this.over ?_
  have:=dptE_le (d+1) e
  rw[dptE] at this
  omega
theorem sizeS_cts (d:Nat):∀ (lv:Int) (e:St),lv+d≤900→d≤900→Cts (sizeS d lv e) (cntS d e) (dptS d e):=by
 induction d with
 | zero=>intro lv e _ _;exact Cts.nought
 | succ d ih =>
  intro lv e h hd
  rw[sizeS,cntS,dptS]
  have h1:=Cts.all (lv:=lv+1) (by omega) (fun x=>sizeE_cts d (lv+1) x (by omega) (by omega)) e.exprs Cts.nought
  have h2:=Cts.all (lv:=lv+1) (by omega) (fun x=>ih (lv+1) x (by omega) (by omega)) e.body Cts.nought
  have h3:=Cts.all (lv:=lv+1) (by omega) (fun x=>ih (lv+1) x (by omega) (by omega)) e.els Cts.nought
  rw[Nat.zero_add,Nat.zero_max] at h1 h2 h3
  rw[Nat.add_assoc 1,Nat.add_assoc 1]
  refine((h1.add h2).add h3).over ?_
  have:=dptS_le (d+1) e
  rw[dptS] at this
  omega
def cntP (d:Nat) (p:Pr):Nat:=(p.body.map (cntS d)).sum
def dptP (d:Nat) (p:Pr):Nat:=maxN (p.body.map (dptS d))
theorem sizeP_cts (d:Nat) (p:Pr) (hd:d≤900):Cts (sizeP d p) (cntP d p) (dptP d p):=by
 have:=Cts.all (lv:=0) (by omega) (fun x=>sizeS_cts d 0 x (by omega) hd) p.body Cts.nought
 rw[Nat.zero_add,Nat.zero_max] at this
 exact this
theorem small_cnt {d:Nat} {p:Pr} (hd:d≤900) (h:smallZ (sizeP d p)=true):cntP d p≤300∧dptP d p≤12:=by
 obtain⟨h1,h2,_⟩:=sizeP_cts d p hd
 simp only[smallZ,Bool.and_eq_true,decide_eq_true_eq] at h
 have:cntP d p≤300:=by omega
 have:=h2 (by omega)
 omega
def readsP (d:Nat) (p:Pr):List ByteArray:=if rightB d p then p.body.flatMap (readsS d) else []
def writesP (d:Nat) (p:Pr):List ByteArray:=if rightB d p then p.body.flatMap (writesS d) else []
def emitsP (d:Nat) (p:Pr):List ByteArray:=if rightB d p then p.body.flatMap (emitsS d) else []
end Go.Afx
namespace Go.Proofs.YtomfpjgcficlgaaGreat
open Go.RowKit Go.Afx
theorem over_any (a b:Int) (w:World) (ha:0≤a) (hb:0≤b) (ha':a≤1000) (hb':b≤1000) :
  Calls Tryz.prog 111 #[.agg #[.int .i64 a,.int .i64 b]] w fun e w'=>e=.returned (.agg #[.int .i64 (overZ (a,b)).1,.int .i64 (overZ (a,b)).2])∧Below w.heap.size w w':=by
 go_enter Tryz.func111,Tryz.ntmps111
 go_wp2
 all_goals
  refine bodyPost_ret (v:=.agg #[.int .i64 (overZ (a,b)).1,.int .i64 (overZ (a,b)).2]) ?_ rfl ⟨rfl,?_⟩
  ·simp[results,Tryz.results111,go_sem,overZ]
   omega
  ·exact((Below.refl _ _).alloc (Nat.le_refl _) _).alloc (by simp) _
theorem full_any (g:Nat) (a b:Int) (w:World) (hk:IsBlk w g 140 #[.int .i64 a,.int .i64 b]) :
  Calls Tryz.prog 107 #[.pointer (some ⟨g,0,none⟩)] w fun e w'=>e=.returned (.bool (fullZ (a,b)))∧w=w':=by
 have h0:=hk.cell 0
 have h1:=hk.cell 1
 simp at h0 h1
 have hlt:=hk.lt
 go_enter Tryz.func107,Tryz.ntmps107
 go_wp2
 all_goals
  go_ret
  refine⟨ret_bool ?_,rfl⟩
  simp_all [fullZ]
theorem blk_two {w:World} {g:Nat} {T:TypeId} {a b x y X Y:Int} {o:Obj} (hk:IsBlk w g T #[.int .i64 a,.int .i64 b]) (hx:X=x) (hy:Y=y) :
  IsBlk (((w.setCell ⟨g,0,none⟩ (.int .i64 X)).setCell ⟨g,1,none⟩ (.int .i64 Y)).alloc o).drew g T #[.int .i64 x,.int .i64 y]:=by
 subst hx hy
 exact((hk.stored 0 _).stored 1 _).alloc o
theorem ret_ib {a b:Int} {x y:Bool} (h:a=b) (k:x=y):Ending.returned (.tuple #[.int .i64 a,.bool x])=.returned (.tuple #[.int .i64 b,.bool y]):=by rw[h,k]
theorem add_any (g:Nat) (a b c d:Int) (w:World) (hk:IsBlk w g 140 #[.int .i64 a,.int .i64 b]) (ha:0≤a) (ha':a≤1000) (hc:0≤c) (hc':c≤1000) :
  Calls Tryz.prog 108 #[.pointer (some ⟨g,0,none⟩),.agg #[.int .i64 c,.int .i64 d]] w fun e w'=>e=.returned (.tuple #[]) ∧
   IsBlk w' g 140 #[.int .i64 (addZ (a,b) (c,d)).1,.int .i64 (addZ (a,b) (c,d)).2]∧But (fun k=>k=g) w w':=by
 have h0:=hk.cell 0
 have h1:=hk.cell 1
 simp at h0 h1
 have hlt:=hk.lt
 have hfz:=hk.frozen
 go_enter Tryz.func108,Tryz.ntmps108
 go_wp2
 go_region
 all_goals go_wp2
 all_goals
  go_end0
  exact⟨rfl,blk_two hk (by simp only[addZ];omega) (by simp only[addZ];omega),((((But.refl (fun k=>k=g) w).setCell (p:=⟨g,0,none⟩) (.inl rfl) _).setCell (p:=⟨g,1,none⟩) (.inl rfl) _).alloc _).drew⟩
theorem small_any (g:Nat) (a b:Int) (w:World) (hk:IsBlk w g 140 #[.int .i64 a,.int .i64 b]) :
  Calls Tryz.prog 99 #[.pointer (some ⟨g,0,none⟩)] w fun e w'=>e=.returned (.bool (smallZ (a,b)))∧w=w':=by
 have h0:=hk.cell 0
 have h1:=hk.cell 1
 simp at h0 h1
 have hlt:=hk.lt
 go_enter Tryz.func99,Tryz.ntmps99
 go_wp2
 all_goals
  go_ret
  refine⟨ret_bool ?_,rfl⟩
  simp_all [smallZ]
  try omega
theorem args_any (op:Int) (w:World) :
  Calls Tryz.prog 118 #[.int .i64 op] w fun e w'=>e=.returned (.tuple #[.int .i64 (arityB op),.bool (rowsB op)])∧w=w':=by
 go_enter Tryz.func118,Tryz.ntmps118
 go_wp2
 all_goals
  go_ret2
  (try simp only[beq_iff_eq,beq_eq_false_iff_ne,ne_eq] at *)
  first|(exfalso;omega)|exact⟨ret_ib (by unfold arityB;repeat (first|rw[if_pos (by omega)]|rw[if_neg (by omega)])) (by simp[rowsB];try omega),by first|rfl|trivial⟩
end Go.Proofs.YtomfpjgcficlgaaGreat

/- Parts of this proof, one behind the other: SynP, SynR, SynX, SynA, SynB, SynC. -/
import Derived.Test.YtdgapmnojmhllaaGreatDoorPf2
import Derived.Test.YtdgapmnojmhllaaGreatDoorProg
import Derived.WalkSpells
import Derived.WalkLawsBesides
import Derived.Deep.QuietTactic
import Derived.BigQuiet
import Derived.BigRegion
import Derived.Outline
import Derived.Lib.Hide
set_option maxRecDepth 1000000
set_option maxHeartbeats 40000000
namespace Go.Afx
open Go.RowKit
theorem bs_inj {a b:ByteArray} (h:a.toList=b.toList):a=b:=WideShapes.bytes_inj (by rw[← ByteArray.toList_eq,← ByteArray.toList_eq,h])
/- sizes -/
def fullZ (s:Int×Int):Bool:=decide (1000≤s.1)||decide (1000≤s.2)
def addZ (s t:Int×Int):Int×Int:=(min (s.1+t.1) 1000,max s.2 t.2)
def overZ (s:Int×Int):Int×Int:=(min (s.1+1) 1000,min (s.2+1) 1000)
def toldZ (s:Int×Int):Int×Int:=if fullZ s then (1000,1000) else s
def allZ {α:Type} (lv:Int) (one:α→Int×Int):Int×Int→List α→Int×Int
 | s,[]=>s
 | s,x::r=>if fullZ s||decide (1000≤lv) then (1000,1000) else allZ lv one (addZ s (one x)) r
def sizeE:Nat→Int→Ex→Int×Int
 | 0,_,_=>(0,0)
 | d+1,lv,e=>overZ (allZ (lv+1) (sizeE d (lv+1)) (0,0) e.args)
def sizeS:Nat→Int→St→Int×Int
 | 0,_,_=>(0,0)
 | d+1,lv,x=>overZ (addZ (addZ (allZ (lv+1) (sizeE d (lv+1)) (0,0) x.exprs) (allZ (lv+1) (sizeS d (lv+1)) (0,0) x.body)) (allZ (lv+1) (sizeS d (lv+1)) (0,0) x.els))
def Zok (s:Int×Int):Prop:=0≤s.1∧s.1≤1000∧0≤s.2∧s.2≤1000
theorem Zok.nought:Zok (0,0):=⟨by omega,by omega,by omega,by omega⟩
theorem Zok.much:Zok (1000,1000):=⟨by omega,by omega,by omega,by omega⟩
theorem Zok.add {s t:Int×Int} (h:Zok s) (k:Zok t):Zok (addZ s t):=by
 obtain⟨a,b⟩:=s;obtain⟨c,d⟩:=t
 simp only[Zok,addZ] at h k ⊢;omega
theorem Zok.over {s:Int×Int} (h:Zok s):Zok (overZ s):=by
 obtain⟨a,b⟩:=s
 simp only[Zok,overZ] at h ⊢;omega
theorem Zok.all {α:Type} {lv:Int} {one:α→Int×Int} (h:∀ x,Zok (one x)):∀ {l:List α} {s:Int×Int},Zok s→Zok (allZ lv one s l):=by
 intro l
 induction l with
 | nil=>intro s hs;exact hs
 | cons x r ih =>
  intro s hs
  unfold allZ
  split
  ·exact Zok.much
  ·exact ih (hs.add (h x))
theorem sizeE_ok (d:Nat):∀ lv e,Zok (sizeE d lv e):=by
 induction d with
 | zero=>intro lv e;exact Zok.nought
 | succ d ih=>intro lv e;exact(Zok.all (ih _) Zok.nought).over
/- names -/
def letterB (c:UInt8):Bool:=decide (97≤c.toNat)&&decide (c.toNat≤122)
def partB (c:UInt8):Bool:=letterB c||(decide (48≤c.toNat)&&decide (c.toNat≤57))||decide (c.toNat=95)
def namedB (s:ByteArray):Bool:=match s.data.toList with
 | []=>false
 | c::r=>decide (r.length+1≤16)&&letterB c&&r.all partB
def str (l:List UInt8):ByteArray:=⟨l.toArray⟩
def wordsL:List ByteArray:=[str [97,110,100],str [111,114],str [110,111,116],str [116,114,117,101],str [102,97,108,115,101],str [108,101,116],str [115,101,116],str [105,110,115,101,114,116],str [117,112,100,97,116,101],str [100,101,108,101,116,101],str [102,111,114],str [105,110],
 str [119,104,101,114,101],str [108,105,109,105,116],str [105,102],str [101,108,115,101],str [101,109,105,116],str [97,98,111,114,116],str [114,101,112,108,121],str [99,111,117,110,116],str [115,117,109],str [109,105,110],str [109,97,120],str [105,110,116],str [116,101,120,116],str [98,111,111,108],str [116,97,98,108,101],
 str [115,116,114,101,97,109],str [119,105,110,100,111,119],str [115,105,110,107],str [112,114,111,99],str [107,101,121],str [117,110,105,113,117,101],str [105,110,100,101,120],str [112,97,114,116,115],str [98,121],str [111,110],str [102,114,111,109],str [97,116],str [102,117,101,108],str [116,117,112,108,101,115],
 str [98,97,116,99,104,101,115],str [115,108,105,100,101]]
def resB (s:ByteArray):Bool:=wordsL.any fun x=>x.toList==s.toList
def freeB (s:ByteArray):Bool:=namedB s&&!resB s
def freesB (l:List ByteArray):Bool:=l.all namedB&&!l.any resB
theorem freesB_all (l:List ByteArray):freesB l=l.all freeB:=by
 unfold freesB freeB
 induction l with
 | nil=>rfl
 | cons a r ih =>
  simp only[List.all_cons,List.any_cons,← ih]
  cases namedB a<;>cases resB a<;>cases (List.all r namedB)<;>cases (List.any r resB)<;>rfl
/- expressions -/
def arityB (op:Int):Int:=if 1≤op∧op≤5 then 0 else if 6≤op∧op≤18 then 2 else if op=19∨op=20 then 1 else if op=21 then 1 else if 22≤op∧op≤24 then 2 else -1
def rowsB (op:Int):Bool:=decide (21≤op)&&decide (op≤24)
def noS (s:ByteArray):Bool:=decide (s=ByteArray.empty)
def fieldsR (op n:Int) (s name src:ByteArray):Bool :=
 if op=1 then decide (0≤n)&&noS s&&noS name&&noS src
 else if op=2 then decide (s.size≤200)&&decide (n=0)&&noS name&&noS src
 else if op=3 then (decide (n=0)||decide (n=1))&&noS s&&noS name&&noS src
 else if op=4 then freeB name&&decide (n=0)&&noS s&&noS src
 else if op=5 then freeB name&&freeB s&&decide (n=0)&&noS src
 else if rowsB op then freeB name&&freeB src&&decide (n=0)&&noS s
 else decide (n=0)&&noS s&&noS name&&noS src
def fieldsE (e:Ex):Bool:=fieldsR e.op e.n e.s e.name e.src
def headE (e:Ex):Bool:=decide (arityB e.op=e.args.length)&&fieldsE e
def builtE:Nat→Ex→Bool
 | 0,_=>false
 | d+1,e=>headE e&&e.args.all (builtE d)
/- statements -/
def shapeP (hn hc hnum hb ho hs:Bool) (least most:Int) (name src:ByteArray) (n:Int) (cols:List ByteArray) (ne nb nl:Nat):Bool :=
 (if hn then freeB name else noS name)&&(if hs then freeB src else noS src) &&
 (if hc then decide (1≤cols.length)&&decide (cols.length≤8)&&freesB cols&&decide cols.Nodup else decide (cols.length=0)) &&
 (if hnum then decide (0≤n)&&decide (n≤1000) else decide (n=0))&&(decide (least≤(ne:Int))&&decide ((ne:Int)≤most)) &&
 (hb||decide (nb=0))&&(ho||decide (nl=0))
def shapeR (op:Int) (name src:ByteArray) (n:Int) (cols:List ByteArray) (ne nb nl:Nat):Bool :=
 if op=1∨op=2 then shapeP true false false false false false 1 1 name src n cols ne nb nl
 else if op=3∨op=8 then shapeP false false false false false true 1 8 name src n cols ne nb nl
 else if op=4 then shapeP true true false false false true (cols.length+1) (cols.length+1) name src n cols ne nb nl
 else if op=5 then shapeP true false false false false true 1 1 name src n cols ne nb nl
 else if op=6 then shapeP true false true true false true 1 1 name src n cols ne nb nl
 else if op=7 then shapeP false false false true true false 1 1 name src n cols ne nb nl
 else if op=9 then shapeP false false false false false false 1 1 name src n cols ne nb nl
 else if op=10 then shapeP false false false false false false 1 8 name src n cols ne nb nl
 else false
def shapeB (x:St):Bool:=shapeR x.op x.name x.src x.n x.cols x.exprs.length x.body.length x.els.length
def builtS:Nat→St→Bool
 | 0,_=>false
 | d+1,x=>shapeB x&&x.exprs.all (builtE d)&&x.body.all (builtS d)&&x.els.all (builtS d)
/- procedures -/
structure Co where
 name:ByteArray
 kind:Int
structure Pr where
 name:ByteArray
 src:ByteArray
 part:ByteArray
 fuel:Int
 params:List Co
 body:List St
def smallZ (s:Int×Int):Bool:=decide (s.1≤300)&&decide (s.2≤12)
def kindB (c:Co):Bool:=decide (1≤c.kind)&&decide (c.kind≤3)
def headsR (name src part:ByteArray) (fuel:Int) (params:List Co):Bool :=
 params.all kindB&&freeB name&&decide (params.length≤8)&&freesB (params.map Co.name)&&decide (params.map Co.name).Nodup&&(decide (1≤fuel)&&decide (fuel≤2000)) &&
 (if noS src then noS part||(params.map Co.name).any fun x=>decide (x=part) else freeB src&&decide (params.length=0)&&noS part)
def headsB (p:Pr):Bool:=headsR p.name p.src p.part p.fuel p.params
def sizeP (d:Nat) (p:Pr):Int×Int:=allZ 0 (sizeS d 0) (0,0) p.body
def rightB (d:Nat) (p:Pr):Bool:=headsB p&&smallZ (sizeP d p)&&p.body.all (builtS d)
/- what is used -/
def srcsE:Nat→Ex→List ByteArray
 | 0,_=>[]
 | d+1,e=>(if rowsB e.op then [e.src] else [])++e.args.flatMap (srcsE d)
def readsS:Nat→St→List ByteArray
 | 0,_=>[]
 | d+1,x=>(if x.op=4∨x.op=5∨x.op=6 then [x.src] else [])++x.exprs.flatMap (srcsE d)++x.body.flatMap (readsS d)++x.els.flatMap (readsS d)
def writesS:Nat→St→List ByteArray
 | 0,_=>[]
 | d+1,x=>(if x.op=3∨x.op=4∨x.op=5 then [x.src] else [])++x.body.flatMap (writesS d)++x.els.flatMap (writesS d)
def emitsS:Nat→St→List ByteArray
 | 0,_=>[]
 | d+1,x=>(if x.op=8 then [x.src] else [])++x.body.flatMap (emitsS d)++x.els.flatMap (emitsS d)
end Go.Afx
namespace Go.Afx
open Go.RowKit
def cntE:Nat→Ex→Nat
 | 0,_=>0
 | d+1,e=>1+(e.args.map (cntE d)).sum
def cntS:Nat→St→Nat
 | 0,_=>0
 | d+1,x=>1+(x.exprs.map (cntE d)).sum+(x.body.map (cntS d)).sum+(x.els.map (cntS d)).sum
theorem sum_take {α:Type} {f:α→Nat} {l:List α} {k:Nat} {x:α} (h:l[k]?=some x):((l.take k).map f).sum+f x≤(l.map f).sum:=by
 obtain⟨hk,rfl⟩:=List.getElem?_eq_some_iff.1 h
 have e:l=l.take k++l[k]::l.drop (k+1):=by rw[← List.drop_eq_getElem_cons hk,List.take_append_drop]
 conv=>rhs;rw[e]
 simp only[List.map_append,List.sum_append,List.map_cons,List.sum_cons]
 omega
end Go.Afx
namespace Go.Afx
open Go.RowKit
def maxN (l:List Nat):Nat:=l.foldr max 0
theorem maxN_cons (a:Nat) (l:List Nat):maxN (a::l)=max a (maxN l):=rfl
theorem maxN_le {b:Nat}:∀ {l:List Nat},(∀ x∈l,x≤b)→maxN l≤b:=by
 intro l
 induction l with
 | nil=>intro _;simp[maxN]
 | cons a r ih=>intro h;rw[maxN_cons];have:=h a (by simp);have:=ih fun x hx=>h x (by simp[hx]);omega
def dptE:Nat→Ex→Nat
 | 0,_=>0
 | d+1,e=>1+maxN (e.args.map (dptE d))
def dptS:Nat→St→Nat
 | 0,_=>0
 | d+1,x=>1+max (max (maxN (x.exprs.map (dptE d))) (maxN (x.body.map (dptS d)))) (maxN (x.els.map (dptS d)))
theorem dptE_le (d:Nat):∀ e,dptE d e≤d:=by
 induction d with
 | zero=>intro e;simp[dptE]
 | succ d ih =>
  intro e
  have:maxN (e.args.map (dptE d))≤d:=maxN_le fun x hx=>by obtain⟨y,_,rfl⟩:=List.mem_map.1 hx;exact ih y
  rw[dptE];omega
theorem dptS_le (d:Nat):∀ e,dptS d e≤d:=by
 induction d with
 | zero=>intro e;simp[dptS]
 | succ d ih =>
  intro e
  have h1:maxN (e.exprs.map (dptE d))≤d:=maxN_le fun x hx=>by obtain⟨y,_,rfl⟩:=List.mem_map.1 hx;exact dptE_le d y
  have h2:maxN (e.body.map (dptS d))≤d:=maxN_le fun x hx=>by obtain⟨y,_,rfl⟩:=List.mem_map.1 hx;exact ih y
  have h3:maxN (e.els.map (dptS d))≤d:=maxN_le fun x hx=>by obtain⟨y,_,rfl⟩:=List.mem_map.1 hx;exact ih y
  rw[dptS];omega
def Cts (s:Int×Int) (N H:Nat):Prop:=s.1=min (N:Int) 1000∧(N<1000→s.2=H)∧H≤900
theorem Cts.nought:Cts (0,0) 0 0:=⟨by decide,fun _=>rfl,by omega⟩
theorem Cts.add {s t:Int×Int} {N H M K:Nat} (h:Cts s N H) (k:Cts t M K):Cts (addZ s t) (N+M) (max H K):=by
 obtain⟨h1,h2,h3⟩:=h
 obtain⟨k1,k2,k3⟩:=k
 refine⟨?_,fun hl=>?_,by omega⟩
 ·simp only[addZ];omega
 ·have a:=h2 (by omega)
  have b:=k2 (by omega)
  simp only[addZ];omega
theorem Cts.over {s:Int×Int} {N H:Nat} (h:Cts s N H) (hH:H+1≤900):Cts (overZ s) (1+N) (1+H):=by
 obtain⟨h1,h2,h3⟩:=h
 refine⟨?_,fun hl=>?_,by omega⟩
 ·simp only[overZ];omega
 ·have a:=h2 (by omega)
  simp only[overZ];omega
theorem Cts.all {α:Type} {lv:Int} {one:α→Int×Int} {f g:α→Nat} (hlv:lv<1000) (h:∀ x,Cts (one x) (f x) (g x)):∀ (l:List α) {s:Int×Int} {N H:Nat},Cts s N H→Cts (allZ lv one s l) (N+(l.map f).sum) (max H (maxN (l.map g))):=by
 intro l
 induction l with
 | nil=>intro s N H hs;simpa [allZ,maxN] using hs
 | cons x r ih =>
  intro s N H hs
  rw[List.map_cons,List.map_cons,List.sum_cons,maxN_cons]
  unfold allZ
  split
  ·rename_i hf
   obtain⟨h1,h2,h3⟩:=hs
   have hN:¬ N<1000:=by
    intro hN
    have a:=h2 hN
    simp only[fullZ,Bool.or_eq_true,decide_eq_true_eq] at hf
    omega
   have hg:∀ l:List α,maxN (l.map g)≤900:=fun l=>maxN_le fun y hy=>by obtain⟨z,_,rfl⟩:=List.mem_map.1 hy;exact(h z).2.2
   have:=hg r
   have:=(h x).2.2
   exact⟨by simp;omega,fun hl=>absurd hl (by omega),by omega⟩
  ·have:=ih (hs.add (h x))
   rw[Nat.add_assoc,Nat.max_assoc] at this
   exact this
theorem sizeE_cts (d:Nat):∀ (lv:Int) (e:Ex),lv+d≤900→d≤900→Cts (sizeE d lv e) (cntE d e) (dptE d e):=by
 induction d with
 | zero=>intro lv e _ _;exact Cts.nought
 | succ d ih =>
  intro lv e h hd
  rw[sizeE,cntE,dptE]
  have:=Cts.all (lv:=lv+1) (by omega) (fun x=>ih (lv+1) x (by omega) (by omega)) e.args Cts.nought
  rw[Nat.zero_add,Nat.zero_max] at this
  refine this.over ?_
  have:=dptE_le (d+1) e
  rw[dptE] at this
  omega
def cntP (d:Nat) (p:Pr):Nat:=(p.body.map (cntS d)).sum
def dptP (d:Nat) (p:Pr):Nat:=maxN (p.body.map (dptS d))
def readsP (d:Nat) (p:Pr):List ByteArray:=if rightB d p then p.body.flatMap (readsS d) else []
def writesP (d:Nat) (p:Pr):List ByteArray:=if rightB d p then p.body.flatMap (writesS d) else []
def emitsP (d:Nat) (p:Pr):List ByteArray:=if rightB d p then p.body.flatMap (emitsS d) else []
end Go.Afx
namespace Go.Proofs.YtdgapmnojmhllaaGreatDoor
open Go.RowKit Go.Afx
theorem over_any (a b:Int) (w:World) (ha:0≤a) (hb:0≤b) (ha':a≤1000) (hb':b≤1000) :
  Calls Tryz.prog 87 #[.agg #[.int .i64 a,.int .i64 b]] w fun e w'=>e=.returned (.agg #[.int .i64 (overZ (a,b)).1,.int .i64 (overZ (a,b)).2])∧Below w.heap.size w w':=by
 go_enter Tryz.func87,Tryz.ntmps87
 go_wp2
 all_goals
  refine bodyPost_ret (v:=.agg #[.int .i64 (overZ (a,b)).1,.int .i64 (overZ (a,b)).2]) ?_ rfl ⟨rfl,?_⟩
  ·simp[results,Tryz.results87,go_sem,overZ]
   omega
  ·exact((Below.refl _ _).alloc (Nat.le_refl _) _).alloc (by simp) _
theorem full_any (g:Nat) (a b:Int) (w:World) (hk:IsBlk w g 103 #[.int .i64 a,.int .i64 b]) :
  Calls Tryz.prog 116 #[.pointer (some ⟨g,0,none⟩)] w fun e w'=>e=.returned (.bool (fullZ (a,b)))∧w=w':=by
 have h0:=hk.cell 0
 have h1:=hk.cell 1
 simp at h0 h1
 have hlt:=hk.lt
 go_enter Tryz.func116,Tryz.ntmps116
 go_wp2
 all_goals
  go_ret
  refine⟨ret_bool ?_,rfl⟩
  simp_all [fullZ]
theorem blk_two {w:World} {g:Nat} {T:TypeId} {a b x y X Y:Int} {o:Obj} (hk:IsBlk w g T #[.int .i64 a,.int .i64 b]) (hx:X=x) (hy:Y=y) :
  IsBlk (((w.setCell ⟨g,0,none⟩ (.int .i64 X)).setCell ⟨g,1,none⟩ (.int .i64 Y)).alloc o).drew g T #[.int .i64 x,.int .i64 y]:=by
 subst hx hy
 exact((hk.stored 0 _).stored 1 _).alloc o
theorem ret_ib {a b:Int} {x y:Bool} (h:a=b) (k:x=y):Ending.returned (.tuple #[.int .i64 a,.bool x])=.returned (.tuple #[.int .i64 b,.bool y]):=by rw[h,k]
theorem add_any (g:Nat) (a b c d:Int) (w:World) (hk:IsBlk w g 103 #[.int .i64 a,.int .i64 b]) (ha:0≤a) (ha':a≤1000) (hc:0≤c) (hc':c≤1000) :
  Calls Tryz.prog 117 #[.pointer (some ⟨g,0,none⟩),.agg #[.int .i64 c,.int .i64 d]] w fun e w'=>e=.returned (.tuple #[]) ∧
   IsBlk w' g 103 #[.int .i64 (addZ (a,b) (c,d)).1,.int .i64 (addZ (a,b) (c,d)).2]∧But (fun k=>k=g) w w':=by
 have h0:=hk.cell 0
 have h1:=hk.cell 1
 simp at h0 h1
 have hlt:=hk.lt
 have hfz:=hk.frozen
 go_enter Tryz.func117,Tryz.ntmps117
 go_wp2
 go_region
 all_goals go_wp2
 all_goals
  go_end0
  exact⟨rfl,blk_two hk (by simp only[addZ];omega) (by simp only[addZ];omega),((((But.refl (fun k=>k=g) w).setCell (p:=⟨g,0,none⟩) (.inl rfl) _).setCell (p:=⟨g,1,none⟩) (.inl rfl) _).alloc _).drew⟩
theorem small_any (g:Nat) (a b:Int) (w:World) (hk:IsBlk w g 103 #[.int .i64 a,.int .i64 b]) :
  Calls Tryz.prog 43 #[.pointer (some ⟨g,0,none⟩)] w fun e w'=>e=.returned (.bool (smallZ (a,b)))∧w=w':=by
 have h0:=hk.cell 0
 have h1:=hk.cell 1
 simp at h0 h1
 have hlt:=hk.lt
 go_enter Tryz.func43,Tryz.ntmps43
 go_wp2
 all_goals
  go_ret
  refine⟨ret_bool ?_,rfl⟩
  simp_all [smallZ]
  try omega
theorem args_any (op:Int) (w:World) :
  Calls Tryz.prog 89 #[.int .i64 op] w fun e w'=>e=.returned (.tuple #[.int .i64 (arityB op),.bool (rowsB op)])∧w=w':=by
 go_enter Tryz.func89,Tryz.ntmps89
 go_wp2
 all_goals
  go_ret2
  (try simp only[beq_iff_eq,beq_eq_false_iff_ne,ne_eq] at *)
  first|(exfalso;omega)|exact⟨ret_ib (by unfold arityB;repeat (first|rw[if_pos (by omega)]|rw[if_neg (by omega)])) (by simp[rowsB];try omega),by first|rfl|trivial⟩
def SizesE (F:Nat→Prop) (d:Nat):Prop:=∀ (e:Ex) (row:List Value) (lv:Int) (w:World),ExAt F d w row e→0≤lv→lv+d≤100000 →
 Calls Tryz.prog 42 #[.agg row.toArray,.int .i64 lv] w fun x w'=>x=.returned (.agg #[.int .i64 (sizeE d lv e).1,.int .i64 (sizeE d lv e).2])∧Below w.heap.size w w'
theorem drop_cons {α:Type} {l:List α} {k:Nat} {x:α} (h:l[k]?=some x):l.drop k=x::l.drop (k+1):=by
 obtain⟨hk,rfl⟩:=List.getElem?_eq_some_iff.1 h
 exact List.drop_eq_getElem_cons hk
theorem allE_any (F:Nat→Prop) (d:Nat) (ih:SizesE F d) (A:Option Addr) (n c:Nat) (es:List Ex) (lv:Int) (w:World) (h:ExsAt F d w A n c es) (h0:0≤lv) (h1:lv+d≤100000) :
  Calls Tryz.prog 88 #[.slice A n c,.int .i64 lv,.func (.func 42) #[] #[]] w fun x w'=>x=.returned (.agg #[.int .i64 (allZ lv (sizeE d lv) (0,0) es).1,.int .i64 (allZ lv (sizeE d lv) (0,0) es).2])∧Below w.heap.size w w':=by
 have hn:=h.n_le
 have Hlen:=Lhd h.len
 obtain⟨w2,Hw2⟩:∃ w2,Hid (w2=(w.alloc (.cells #[.int .i64 0,.int .i64 0] 103)).alloc (.cells #[.int .i64 0,.int .i64 0] 103)):=⟨_,rfl⟩
 have hb2:Below w.heap.size w w2:=by rw[Hw2.out];exact((Below.refl _ _).alloc (Nat.le_refl _) _).alloc (by simp) _
 have hr2:IsBlk w2 w.heap.size 103 #[.int .i64 0,.int .i64 0]:=by rw[Hw2.out];exact(IsBlk.laid _ _ _).alloc _
 have hs2:IsBlk w2 (w.heap.size+1) 103 #[.int .i64 0,.int .i64 0]:=by
  have:=IsBlk.laid (w.alloc (.cells #[.int .i64 0,.int .i64 0] 103)) 103 #[.int .i64 0,.int .i64 0]
  rw[Hw2.out];simpa using this
 go_enter Tryz.func88,Tryz.ntmps88
 go_wp2
 rw[← Hw2.out]
 go_loopw [12] (fun i wr=>∃ (k:Nat) (s:Int×Int),k≤n∧i=.int .i64 k∧IsBlk wr (w.heap.size+1) 103 #[.int .i64 s.1,.int .i64 s.2]∧IsBlk wr w.heap.size 103 #[.int .i64 0,.int .i64 0]∧Zok s ∧
  allZ lv (sizeE d lv) (0,0) es=allZ lv (sizeE d lv) s (es.drop k)∧Below w.heap.size w wr) (fun i _=>n-(intOf i).toNat)
 case atStart=>exact⟨0,(0,0),Nat.zero_le _,rfl,hs2,hr2,Zok.nought,rfl,hb2⟩
 case round =>
  obtain⟨k,⟨s1,s2⟩,hk,rfl,hs,hr,hz,heq,hb⟩:=hrel
  have Heq:=Lhd heq
  clear heq hs2 hr2 hb2 Hw2
  have hlt:=hr.lt
  have hlts:=hs.lt
  obtain⟨z1,z2,z3,z4⟩:=hz
  simp only at z1 z2 z3 z4
  have hr0:=hr.cell 0
  have hr1:=hr.cell 1
  have hs0:=hs.cell 0
  have hs1:=hs.cell 1
  simp at hr0 hr1 hs0 hs1
  have hrf:=hr.frozen
  by_cases hlt':k<n
  ·cases d with
   | zero =>
    obtain⟨b,o,r,e,hA,hbl,_,he,hl,hp,hc⟩:=LsAt.get (h.below hb) hlt'
    exact hp.elim
   | succ d =>
    obtain⟨b,o,e,A2,m2,c2,rfl,hbl,hek,hc0,hc1,hc2,hc3,hc4,hc5,hp,_⟩:=ExsAt.get (h.below hb) hlt'
    have Hd:=Lhd (drop_cons hek)
    clear hek
    have hf:=fun W (hk:IsBlk W (w.heap.size+1) 103 #[.int .i64 s1,.int .i64 s2])=>full_any (w.heap.size+1) s1 s2 W hk
    obtain⟨fl,Hfl⟩:∃ fl,Hid (fullZ (s1,s2)=fl):=⟨_,rfl⟩
    rw[Hfl.out] at hf
    have Hf:=Lhd hf
    clear hf
    have hsn:=hs.alloc (.cells #[.int .i64 e.op,.int .i64 e.n,.string e.s,.string e.name,.string e.src,.slice A2 m2 c2] 32)
    have hrn:=hr.alloc (.cells #[.int .i64 e.op,.int .i64 e.n,.string e.s,.string e.name,.string e.src,.slice A2 m2 c2] 32)
    have hbn:=hb.alloc hb.size (.cells #[.int .i64 e.op,.int .i64 e.n,.string e.s,.string e.name,.string e.src,.slice A2 m2 c2] 32)
    have hpn:=hp.below ((Below.refl wr.heap.size wr).alloc (Nat.le_refl _) (.cells #[.int .i64 e.op,.int .i64 e.n,.string e.s,.string e.name,.string e.src,.slice A2 m2 c2] 32))
    cases fl
    ·by_cases hlv:lv<1000
     ·go_wp2_with (first|(go_at_call 116;refine(Hf.out _ hsn).mono ?_;rintro x w' ⟨rfl,rfl⟩))
      have hz2:=sizeE_ok (d+1) lv e
      obtain⟨y1,y2,y3,y4⟩:=hz2
      have Hih:=Lhd (ih e _ lv _ hpn h0 (by omega))
      refine Hih.out.mono ?_
      rintro x w3 ⟨rfl,hb3⟩
      have hs3:=hsn.as_was (hb3.block _ hsn.lt)
      have hr3:=hrn.as_was (hb3.block _ hrn.lt)
      have hb03:=hbn.trans (hb3.mono hbn.size)
      go_wp2_with fail
      refine(add_any (w.heap.size+1) s1 s2 _ _ w3 hs3 z1 z2 y1 y2).mono ?_
      rintro x w4 ⟨rfl,hs4,hbut4⟩
      have hr4:=hr3.as_was (hbut4.block _ hr3.lt (by omega))
      have hb04:=hb03.trans (hbut4.below' hb03.size (fun i hi=>by omega))
      go_wp2
      go_roundw
      case rel=>exact⟨k+1,addZ (s1,s2) (sizeE (d+1) lv e),by omega,by go_num,hs4,hr4,Zok.add ⟨z1,z2,z3,z4⟩ ⟨y1,y2,y3,y4⟩,by rw[Heq.out,Hd.out,allZ,Hfl.out];simp;intro hh;omega,hb04⟩
      case measure=>simp[intOf];omega
     ·go_wp2_with (first|(go_at_call 116;refine(Hf.out _ hsn).mono ?_;rintro x w' ⟨rfl,rfl⟩))
      refine bodyPost_ret (v:=.agg #[.int .i64 1000,.int .i64 1000]) (by simp[results,Tryz.results88,go_sem,hr0,hr1,hlt]) rfl ⟨?_,((hb.setCell (p:=⟨w.heap.size,0,none⟩) (Nat.le_refl _) _).setCell (p:=⟨w.heap.size,1,none⟩) (Nat.le_refl _) _).alloc (by simpa using hb.size) _⟩
      rw[Heq.out,Hd.out,allZ,Hfl.out,if_pos (by simp;omega)]
    ·go_wp2_with (first|(go_at_call 116;refine(Hf.out _ hsn).mono ?_;rintro x w' ⟨rfl,rfl⟩))
     refine bodyPost_ret (v:=.agg #[.int .i64 1000,.int .i64 1000]) (by simp[results,Tryz.results88,go_sem,hr0,hr1,hlt]) rfl ⟨?_,((hb.setCell (p:=⟨w.heap.size,0,none⟩) (Nat.le_refl _) _).setCell (p:=⟨w.heap.size,1,none⟩) (Nat.le_refl _) _).alloc (by simpa using hb.size) _⟩
     rw[Heq.out,Hd.out,allZ,Hfl.out,if_pos (by simp)]
  ·go_wp2
   refine bodyPost_ret (v:=.agg #[.int .i64 s1,.int .i64 s2]) (by simp[results,Tryz.results88,go_sem,hr0,hr1]) rfl ⟨?_,(hb.setCell (p:=⟨w.heap.size,0,none⟩) (Nat.le_refl _) _).setCell (p:=⟨w.heap.size,1,none⟩) (Nat.le_refl _) _⟩
   rw[Heq.out,List.drop_of_length_le (by rw[Hlen.out];omega)]
   rfl
theorem laid_at {w:World} {g:Nat} (hg:g=w.heap.size) (T:TypeId) (cs:Array Value):IsBlk (w.alloc (.cells cs T)) g T cs:=by subst hg;exact IsBlk.laid _ _ _
theorem sizeE_any (F:Nat→Prop) (d:Nat):SizesE F d:=by
 induction d with
 | zero=>intro e row lv w h;exact h.elim
 | succ d ih =>
  intro e row lv w h h0 h1
  obtain⟨A,m,c,rfl,hl⟩:=h.open_.2.2.2.2.2
  have hb1:Below w.heap.size w (w.alloc (.cells #[.int .i64 e.op,.int .i64 e.n,.string e.s,.string e.name,.string e.src,.slice A m c] 32)):=(Below.refl _ _).alloc (Nat.le_refl _) _
  have hb2:=hb1.alloc hb1.size (.cells #[.int .i64 0,.int .i64 0] 103)
  have Hall:=Lhd (allE_any F d ih A m c e.args (lv+1) _ (hl.below hb2) (by omega) (by omega))
  obtain⟨y1,y2,y3,y4⟩:=Zok.all (lv:=lv+1) (l:=e.args) (sizeE_ok d (lv+1)) Zok.nought
  have hr2:IsBlk ((w.alloc (.cells #[.int .i64 e.op,.int .i64 e.n,.string e.s,.string e.name,.string e.src,.slice A m c] 32)).alloc (.cells #[.int .i64 0,.int .i64 0] 103)) (w.heap.size+1) 103 #[.int .i64 0,.int .i64 0]:=laid_at (by simp) _ _
  have Hr2:=Lhd hr2
  clear hr2
  go_enter Tryz.func42,Tryz.ntmps42
  go_wp2_with (first|(go_at_call 88;refine Hall.out.mono ?_;rintro x w3 ⟨rfl,hb3⟩;have hr3:=Hr2.out.as_was (hb3.block _ Hr2.out.lt);have hb03:=hb2.trans (hb3.mono hb2.size))|(go_at_call 87;refine(over_any _ _ _ y1 y3 y2 y4).mono ?_;rintro x w4 ⟨rfl,hb4⟩;have hr4:=hr3.as_was (hb4.block _ hr3.lt);have q0:=hr4.cell 0;have q1:=hr4.cell 1;simp at q0 q1;have qf:=hr4.frozen;have ql:=hr4.lt))
  have hb04:=hb03.trans (hb4.mono hb03.size)
  refine bodyPost_ret (v:=.agg #[.int .i64 (sizeE (d+1) lv e).1,.int .i64 (sizeE (d+1) lv e).2]) (by simp[results,Tryz.results42,go_sem,q0,q1,sizeE]) rfl ⟨rfl,(hb04.setCell (p:=⟨w.heap.size+1,0,none⟩) (by simp) _).setCell (p:=⟨w.heap.size+1,1,none⟩) (by simp) _⟩
def SizesS (F:Nat→Prop) (d:Nat):Prop:=∀ (e:St) (row:List Value) (lv:Int) (w:World),StAt F d w row e→0≤lv→lv+d≤100000 →
 Calls Tryz.prog 72 #[.agg row.toArray,.int .i64 lv] w fun x w'=>x=.returned (.agg #[.int .i64 (sizeS d lv e).1,.int .i64 (sizeS d lv e).2])∧Below w.heap.size w w'
end Go.Proofs.YtdgapmnojmhllaaGreatDoor

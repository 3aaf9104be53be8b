/- Parts of this proof, one behind the other: EvR, SynP, SynQ, SynR, SynX, SynA. -/
import Derived.Test.YtmfcmpnlipnopaaGreatTw17
import Derived.Test.YtmfcmpnlipnopaaGreatTw1
import Derived.Lib.RowBridge
import Derived.Sort.KeysCollected
import Derived.Test.YtmfcmpnlipnopaaGreatProg
import Derived.WalkSpells
import Derived.WalkLawsBesides
import Derived.Deep.QuietTactic
import Derived.BigQuiet
import Derived.BigRegion
import Derived.Outline
import Derived.Lib.Hide
set_option maxRecDepth 1000000
set_option maxHeartbeats 40000000
namespace Go.Ev
open Go.RowKit Go.Afx
variable {P:Program}
def allStr:List AV→Option (List (List UInt8))
 | []=>some []
 | .str l::r=>(match Nat.ble l.length 1048576,allStr r with|true,some q=>some (l::q)|_,_=>none)
 | _::_=>none
noncomputable def strsOf (s:St):AV→Option (List (List UInt8)×St)
 | .nils=>some ([],s)
 | .sl b o n c=>(match Nat.ble c 1048576,Nat.ble n c,s.h.get b with
  | true,true,some (.cells _ l)=>(match cut l o n with|some q=>(match allStr q with|some r=>some (r,s.rd b o n)|none=>none)|none=>none)
  | _,_,_=>none)
 | .su b o n z=>(match Nat.beq z 1,s.h.get b with
  | true,some (.cells _ l)=>(match cut l o n with|some q=>(match allStr q with|some r=>some (r,s.rd b o n)|none=>none)|none=>none)
  | _,_=>none)
 | _=>none
theorem allStr_get:∀ {q:List AV} {r:List (List UInt8)},allStr q=some r→r.length=q.length∧∀ (j:Nat) (l:List UInt8),r[j]?=some l→q[j]?=some (.str l)∧l.length≤1048576
 | [],r,h=>by simp only[allStr] at h;cases h;exact⟨rfl,fun j l hl=>by simp at hl⟩
 | x::q,r,h=>by
  cases x with
  | str l0 =>
   simp only[allStr] at h
   split at h
   ·rename_i r' hb hr
    cases h
    obtain⟨h1,h2⟩:=allStr_get hr
    refine⟨by simp[h1],fun j l hl=>?_⟩
    cases j with
    | zero=>simp at hl;subst hl;exact⟨rfl,Nat.le_of_ble_eq_true hb⟩
    | succ j=>simp at hl;simpa using h2 j l hl
   ·cases h
  | _=>simp only[allStr] at h;cases h
def bytesL (r:List (List UInt8)):List ByteArray:=r.map fun l=>⟨⟨l⟩⟩
theorem strs_ok {K:Known} {L:Map} {s s':St} {w:World} {x:AV} {x':Value} {r:List (List UInt8)} (h:strsOf s x=some (r,s')) (hx:toV L x=some x') (hH:HRel K L (look s.h.get) w) (hC:Cov K s'.lg) :
  (s'=s∨∃ b o k,s'=s.rd b o k)∧∃ A n c,x'=.slice A n c∧r.length=n∧LsAt (fun b=>b<w.heap.size) w 1 SRow A n c (bytesL r):=by
 have key:∀ (b o n c:Nat) (l:Loc) (e:TypeId) (cs q:List AV),L b=some l→s.h.get b=some (.cells e cs)→cut cs o n=some q→allStr q=some r→s'=s.rd b o n→n≤c→c≤9223372036854775807 →
   r.length=n∧LsAt (fun b=>b<w.heap.size) w 1 SRow (some (locAddr l o)) n c (bytesL r):=fun b o n c l e cs q hl hb hq hr hs hnc hc=>by
  subst hs
  obtain⟨q1,q2⟩:=cut_spec hq
  obtain⟨r1,r2⟩:=allStr_get hr
  have hlt:=hH.old b l hl
  have hcell:∀ j lj,r[j]?=some lj→w.cell? ⟨l.blk,l.off+o+j,none⟩=some (.string ⟨⟨lj⟩⟩):=fun j lj hj=>by
   obtain⟨h1,_⟩:=r2 j lj hj
   have hjn:j<n:=by
    have:j<r.length:=by
     rcases Nat.lt_or_ge j r.length with p|p
     ·exact p
     ·rw[List.getElem?_eq_none p] at hj;cases hj
    omega
   have h2:=q2 j
   rw[if_pos hjn,h1] at h2
   obtain⟨l2,v',hl2,hv,hc2⟩:=hH.cell hb h2.symm (hC.get ⟨false,b,o,n⟩ (by simp[St.rd]) (o+j) (by show o≤o+j;omega) (by show o+j<o+n;omega))
   rw[hl] at hl2;cases hl2
   rw[toV_str hv] at hc2
   simpa [locAddr,Nat.add_assoc] using hc2
  refine⟨by omega,(bytesL r).map (fun b=>[Value.string b]),⟨by simp[bytesL];omega,hnc,by unfold maxLen;omega,fun k row hk=>?_⟩,fun a ha _=>by cases ha;exact hlt,by simp,fun k row x hk hx=>?_⟩
  ·refine⟨l.blk,l.off+o,rfl,hlt,fun j u hu=>?_⟩
   rw[List.getElem?_map] at hk
   obtain⟨bs,hbs,rfl⟩:=Option.map_eq_some_iff.1 hk
   unfold bytesL at hbs
   rw[List.getElem?_map] at hbs
   obtain⟨lj,hlj,rfl⟩:=Option.map_eq_some_iff.1 hbs
   cases j with
   | zero=>simp at hu;subst hu;simpa using hcell k lj hlj
   | succ j=>simp at hu
  ·rw[List.getElem?_map,hx] at hk
   cases hk
   unfold bytesL at hx
   rw[List.getElem?_map] at hx
   obtain⟨lj,hlj,rfl⟩:=Option.map_eq_some_iff.1 hx
   refine⟨rfl,rfl,?_⟩
   have:=(r2 k lj hlj).2
   unfold okS
   rw[bytes_size];omega
 unfold strsOf at h
 split at h
 ·cases h;cases hx
  exact⟨.inl rfl,none,0,0,rfl,rfl,LsAt.nil_ _ _ _ _⟩
 ·rename_i b o n c
  obtain⟨l,hl,rfl⟩:=toV_sl hx
  split at h
  ·rename_i e cs hc hn hb
   split at h
   ·rename_i q hq
    split at h
    ·rename_i r' hr
     cases h
     have:=Nat.le_of_ble_eq_true hc
     obtain⟨k1,k2⟩:=key b o n c l e cs q hl hb hq hr rfl (Nat.le_of_ble_eq_true hn) (by omega)
     exact⟨.inr ⟨_,_,_,rfl⟩,_,_,_,rfl,k1,k2⟩
    ·cases h
   ·cases h
  ·cases h
 ·rename_i b o n z
  obtain⟨l,hl,hz0,hroom,rfl⟩:=toV_su hx
  have hcap:=toV_su_cap hx hl
  split at h
  ·rename_i e cs hz hb
   split at h
   ·rename_i q hq
    split at h
    ·rename_i r' hr
     cases h
     have:=Nat.eq_of_beq_eq_true hz
     subst this
     obtain⟨k1,k2⟩:=key b o n ((l.cc-o) / 1) l e cs q hl hb hq hr rfl (by rw[Nat.div_one];omega) hcap
     exact⟨.inr ⟨_,_,_,rfl⟩,_,_,_,rfl,k1,k2⟩
    ·cases h
   ·cases h
  ·cases h
 ·cases h
theorem below_step {K:Known} {L:Map} {s s':St} {w w':World} (h:s'=s∨∃ b o k,s'=s.rd b o k) (hH:HRel K L (look s.h.get) w) (hb:Below w.heap.size w w'):(∃ d,Step L s w d L s' w')∧HRel K L (look s'.h.get) w':=by
 have hheap:s'.h=s.h∧∃ d,Step L s w d L s' w:=by
  rcases h with rfl|⟨b,o,k,rfl⟩
  ·exact⟨rfl,_,Step.refl L _ w⟩
  ·exact⟨rfl,_,Step.rd L s w b o k⟩
 obtain⟨h1,d,h2⟩:=hheap
 refine⟨⟨d,h2.lg,h2.n,h2.ext,h2.dom,h2.ali,hb.size,hb.os,hb.output,hb.tape,fun r c e fz hr=>⟨c,?_,rfl,fun _ _=>rfl⟩,fun r o hr _ _=>?_⟩,?_⟩
 ·rw[hb.block r (get_lt hr)];exact hr
 ·rw[hb.block r (get_lt hr)];exact hr
 ·rw[h1]
  refine⟨fun b k x hx hk=>?_,hH.inj,fun b l hl=>Nat.lt_of_lt_of_le (hH.old b l hl) hb.size⟩
  obtain⟨l,hl,hr⟩:=hH.rel b k x hx hk
  refine⟨l,hl,?_⟩
  have hlt:=hH.old b l hl
  cases x with
  | cell e n v=>obtain⟨c,fz,g1,g2⟩:=hr;exact⟨c,fz,by rw[hb.block _ hlt];exact g1,g2⟩
  | obj y=>obtain⟨g1,o,g2,g3⟩:=hr;exact⟨g1,o,by rw[hb.block _ hlt];exact g2,g3⟩
noncomputable def primStrs (f:List (List UInt8)→Bool):List AV→St→R AV:=fun args s=>match args with
 | [x]=>(match strsOf s x with|some (r,s')=>(match Nat.ble r.length 1000000 with|true=>.ok (.bool (f r)) s'|false=>.fail)|none=>.fail)
 | _=>.fail
theorem primStrs_ok {g : FuncId} {f : List (List UInt8) → Bool} {fn : Func} (hfn : P.funcs[g]? = some fn) (hbody : fn.body.isSome = true) (hname : (fn.name == "runtime.NumGoroutine") = false)
  (hcall:∀ (A:Option Addr) (n c:Nat) (r:List (List UInt8)) (w:World),LsAt (fun b=>b<w.heap.size) w 1 SRow A n c (bytesL r)→n≤1000000→Calls P g #[.slice A n c] w fun e w'=>e=.returned (.bool (f r))∧Below w.heap.size w w') :
  ∀ args s v s',primStrs f args s=.ok v s'→Mono s s'∧∀ (K:Known) (L:Map) (w:World) (args':List Value),toVs L args=some args'→HRel K L (look s.h.get) w→Cov K s'.lg →
   (∀ b,s.n≤b→b<s'.n→L b=none)→Upon P g ⟨args'⟩ w (Ends K L s w v s'):=by
 intro args s v s' h
 unfold primStrs at h
 split at h
 case h_2=>cases h
 rename_i x
 split at h
 case h_2=>cases h
 rename_i r s1 hr
 split at h
 case h_2=>cases h
 rename_i hle
 cases h
 refine⟨?_,fun K L w args' ha hH hC _=>?_⟩
 ·unfold strsOf at hr
  split at hr
  ·cases hr;exact Mono.refl _
  ·split at hr
   ·split at hr
    ·split at hr
     ·cases hr;exact Mono.rd _ _ _ _
     ·cases hr
    ·cases hr
   ·cases hr
  ·split at hr
   ·split at hr
    ·split at hr
     ·cases hr;exact Mono.rd _ _ _ _
     ·cases hr
    ·cases hr
   ·cases hr
  ·cases hr
 ·simp only[toVs] at ha
  cases hx:toV L x with
  | none=>rw[hx] at ha;cases ha
  | some x' =>
   rw[hx] at ha;cases ha
   obtain⟨hs,A,n,c,rfl,hn,hls⟩:=strs_ok hr hx hH hC
   intro o a next Q hq
   have hrun:(callFunc g ⟨[Value.slice A n c]⟩).run P w=.ok (.enter g ⟨[Value.slice A n c]⟩) w:=by
    simp only[callFunc,Sem.run_bind,run_program,Result.andThen_ok,hfn]
    have hne:fn.body.isNone=false:=by cases hb:fn.body with|none=>rw[hb] at hbody;cases hbody|some _=>rfl
    rw[if_neg (by rw[hname];simp),if_neg (by rw[hne];simp),Sem.run_pure]
   rw[hrun,Oper.upon_enter]
   refine(hcall A n c r w hls (by have:=Nat.le_of_ble_eq_true hle;omega)).mono ?_
   rintro e w' ⟨rfl,hb⟩
   obtain⟨⟨d,h1⟩,h2⟩:=below_step hs hH hb
   exact hq _ w' ⟨d,L,rfl,h1,h2⟩
def nodupB:List (List UInt8)→Bool
 | []=>true
 | x::l=>!(l.any fun y=>y==x)&&nodupB l
theorem nodupB_iff:∀ r:List (List UInt8),nodupB r=true ↔ (bytesL r).Nodup
 | []=>by simp[nodupB,bytesL]
 | x::l=>by
  have ih:=nodupB_iff l
  have hmem:(⟨⟨x⟩⟩:ByteArray)∈bytesL l ↔ x∈l:=by
   unfold bytesL
   rw[List.mem_map]
   constructor
   ·rintro⟨y,hy,he⟩
    cases he
    exact hy
   ·intro hx;exact⟨x,hx,rfl⟩
  show (!(l.any fun y=>y==x)&&nodupB l)=true ↔ ((⟨⟨x⟩⟩:ByteArray)::bytesL l).Nodup
  rw[List.nodup_cons,hmem,← ih,Bool.and_eq_true,Bool.not_eq_true',← Bool.not_eq_true,List.any_eq_true]
  constructor
  ·rintro⟨h1,h2⟩
   exact⟨fun hx=>h1 ⟨x,hx,by simp⟩,h2⟩
  ·rintro⟨h1,h2⟩
   refine⟨?_,h2⟩
   rintro⟨y,hy,he⟩
   have:y=x:=by simpa using he
   subst this
   exact h1 hy
def tells:R AV→Bool
 | .ok (.bool b) _=>b
 | _=>false
theorem closed_true {pr:Prims} (hpr:PrimsOk P pr) {n d:Nat} {f:FuncId} (hp:pr f=none) (h:tells (evCall3 P pr n (d+1) f [] ⟨.nil,0,[]⟩)=true) (w:World) :
  Calls P f #[] w (fun e w'=>e=.returned (.bool true)∧Below w.heap.size w w'):=by
 rw[evCall3_eq] at h
 cases hv:evCall P pr drawn n (d+1) f [] ⟨.nil,0,[]⟩ with
 | fail=>rw[hv] at h;cases h
 | ok v s' =>
  rw[hv] at h
  cases v with
  | bool b =>
   have h:b=true:=h
   subst h
   exact closed_call hpr hp hv (fun L u hu=>toV_bool hu) w
  | _=>cases h
theorem prims_one {g:FuncId} {p:List AV→St→R AV} (h:∀ args s v s',p args s=.ok v s'→Mono s s'∧∀ (K:Known) (L:Map) (w:World) (args':List Value),toVs L args=some args'→HRel K L (look s.h.get) w→Cov K s'.lg →
      (∀ b,s.n≤b→b<s'.n→L b=none)→Upon P g ⟨args'⟩ w (Ends K L s w v s')):PrimsOk P (fun f=>match Nat.beq f g with|true=>some p|false=>none):=fun f q hf=>by
  simp only[] at hf
  split at hf
  · rename_i hb
    have:=Nat.eq_of_beq_eq_true hb
    subst this
    cases hf
    exact h
  · cases hf
end Go.Ev
namespace Go.Afx
open Go.RowKit
theorem bs_inj {a b:ByteArray} (h:a.toList=b.toList):a=b:=WideShapes.bytes_inj (by rw[← ByteArray.toList_eq,← ByteArray.toList_eq,h])
theorem bs_eq {a b:ByteArray}:(a.toList==b.toList)=decide (a=b):=by
 rw[Bool.eq_iff_iff,beq_iff_eq,decide_eq_true_iff]
 exact⟨bs_inj,fun h=>by rw[h]⟩
/- sizes -/
def fullZ (s:Int×Int):Bool:=decide (1000≤s.1)||decide (1000≤s.2)
def addZ (s t:Int×Int):Int×Int:=(min (s.1+t.1) 1000,max s.2 t.2)
def overZ (s:Int×Int):Int×Int:=(min (s.1+1) 1000,min (s.2+1) 1000)
def toldZ (s:Int×Int):Int×Int:=if fullZ s then (1000,1000) else s
def allZ {α:Type} (lv:Int) (one:α→Int×Int):Int×Int→List α→Int×Int
 | s,[]=>s
 | s,x::r=>if fullZ s||decide (1000≤lv) then (1000,1000) else allZ lv one (addZ s (one x)) r
def sizeE:Nat→Int→Ex→Int×Int
 | 0,_,_=>(0,0)
 | d+1,lv,e=>overZ (allZ (lv+1) (sizeE d (lv+1)) (0,0) e.args)
def sizeS:Nat→Int→St→Int×Int
 | 0,_,_=>(0,0)
 | d+1,lv,x=>overZ (addZ (addZ (allZ (lv+1) (sizeE d (lv+1)) (0,0) x.exprs) (allZ (lv+1) (sizeS d (lv+1)) (0,0) x.body)) (allZ (lv+1) (sizeS d (lv+1)) (0,0) x.els))
def Zok (s:Int×Int):Prop:=0≤s.1∧s.1≤1000∧0≤s.2∧s.2≤1000
theorem Zok.nought:Zok (0,0):=⟨by omega,by omega,by omega,by omega⟩
theorem Zok.much:Zok (1000,1000):=⟨by omega,by omega,by omega,by omega⟩
theorem Zok.add {s t:Int×Int} (h:Zok s) (k:Zok t):Zok (addZ s t):=by
 obtain⟨a,b⟩:=s;obtain⟨c,d⟩:=t
 simp only[Zok,addZ] at h k ⊢;omega
theorem Zok.over {s:Int×Int} (h:Zok s):Zok (overZ s):=by
 obtain⟨a,b⟩:=s
 simp only[Zok,overZ] at h ⊢;omega
theorem Zok.all {α:Type} {lv:Int} {one:α→Int×Int} (h:∀ x,Zok (one x)):∀ {l:List α} {s:Int×Int},Zok s→Zok (allZ lv one s l):=by
 intro l
 induction l with
 | nil=>intro s hs;exact hs
 | cons x r ih =>
  intro s hs
  unfold allZ
  split
  ·exact Zok.much
  ·exact ih (hs.add (h x))
theorem sizeE_ok (d:Nat):∀ lv e,Zok (sizeE d lv e):=by
 induction d with
 | zero=>intro lv e;exact Zok.nought
 | succ d ih=>intro lv e;exact(Zok.all (ih _) Zok.nought).over
theorem sizeS_ok (d:Nat):∀ lv e,Zok (sizeS d lv e):=by
 induction d with
 | zero=>intro lv e;exact Zok.nought
 | succ d ih=>intro lv e;exact(((Zok.all (sizeE_ok d _) Zok.nought).add (Zok.all (ih _) Zok.nought)).add (Zok.all (ih _) Zok.nought)).over
/- names -/
def letterB (c:UInt8):Bool:=decide (97≤c.toNat)&&decide (c.toNat≤122)
def partB (c:UInt8):Bool:=letterB c||(decide (48≤c.toNat)&&decide (c.toNat≤57))||decide (c.toNat=95)
def namedB (s:ByteArray):Bool:=match s.data.toList with
 | []=>false
 | c::r=>decide (r.length+1≤16)&&letterB c&&r.all partB
def str (l:List UInt8):ByteArray:=⟨l.toArray⟩
def wordsL:List ByteArray:=[str [97,110,100],str [111,114],str [110,111,116],str [116,114,117,101],str [102,97,108,115,101],str [108,101,116],str [115,101,116],str [105,110,115,101,114,116],str [117,112,100,97,116,101],str [100,101,108,101,116,101],str [102,111,114],str [105,110],
 str [119,104,101,114,101],str [108,105,109,105,116],str [105,102],str [101,108,115,101],str [101,109,105,116],str [97,98,111,114,116],str [114,101,112,108,121],str [99,111,117,110,116],str [115,117,109],str [109,105,110],str [109,97,120],str [105,110,116],str [116,101,120,116],str [98,111,111,108],str [116,97,98,108,101],
 str [115,116,114,101,97,109],str [119,105,110,100,111,119],str [115,105,110,107],str [112,114,111,99],str [107,101,121],str [117,110,105,113,117,101],str [105,110,100,101,120],str [112,97,114,116,115],str [98,121],str [111,110],str [102,114,111,109],str [97,116],str [102,117,101,108],str [116,117,112,108,101,115],
 str [98,97,116,99,104,101,115],str [115,108,105,100,101]]
def resB (s:ByteArray):Bool:=wordsL.any fun x=>x.toList==s.toList
def freeB (s:ByteArray):Bool:=namedB s&&!resB s
def freesB (l:List ByteArray):Bool:=l.all namedB&&!l.any resB
theorem freesB_all (l:List ByteArray):freesB l=l.all freeB:=by
 unfold freesB freeB
 induction l with
 | nil=>rfl
 | cons a r ih =>
  simp only[List.all_cons,List.any_cons,← ih]
  cases namedB a<;>cases resB a<;>cases (List.all r namedB)<;>cases (List.any r resB)<;>rfl
/- expressions -/
def arityB (op:Int):Int:=if 1≤op∧op≤5 then 0 else if 6≤op∧op≤18 then 2 else if op=19∨op=20 then 1 else if op=21 then 1 else if 22≤op∧op≤24 then 2 else -1
def rowsB (op:Int):Bool:=decide (21≤op)&&decide (op≤24)
def noS (s:ByteArray):Bool:=decide (s=ByteArray.empty)
def fieldsR (op n:Int) (s name src:ByteArray):Bool :=
 if op=1 then decide (0≤n)&&noS s&&noS name&&noS src
 else if op=2 then decide (s.size≤200)&&decide (n=0)&&noS name&&noS src
 else if op=3 then (decide (n=0)||decide (n=1))&&noS s&&noS name&&noS src
 else if op=4 then freeB name&&decide (n=0)&&noS s&&noS src
 else if op=5 then freeB name&&freeB s&&decide (n=0)&&noS src
 else if rowsB op then freeB name&&freeB src&&decide (n=0)&&noS s
 else decide (n=0)&&noS s&&noS name&&noS src
def fieldsE (e:Ex):Bool:=fieldsR e.op e.n e.s e.name e.src
def headE (e:Ex):Bool:=decide (arityB e.op=e.args.length)&&fieldsE e
def builtE:Nat→Ex→Bool
 | 0,_=>false
 | d+1,e=>headE e&&e.args.all (builtE d)
/- statements -/
def shapeP (hn hc hnum hb ho hs:Bool) (least most:Int) (name src:ByteArray) (n:Int) (cols:List ByteArray) (ne nb nl:Nat):Bool :=
 (if hn then freeB name else noS name)&&(if hs then freeB src else noS src) &&
 (if hc then decide (1≤cols.length)&&decide (cols.length≤8)&&freesB cols&&decide cols.Nodup else decide (cols.length=0)) &&
 (if hnum then decide (0≤n)&&decide (n≤1000) else decide (n=0))&&(decide (least≤(ne:Int))&&decide ((ne:Int)≤most)) &&
 (hb||decide (nb=0))&&(ho||decide (nl=0))
def shapeR (op:Int) (name src:ByteArray) (n:Int) (cols:List ByteArray) (ne nb nl:Nat):Bool :=
 if op=1∨op=2 then shapeP true false false false false false 1 1 name src n cols ne nb nl
 else if op=3∨op=8 then shapeP false false false false false true 1 8 name src n cols ne nb nl
 else if op=4 then shapeP true true false false false true (cols.length+1) (cols.length+1) name src n cols ne nb nl
 else if op=5 then shapeP true false false false false true 1 1 name src n cols ne nb nl
 else if op=6 then shapeP true false true true false true 1 1 name src n cols ne nb nl
 else if op=7 then shapeP false false false true true false 1 1 name src n cols ne nb nl
 else if op=9 then shapeP false false false false false false 1 1 name src n cols ne nb nl
 else if op=10 then shapeP false false false false false false 1 8 name src n cols ne nb nl
 else false
def shapeB (x:St):Bool:=shapeR x.op x.name x.src x.n x.cols x.exprs.length x.body.length x.els.length
def builtS:Nat→St→Bool
 | 0,_=>false
 | d+1,x=>shapeB x&&x.exprs.all (builtE d)&&x.body.all (builtS d)&&x.els.all (builtS d)
/- procedures -/
structure Co where
 name:ByteArray
 kind:Int
structure Pr where
 name:ByteArray
 src:ByteArray
 part:ByteArray
 fuel:Int
 params:List Co
 body:List St
def smallZ (s:Int×Int):Bool:=decide (s.1≤300)&&decide (s.2≤12)
def kindB (c:Co):Bool:=decide (1≤c.kind)&&decide (c.kind≤3)
def headsR (name src part:ByteArray) (fuel:Int) (params:List Co):Bool :=
 params.all kindB&&freeB name&&decide (params.length≤8)&&freesB (params.map Co.name)&&decide (params.map Co.name).Nodup&&(decide (1≤fuel)&&decide (fuel≤2000)) &&
 (if noS src then noS part||(params.map Co.name).any fun x=>decide (x=part) else freeB src&&decide (params.length=0)&&noS part)
def headsB (p:Pr):Bool:=headsR p.name p.src p.part p.fuel p.params
def sizeP (d:Nat) (p:Pr):Int×Int:=allZ 0 (sizeS d 0) (0,0) p.body
def rightB (d:Nat) (p:Pr):Bool:=headsB p&&smallZ (sizeP d p)&&p.body.all (builtS d)
/- what is used -/
def srcsE:Nat→Ex→List ByteArray
 | 0,_=>[]
 | d+1,e=>(if rowsB e.op then [e.src] else [])++e.args.flatMap (srcsE d)
def readsS:Nat→St→List ByteArray
 | 0,_=>[]
 | d+1,x=>(if x.op=4∨x.op=5∨x.op=6 then [x.src] else [])++x.exprs.flatMap (srcsE d)++x.body.flatMap (readsS d)++x.els.flatMap (readsS d)
def writesS:Nat→St→List ByteArray
 | 0,_=>[]
 | d+1,x=>(if x.op=3∨x.op=4∨x.op=5 then [x.src] else [])++x.body.flatMap (writesS d)++x.els.flatMap (writesS d)
def emitsS:Nat→St→List ByteArray
 | 0,_=>[]
 | d+1,x=>(if x.op=8 then [x.src] else [])++x.body.flatMap (emitsS d)++x.els.flatMap (emitsS d)
end Go.Afx
namespace Go.Afx
open Go.RowKit Go.Proofs
theorem sort_rises (l:List (List UInt8)):(l.mergeSort fun x y=>decide (x≤y)).Pairwise (fun x y=>x≤y):=by
 have tr:∀ a b c:List UInt8,decide (a≤b)=true→decide (b≤c)=true→decide (a≤c)=true:=fun a b c h1 h2=>by simp only[decide_eq_true_eq] at *;exact List.le_trans h1 h2
 have tt:∀ a b:List UInt8,(decide (a≤b)||decide (b≤a))=true:=fun a b=>by simp only[Bool.or_eq_true,decide_eq_true_eq];exact List.le_total a b
 exact(List.pairwise_mergeSort tr tt l).imp fun h=>by simpa using h
theorem compact_once {ss:List (List UInt8)} (hs:ss.Pairwise (fun x y=>x≤y)):(Lib.compact ss).length=ss.length ↔ ss.Nodup:=by
 have e:(Lib.compact ss).length=ss.length ↔ ∀ j,j<ss.length→Lib.keeps ss.toArray j=true:=by
  unfold Lib.compact Lib.compactUpTo
  rw[List.length_map]
  have h1:=List.length_filter_eq_length_iff (p:=Lib.keeps ss.toArray) (l:=List.range ss.length)
  rw[List.length_range] at h1
  rw[h1]
  simp
 rw[e]
 have g:∀ j,j<ss.length→ss.toArray[j]! = ss[j]!:=fun j hj=>by simp[getElem!_pos,hj]
 constructor
 ·intro h
  refine List.pairwise_iff_getElem.2 fun i j hi hj hij he=>?_
  have h1:=h j hj
  simp only[Lib.keeps,decide_eq_true_eq] at h1
  rw[g j hj,g (j-1) (by omega),getElem!_pos ss j hj,getElem!_pos ss (j-1) (show j-1<ss.length by omega)] at h1
  have h3:ss[j-1]≤ss[j]:=List.pairwise_iff_getElem.1 hs (j-1) j (by omega) hj (by omega)
  have h2:ss[i]≤ss[j-1]:=by
   by_cases hi':i=j-1
   ·subst hi';exact List.le_refl _
   ·exact List.pairwise_iff_getElem.1 hs i (j-1) hi (by omega) (by omega)
  rw[he] at h2
  rcases h1 with h1|h1
  ·omega
  ·exact h1 (List.le_antisymm h2 h3)
 ·intro h j hj
  simp only[Lib.keeps,decide_eq_true_eq]
  by_cases h0:j=0
  ·exact .inl h0
  ·refine .inr fun he=>?_
   rw[g j hj,g (j-1) (by omega),getElem!_pos ss j hj,getElem!_pos ss (j-1) (show j-1<ss.length by omega)] at he
   exact List.pairwise_iff_getElem.1 h (j-1) j (by omega) hj (by omega) he.symm
def bytesL (xs:List ByteArray):List (List UInt8):=xs.map (·.data.toList)
theorem bytesL_length (xs:List ByteArray):(bytesL xs).length=xs.length:=by simp[bytesL]
theorem data_inj {a b:ByteArray} (h:a.data.toList=b.data.toList):a=b:=by
 cases a;cases b;simp at h;subst h;rfl
theorem bytesL_enc (xs:List ByteArray):(bytesL xs).map encStr=xs.map Value.string:=by simp[bytesL,encStr]
theorem bytesL_nodup (xs:List ByteArray):(bytesL xs).Nodup ↔ xs.Nodup:=by
 unfold bytesL List.Nodup
 rw[List.pairwise_map]
 exact⟨fun h=>h.imp fun h e=>h (by rw[e]),fun h=>h.imp fun h e=>h (data_inj e)⟩
theorem once_sorted (xs:List ByteArray):(Lib.compact ((bytesL xs).mergeSort fun x y=>decide (x≤y))).length=xs.length ↔ xs.Nodup:=by
 rw[← bytesL_nodup,← (List.mergeSort_perm (bytesL xs) fun x y=>decide (x≤y)).nodup_iff,← compact_once (sort_rises _),List.length_mergeSort,bytesL_length]
end Go.Afx
namespace Go.Afx
open Go.RowKit
def cntE:Nat→Ex→Nat
 | 0,_=>0
 | d+1,e=>1+(e.args.map (cntE d)).sum
def cntS:Nat→St→Nat
 | 0,_=>0
 | d+1,x=>1+(x.exprs.map (cntE d)).sum+(x.body.map (cntS d)).sum+(x.els.map (cntS d)).sum
end Go.Afx
namespace Go.Afx
open Go.RowKit
def maxN (l:List Nat):Nat:=l.foldr max 0
theorem maxN_cons (a:Nat) (l:List Nat):maxN (a::l)=max a (maxN l):=rfl
theorem maxN_le {b:Nat}:∀ {l:List Nat},(∀ x∈l,x≤b)→maxN l≤b:=by
 intro l
 induction l with
 | nil=>intro _;simp[maxN]
 | cons a r ih=>intro h;rw[maxN_cons];have:=h a (by simp);have:=ih fun x hx=>h x (by simp[hx]);omega
def dptE:Nat→Ex→Nat
 | 0,_=>0
 | d+1,e=>1+maxN (e.args.map (dptE d))
def dptS:Nat→St→Nat
 | 0,_=>0
 | d+1,x=>1+max (max (maxN (x.exprs.map (dptE d))) (maxN (x.body.map (dptS d)))) (maxN (x.els.map (dptS d)))
theorem dptE_le (d:Nat):∀ e,dptE d e≤d:=by
 induction d with
 | zero=>intro e;simp[dptE]
 | succ d ih =>
  intro e
  have:maxN (e.args.map (dptE d))≤d:=maxN_le fun x hx=>by obtain⟨y,_,rfl⟩:=List.mem_map.1 hx;exact ih y
  rw[dptE];omega
theorem dptS_le (d:Nat):∀ e,dptS d e≤d:=by
 induction d with
 | zero=>intro e;simp[dptS]
 | succ d ih =>
  intro e
  have h1:maxN (e.exprs.map (dptE d))≤d:=maxN_le fun x hx=>by obtain⟨y,_,rfl⟩:=List.mem_map.1 hx;exact dptE_le d y
  have h2:maxN (e.body.map (dptS d))≤d:=maxN_le fun x hx=>by obtain⟨y,_,rfl⟩:=List.mem_map.1 hx;exact ih y
  have h3:maxN (e.els.map (dptS d))≤d:=maxN_le fun x hx=>by obtain⟨y,_,rfl⟩:=List.mem_map.1 hx;exact ih y
  rw[dptS];omega
def Cts (s:Int×Int) (N H:Nat):Prop:=s.1=min (N:Int) 1000∧(N<1000→s.2=H)∧H≤900
theorem Cts.nought:Cts (0,0) 0 0:=⟨by decide,fun _=>rfl,by omega⟩
theorem Cts.add {s t:Int×Int} {N H M K:Nat} (h:Cts s N H) (k:Cts t M K):Cts (addZ s t) (N+M) (max H K):=by
 obtain⟨h1,h2,h3⟩:=h
 obtain⟨k1,k2,k3⟩:=k
 refine⟨?_,fun hl=>?_,by omega⟩
 ·simp only[addZ];omega
 ·have a:=h2 (by omega)
  have b:=k2 (by omega)
  simp only[addZ];omega
theorem Cts.over {s:Int×Int} {N H:Nat} (h:Cts s N H) (hH:H+1≤900):Cts (overZ s) (1+N) (1+H):=by
 obtain⟨h1,h2,h3⟩:=h
 refine⟨?_,fun hl=>?_,by omega⟩
 ·simp only[overZ];omega
 ·have a:=h2 (by omega)
  simp only[overZ];omega
theorem Cts.all {α:Type} {lv:Int} {one:α→Int×Int} {f g:α→Nat} (hlv:lv<1000) (h:∀ x,Cts (one x) (f x) (g x)):∀ (l:List α) {s:Int×Int} {N H:Nat},Cts s N H→Cts (allZ lv one s l) (N+(l.map f).sum) (max H (maxN (l.map g))):=by
 intro l
 induction l with
 | nil=>intro s N H hs;simpa [allZ,maxN] using hs
 | cons x r ih =>
  intro s N H hs
  rw[List.map_cons,List.map_cons,List.sum_cons,maxN_cons]
  unfold allZ
  split
  ·rename_i hf
   obtain⟨h1,h2,h3⟩:=hs
   have hN:¬ N<1000:=by
    intro hN
    have a:=h2 hN
    simp only[fullZ,Bool.or_eq_true,decide_eq_true_eq] at hf
    omega
   have hg:∀ l:List α,maxN (l.map g)≤900:=fun l=>maxN_le fun y hy=>by obtain⟨z,_,rfl⟩:=List.mem_map.1 hy;exact(h z).2.2
   have:=hg r
   have:=(h x).2.2
   exact⟨by simp;omega,fun hl=>absurd hl (by omega),by omega⟩
  ·have:=ih (hs.add (h x))
   rw[Nat.add_assoc,Nat.max_assoc] at this
   exact this
theorem sizeE_cts (d:Nat):∀ (lv:Int) (e:Ex),lv+d≤900→d≤900→Cts (sizeE d lv e) (cntE d e) (dptE d e):=by
 induction d with
 | zero=>intro lv e _ _;exact Cts.nought
 | succ d ih =>
  intro lv e h hd
  rw[sizeE,cntE,dptE]
  have:=Cts.all (lv:=lv+1) (by omega) (fun x=>ih (lv+1) x (by omega) (by omega)) e.args Cts.nought
  rw[Nat.zero_add,Nat.zero_max] at this
  refine this.over ?_
  have:=dptE_le (d+1) e
  rw[dptE] at this
  omega
theorem sizeS_cts (d:Nat):∀ (lv:Int) (e:St),lv+d≤900→d≤900→Cts (sizeS d lv e) (cntS d e) (dptS d e):=by
 induction d with
 | zero=>intro lv e _ _;exact Cts.nought
 | succ d ih =>
  intro lv e h hd
  rw[sizeS,cntS,dptS]
  have h1:=Cts.all (lv:=lv+1) (by omega) (fun x=>sizeE_cts d (lv+1) x (by omega) (by omega)) e.exprs Cts.nought
  have h2:=Cts.all (lv:=lv+1) (by omega) (fun x=>ih (lv+1) x (by omega) (by omega)) e.body Cts.nought
  have h3:=Cts.all (lv:=lv+1) (by omega) (fun x=>ih (lv+1) x (by omega) (by omega)) e.els Cts.nought
  rw[Nat.zero_add,Nat.zero_max] at h1 h2 h3
  rw[Nat.add_assoc 1,Nat.add_assoc 1]
  refine((h1.add h2).add h3).over ?_
  have:=dptS_le (d+1) e
  rw[dptS] at this
  omega
def cntP (d:Nat) (p:Pr):Nat:=(p.body.map (cntS d)).sum
def dptP (d:Nat) (p:Pr):Nat:=maxN (p.body.map (dptS d))
theorem sizeP_cts (d:Nat) (p:Pr) (hd:d≤900):Cts (sizeP d p) (cntP d p) (dptP d p):=by
 have:=Cts.all (lv:=0) (by omega) (fun x=>sizeS_cts d 0 x (by omega) hd) p.body Cts.nought
 rw[Nat.zero_add,Nat.zero_max] at this
 exact this
def readsP (d:Nat) (p:Pr):List ByteArray:=if rightB d p then p.body.flatMap (readsS d) else []
def writesP (d:Nat) (p:Pr):List ByteArray:=if rightB d p then p.body.flatMap (writesS d) else []
def emitsP (d:Nat) (p:Pr):List ByteArray:=if rightB d p then p.body.flatMap (emitsS d) else []
end Go.Afx
namespace Go.Proofs.YtmfcmpnlipnopaaGreat
open Go.RowKit Go.Afx
theorem over_any (a b:Int) (w:World) (ha:0≤a) (hb:0≤b) (ha':a≤1000) (hb':b≤1000) :
  Calls Tryz.prog 83 #[.agg #[.int .i64 a,.int .i64 b]] w fun e w'=>e=.returned (.agg #[.int .i64 (overZ (a,b)).1,.int .i64 (overZ (a,b)).2])∧Below w.heap.size w w':=by
 go_enter Tryz.func83,Tryz.ntmps83
 go_wp2
 all_goals
  refine bodyPost_ret (v:=.agg #[.int .i64 (overZ (a,b)).1,.int .i64 (overZ (a,b)).2]) ?_ rfl ⟨rfl,?_⟩
  ·simp[results,Tryz.results83,go_sem,overZ]
   omega
  ·exact((Below.refl _ _).alloc (Nat.le_refl _) _).alloc (by simp) _
theorem full_any (g:Nat) (a b:Int) (w:World) (hk:IsBlk w g 129 #[.int .i64 a,.int .i64 b]) :
  Calls Tryz.prog 79 #[.pointer (some ⟨g,0,none⟩)] w fun e w'=>e=.returned (.bool (fullZ (a,b)))∧w=w':=by
 have h0:=hk.cell 0
 have h1:=hk.cell 1
 simp at h0 h1
 have hlt:=hk.lt
 go_enter Tryz.func79,Tryz.ntmps79
 go_wp2
 all_goals
  go_ret
  refine⟨ret_bool ?_,rfl⟩
  simp_all [fullZ]
theorem blk_two {w:World} {g:Nat} {T:TypeId} {a b x y X Y:Int} {o:Obj} (hk:IsBlk w g T #[.int .i64 a,.int .i64 b]) (hx:X=x) (hy:Y=y) :
  IsBlk (((w.setCell ⟨g,0,none⟩ (.int .i64 X)).setCell ⟨g,1,none⟩ (.int .i64 Y)).alloc o).drew g T #[.int .i64 x,.int .i64 y]:=by
 subst hx hy
 exact((hk.stored 0 _).stored 1 _).alloc o
theorem ret_ib {a b:Int} {x y:Bool} (h:a=b) (k:x=y):Ending.returned (.tuple #[.int .i64 a,.bool x])=.returned (.tuple #[.int .i64 b,.bool y]):=by rw[h,k]
theorem add_any (g:Nat) (a b c d:Int) (w:World) (hk:IsBlk w g 129 #[.int .i64 a,.int .i64 b]) (ha:0≤a) (ha':a≤1000) (hc:0≤c) (hc':c≤1000) :
  Calls Tryz.prog 80 #[.pointer (some ⟨g,0,none⟩),.agg #[.int .i64 c,.int .i64 d]] w fun e w'=>e=.returned (.tuple #[]) ∧
   IsBlk w' g 129 #[.int .i64 (addZ (a,b) (c,d)).1,.int .i64 (addZ (a,b) (c,d)).2]∧But (fun k=>k=g) w w':=by
 have h0:=hk.cell 0
 have h1:=hk.cell 1
 simp at h0 h1
 have hlt:=hk.lt
 have hfz:=hk.frozen
 go_enter Tryz.func80,Tryz.ntmps80
 go_wp2
 go_region
 all_goals go_wp2
 all_goals
  go_end0
  exact⟨rfl,blk_two hk (by simp only[addZ];omega) (by simp only[addZ];omega),((((But.refl (fun k=>k=g) w).setCell (p:=⟨g,0,none⟩) (.inl rfl) _).setCell (p:=⟨g,1,none⟩) (.inl rfl) _).alloc _).drew⟩
theorem small_any (g:Nat) (a b:Int) (w:World) (hk:IsBlk w g 129 #[.int .i64 a,.int .i64 b]) :
  Calls Tryz.prog 56 #[.pointer (some ⟨g,0,none⟩)] w fun e w'=>e=.returned (.bool (smallZ (a,b)))∧w=w':=by
 have h0:=hk.cell 0
 have h1:=hk.cell 1
 simp at h0 h1
 have hlt:=hk.lt
 go_enter Tryz.func56,Tryz.ntmps56
 go_wp2
 all_goals
  go_ret
  refine⟨ret_bool ?_,rfl⟩
  simp_all [smallZ]
  try omega
theorem args_any (op:Int) (w:World) :
  Calls Tryz.prog 137 #[.int .i64 op] w fun e w'=>e=.returned (.tuple #[.int .i64 (arityB op),.bool (rowsB op)])∧w=w':=by
 go_enter Tryz.func137,Tryz.ntmps137
 go_wp2
 all_goals
  go_ret2
  (try simp only[beq_iff_eq,beq_eq_false_iff_ne,ne_eq] at *)
  first|(exfalso;omega)|exact⟨ret_ib (by unfold arityB;repeat (first|rw[if_pos (by omega)]|rw[if_neg (by omega)])) (by simp[rowsB];try omega),by first|rfl|trivial⟩
end Go.Proofs.YtmfcmpnlipnopaaGreat

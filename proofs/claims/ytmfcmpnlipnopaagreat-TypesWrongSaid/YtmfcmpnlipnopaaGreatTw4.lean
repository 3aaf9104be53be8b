/- Parts of this proof, one behind the other: EvB, EvC. -/
import Derived.Test.YtmfcmpnlipnopaaGreatTw3
import Derived.Below
import Derived.WalkKit
set_option maxRecDepth 1000000
set_option maxHeartbeats 40000000
namespace Go.Ev
theorem upd_get {env:Env} {d t:Nat} {v x:AV} (h:upd env d v t=some x):(t=d∧v=x)∨(t≠d∧env t=some x):=by
 unfold upd at h
 split at h
 ·rename_i hb;cases h;exact .inl ⟨Nat.eq_of_beq_eq_true hb,rfl⟩
 ·rename_i hb;exact .inr ⟨Nat.ne_of_beq_eq_false hb,h⟩
namespace Tr
variable {α:Type}
theorem brec {β:Type} (x y:β) (m:Nat):(Bool.rec (motive:=fun _=>β) x y (Nat.beq (m % 2) 0):β)=if m % 2=0 then y else x:=by
 by_cases h:m % 2=0
 ·simp[h]
 ·have:Nat.beq (m % 2) 0=false:=by
   cases hb:Nat.beq (m % 2) 0 with
   | false=>rfl
   | true=>exact absurd (Nat.eq_of_beq_eq_true hb) h
  simp[h,this]
theorem get_nil (n:Nat):(Tr.nil:Tr α).get n=none:=rfl
theorem get_zero (l:Tr α) (v:Option α) (r:Tr α):(Tr.nd l v r).get 0=v:=rfl
theorem get_succ (l:Tr α) (v:Option α) (r:Tr α) (m:Nat):(Tr.nd l v r).get (m+1)=if m % 2=0 then l.get (m / 2) else r.get (m / 2):=brec _ _ m
theorem sgl_zero (n:Nat) (x:Option α):(sgl 0 n x:Tr α)=.nil:=rfl
theorem sgl_succ0 (d:Nat) (x:Option α):(sgl (d+1) 0 x:Tr α)=.nd .nil x .nil:=rfl
theorem sgl_succ (d m:Nat) (x:Option α):(sgl (d+1) (m+1) x:Tr α)=if m % 2=0 then .nd (sgl d (m / 2) x) none .nil else .nd .nil none (sgl d (m / 2) x):=brec _ _ m
theorem set_nil (n:Nat) (x:Option α):(Tr.nil:Tr α).set n x=sgl 64 n x:=rfl
theorem set_zero (l:Tr α) (v:Option α) (r:Tr α) (x:Option α):(Tr.nd l v r).set 0 x=.nd l x r:=rfl
theorem set_succ (l:Tr α) (v:Option α) (r:Tr α) (m:Nat) (x:Option α) :
  (Tr.nd l v r).set (m+1) x=if m % 2=0 then .nd (l.set (m / 2) x) v r else .nd l v (r.set (m / 2) x):=brec _ _ m
theorem get_sgl (d:Nat):∀ (n:Nat) (x:Option α) (k:Nat) (y:α),(sgl d n x).get k=some y→k=n∧x=some y:=by
 induction d with
 | zero=>intro n x k y h;rw[sgl_zero,get_nil] at h;cases h
 | succ d ih =>
  intro n x k y h
  cases n with
  | zero =>
   rw[sgl_succ0] at h
   cases k with
   | zero=>exact⟨rfl,h⟩
   | succ k=>rw[get_succ] at h;split at h<;>(rw[get_nil] at h;cases h)
  | succ m =>
   rw[sgl_succ] at h
   cases k with
   | zero=>split at h<;>(rw[get_zero] at h;cases h)
   | succ k =>
    split at h
    ·rw[get_succ] at h
     split at h
     ·obtain⟨h1,h2⟩:=ih _ _ _ _ h;exact⟨by omega,h2⟩
     ·rw[get_nil] at h;cases h
    ·rw[get_succ] at h
     split at h
     ·rw[get_nil] at h;cases h
     ·obtain⟨h1,h2⟩:=ih _ _ _ _ h;exact⟨by omega,h2⟩
theorem get_set (t:Tr α):∀ (n:Nat) (x:Option α) (k:Nat) (y:α),(t.set n x).get k=some y→(k=n∧x=some y)∨(k≠n∧t.get k=some y):=by
 induction t with
 | nil=>intro n x k y h;rw[set_nil] at h;exact .inl (get_sgl _ _ _ _ _ h)
 | nd l v r il ir =>
  intro n x k y h
  cases n with
  | zero =>
   rw[set_zero] at h
   cases k with
   | zero=>exact .inl ⟨rfl,h⟩
   | succ k=>exact .inr ⟨by omega,by rw[get_succ] at h ⊢;exact h⟩
  | succ m =>
   rw[set_succ] at h
   cases k with
   | zero=>refine .inr ⟨by omega,?_⟩;split at h<;>exact h
   | succ k =>
    split at h
    ·rename_i hm
     rw[get_succ] at h
     split at h
     ·rename_i hk
      rcases il _ _ _ _ h with ⟨h1,h2⟩|⟨h1,h2⟩
      ·exact .inl ⟨by omega,h2⟩
      ·exact .inr ⟨by omega,by rw[get_succ,if_pos hk];exact h2⟩
     ·rename_i hk;exact .inr ⟨by omega,by rw[get_succ,if_neg hk];exact h⟩
    ·rename_i hm
     rw[get_succ] at h
     split at h
     ·rename_i hk;exact .inr ⟨by omega,by rw[get_succ,if_pos hk];exact h⟩
     ·rename_i hk
      rcases ir _ _ _ _ h with ⟨h1,h2⟩|⟨h1,h2⟩
      ·exact .inl ⟨by omega,h2⟩
      ·exact .inr ⟨by omega,by rw[get_succ,if_neg hk];exact h2⟩
theorem get_sgl_ne (d:Nat):∀ (n:Nat) (x:Option α) (k:Nat),k≠n→(sgl d n x).get k=none:=by
 intro n x k h
 cases hg:(sgl d n x).get k with
 | none=>rfl
 | some y=>exact absurd (get_sgl d n x k y hg).1 h
theorem get_set_ne (t:Tr α):∀ (n:Nat) (x:Option α) (k:Nat),k≠n→(t.set n x).get k=t.get k:=by
 induction t with
 | nil=>intro n x k h;rw[set_nil,get_sgl_ne 64 n x k h,get_nil]
 | nd l v r il ir =>
  intro n x k h
  cases n with
  | zero =>
   rw[set_zero]
   cases k with
   | zero=>exact absurd rfl h
   | succ k=>rw[get_succ,get_succ]
  | succ m =>
   rw[set_succ]
   cases k with
   | zero=>split<;>rfl
   | succ k =>
    split
    ·rename_i hm
     rw[get_succ,get_succ]
     split
     ·exact il _ _ _ (by omega)
     ·rfl
    ·rename_i hm
     rw[get_succ,get_succ]
     split
     ·rfl
     ·exact ir _ _ _ (by omega)
theorem get_set_old (t:Tr α):∀ (n:Nat) (x:Option α) (y:α),t.get n=some y→(t.set n x).get n=x:=by
 induction t with
 | nil=>intro n x y h;rw[get_nil] at h;cases h
 | nd l v r il ir =>
  intro n x y h
  cases n with
  | zero=>rw[set_zero,get_zero]
  | succ m =>
   rw[get_succ] at h
   rw[set_succ]
   split at h
   ·rename_i hm;rw[if_pos hm,get_succ,if_pos hm];exact il _ _ _ h
   ·rename_i hm;rw[if_neg hm,get_succ,if_neg hm];exact ir _ _ _ h
end Tr
structure Loc where
 blk:Nat
 off:Nat
 cc:Nat
abbrev Map:=Nat→Option Loc
def locAddr (l:Loc) (o:Nat):Addr:=⟨l.blk,l.off+o,none⟩
mutual
def toV (L:Map):AV→Option Value
 | .bool b=>some (.bool b)
 | .int k n=>some (.int k n)
 | .str l=>some (.string ⟨⟨l⟩⟩)
 | .nilp=>some (.pointer none)
 | .ptr b o=>match L b with|some l=>some (.pointer (some (locAddr l o)))|none=>none
 | .nils=>some (.slice none 0 0)
 | .sl b o n c=>match L b with|some l=>some (.slice (some (locAddr l o)) n c)|none=>none
 | .su b o n z=>match L b with|some l=>if 0<z∧o+n*z≤l.cc∧(l.cc-o) / z≤9223372036854775807 then some (.slice (some (locAddr l o)) n ((l.cc-o) / z)) else none|none=>none
 | .nilm=>some (.map none)
 | .map b=>match L b with|some l=>some (.map (some l.blk))|none=>none
 | .fn f a c=>match toVs L a,toVs L c with|some a,some c=>some (.func f ⟨a⟩ ⟨c⟩)|_,_=>none
 | .nilf=>some .nilFunc
 | .iface t v=>match toV L v with|some v=>some (.iface t v)|none=>none
 | .nili=>some .nilIface
 | .agg l=>match toVs L l with|some l=>some (.agg ⟨l⟩)|none=>none
 | .tup l=>match toVs L l with|some l=>some (.tuple ⟨l⟩)|none=>none
def toVs (L:Map):List AV→Option (List Value)
 | []=>some []
 | v::l=>match toV L v,toVs L l with|some v,some l=>some (v::l)|_,_=>none
end
def Map.le (L L':Map):Prop:=∀ b l,L b=some l→L' b=some l
theorem Map.le_refl (L:Map):L.le L:=fun _ _ h=>h
theorem Map.le.trans {L L' L'':Map} (h:L.le L') (h':L'.le L''):L.le L'':=fun b l hl=>h' b l (h b l hl)
mutual
theorem toV_mono {L L':Map} (h:L.le L'):∀ (a:AV) (v:Value),toV L a=some v→toV L' a=some v
 | .bool b,v,e=>e
 | .int k n,v,e=>e
 | .str l,v,e=>e
 | .nilp,v,e=>e
 | .nils,v,e=>e
 | .nilm,v,e=>e
 | .nilf,v,e=>e
 | .nili,v,e=>e
 | .ptr b o,v,e=>by
  simp only[toV] at e ⊢
  cases hb:L b with
  | none=>rw[hb] at e;cases e
  | some l=>rw[hb] at e;rw[h b l hb];exact e
 | .sl b o n c,v,e=>by
  simp only[toV] at e ⊢
  cases hb:L b with
  | none=>rw[hb] at e;cases e
  | some l=>rw[hb] at e;rw[h b l hb];exact e
 | .su b o n z,v,e=>by
  simp only[toV] at e ⊢
  cases hb:L b with
  | none=>rw[hb] at e;cases e
  | some l=>rw[hb] at e;rw[h b l hb];exact e
 | .map b,v,e=>by
  simp only[toV] at e ⊢
  cases hb:L b with
  | none=>rw[hb] at e;cases e
  | some l=>rw[hb] at e;rw[h b l hb];exact e
 | .fn f a c,v,e=>by
  simp only[toV] at e ⊢
  cases ha:toVs L a with
  | none=>rw[ha] at e;cases e
  | some a' =>
   cases hc:toVs L c with
   | none=>rw[ha,hc] at e;cases e
   | some c'=>rw[ha,hc] at e;rw[toVs_mono h a a' ha,toVs_mono h c c' hc];exact e
 | .iface t x,v,e=>by
  simp only[toV] at e ⊢
  cases ha:toV L x with
  | none=>rw[ha] at e;cases e
  | some a'=>rw[ha] at e;rw[toV_mono h x a' ha];exact e
 | .agg x,v,e=>by
  simp only[toV] at e ⊢
  cases ha:toVs L x with
  | none=>rw[ha] at e;cases e
  | some a'=>rw[ha] at e;rw[toVs_mono h x a' ha];exact e
 | .tup x,v,e=>by
  simp only[toV] at e ⊢
  cases ha:toVs L x with
  | none=>rw[ha] at e;cases e
  | some a'=>rw[ha] at e;rw[toVs_mono h x a' ha];exact e
theorem toVs_mono {L L':Map} (h:L.le L'):∀ (a:List AV) (v:List Value),toVs L a=some v→toVs L' a=some v
 | [],v,e=>e
 | x::l,v,e=>by
  simp only[toVs] at e ⊢
  cases ha:toV L x with
  | none=>rw[ha] at e;cases e
  | some a' =>
   cases hc:toVs L l with
   | none=>rw[ha,hc] at e;cases e
   | some c'=>rw[ha,hc] at e;rw[toV_mono h x a' ha,toVs_mono h l c' hc];exact e
end
mutual
theorem toV_ofV (L:Map):∀ (v:Value) (a:AV),ofV v=some a→toV L a=some v
 | .bool b,a,e=>by simp only[ofV] at e;cases e;rfl
 | .int k n,a,e=>by simp only[ofV] at e;cases e;rfl
 | .string s,a,e=>by simp only[ofV] at e;cases e;simp[toV]
 | .pointer none,a,e=>by simp only[ofV] at e;cases e;rfl
 | .pointer (some _),a,e=>by simp only[ofV] at e;cases e
 | .slice none n c,a,e=>by
  unfold ofV at e
  split at e<;>first|(cases e;done)|skip
  all_goals first|(rename_i h;cases h)|skip
  all_goals (cases e;first|rfl|simp[toV])
 | .slice (some _) _ _,a,e=>by simp only[ofV] at e;cases e
 | .map none,a,e=>by simp only[ofV] at e;cases e;rfl
 | .map (some _),a,e=>by simp only[ofV] at e;cases e
 | .nilFunc,a,e=>by simp only[ofV] at e;cases e;rfl
 | .nilIface,a,e=>by simp only[ofV] at e;cases e;rfl
 | .iface t v,a,e=>by
  simp only[ofV] at e
  cases ha:ofV v with
  | none=>rw[ha] at e;cases e
  | some x=>rw[ha] at e;cases e;simp only[toV];rw[toV_ofV L v x ha]
 | .func f ⟨x⟩ ⟨y⟩,a,e=>by
  simp only[ofV] at e
  cases ha:ofVs x with
  | none=>rw[ha] at e;cases e
  | some x' =>
   cases hb:ofVs y with
   | none=>rw[ha,hb] at e;cases e
   | some y'=>rw[ha,hb] at e;cases e;simp only[toV];rw[toVs_ofVs L x x' ha,toVs_ofVs L y y' hb]
 | .agg ⟨x⟩,a,e=>by
  simp only[ofV] at e
  cases ha:ofVs x with
  | none=>rw[ha] at e;cases e
  | some x'=>rw[ha] at e;cases e;simp only[toV];rw[toVs_ofVs L x x' ha]
 | .tuple ⟨x⟩,a,e=>by
  simp only[ofV] at e
  cases ha:ofVs x with
  | none=>rw[ha] at e;cases e
  | some x'=>rw[ha] at e;cases e;simp only[toV];rw[toVs_ofVs L x x' ha]
 | .float _ _,a,e=>by simp only[ofV] at e;cases e
 | .complex _ _ _,a,e=>by simp only[ofV] at e;cases e
 | .chan _,a,e=>by simp only[ofV] at e;cases e
theorem toVs_ofVs (L:Map):∀ (v:List Value) (a:List AV),ofVs v=some a→toVs L a=some v
 | [],a,e=>by simp only[ofVs] at e;cases e;rfl
 | v::l,a,e=>by
  simp only[ofVs] at e
  cases ha:ofV v with
  | none=>rw[ha] at e;cases e
  | some x =>
   cases hb:ofVs l with
   | none=>rw[ha,hb] at e;cases e
   | some y=>rw[ha,hb] at e;cases e;simp only[toVs];rw[toV_ofV L v x ha,toVs_ofVs L l y hb]
end
end Go.Ev
namespace Go.Ev
def entRel (L:Map) (e:AEntry) (x:MapEntry):Prop:=toV L e.key=some x.key∧toV L e.val=some x.val∧e.born=x.born
def entsRel (L:Map):List AEntry→List MapEntry→Prop
 | [],[]=>True
 | e::l,x::r=>entRel L e x∧entsRel L l r
 | _,_=>False
def oRel (L:Map):Blk→Obj→Prop
 | .cells _ _,_=>False
 | .map l c,.map es c'=>c=c'∧entsRel L l es.toList
 | .striter s p,.stringIter b q=>b=⟨⟨s⟩⟩∧q=p
 | .mapiter none s seen st,.mapIter none s' seen' st'=>s'=s∧seen'=⟨seen⟩∧st'=st
 | .mapiter (some b) s seen st,.mapIter (some r) s' seen' st'=>(∃ l,L b=some l∧l.blk=r)∧s'=s∧seen'=⟨seen⟩∧st'=st
 | _,_=>False
def Free (fz:Nat×Nat) (n:Nat):Prop:=∀ j,j<n→¬ (fz.1≤j∧j<fz.2)
abbrev Known:=Nat→Nat→Prop
inductive Info where
 | cell (e:TypeId) (n:Nat) (v:AV)
 | obj (x:Blk)
abbrev Look:=Nat→Nat→Option Info
def look (g:Nat→Option Blk):Look:=fun b k=>match g b with
 | some (.cells e cs)=>(match cs[k]? with|some v=>some (.cell e cs.length v)|none=>none)
 | some x=>(match k with|0=>some (.obj x)|_+1=>none)
 | none=>none
theorem look_cells {g:Nat→Option Blk} {b k:Nat} {e:TypeId} {cs:List AV} {v:AV} (h:g b=some (.cells e cs)) (hv:cs[k]?=some v):look g b k=some (.cell e cs.length v):=by
 simp only[look,h,hv]
theorem look_cells_inv {g:Nat→Option Blk} {b k:Nat} {e:TypeId} {cs:List AV} {x:Info} (h:g b=some (.cells e cs)) (hx:look g b k=some x):∃ v,cs[k]?=some v∧x=.cell e cs.length v:=by
 simp only[look,h] at hx
 split at hx
 ·rename_i v hv;cases hx;exact⟨v,hv,rfl⟩
 ·cases hx
def Blk.isObj:Blk→Bool
 | .cells _ _=>false
 | _=>true
theorem look_obj {g:Nat→Option Blk} {b:Nat} {x:Blk} (h:g b=some x) (hx:x.isObj=true):look g b 0=some (.obj x):=by
 simp only[look,h];cases x<;>first|rfl|(simp[Blk.isObj] at hx;done)
theorem look_obj_inv {g:Nat→Option Blk} {b k:Nat} {x:Blk} {y:Info} (h:g b=some x) (hx:x.isObj=true) (hy:look g b k=some y):k=0∧y=.obj x:=by
 simp only[look,h] at hy
 cases x with
 | cells e cs=>simp[Blk.isObj] at hx
 | map l c=>cases k with|zero=>cases hy;exact⟨rfl,rfl⟩|succ k=>cases hy
 | striter l c=>cases k with|zero=>cases hy;exact⟨rfl,rfl⟩|succ k=>cases hy
 | mapiter l c p q=>cases k with|zero=>cases hy;exact⟨rfl,rfl⟩|succ k=>cases hy
theorem look_some {g:Nat→Option Blk} {b k:Nat} {y:Info} (hy:look g b k=some y):∃ x,g b=some x:=by
 unfold look at hy
 cases h:g b with
 | none=>rw[h] at hy;cases hy
 | some x=>exact⟨x,rfl⟩
theorem look_congr {g g':Nat→Option Blk} {b:Nat} (h:g b=g' b) (k:Nat):look g b k=look g' b k:=by unfold look;rw[h]
def kRel (L:Map) (k:Nat) (x:Info) (l:Loc) (w:World):Prop:=match x with
 | .cell e n v=>∃ c fz,w.heap[l.blk]?=some (Obj.cells c e fz)∧l.off+n≤c.size∧l.off+l.cc≤c.size∧Free fz c.size∧∃ v',toV L v=some v'∧c[l.off+k]?=some v'
 | .obj x=>l.off=0∧∃ o,w.heap[l.blk]?=some o∧oRel L x o
structure HRel (K:Known) (L:Map) (lk:Look) (w:World):Prop where
 rel:∀ b k x,lk b k=some x→K b k→∃ l,L b=some l∧kRel L k x l w
 inj:∀ b k x b' k' x' l l',lk b k=some x→K b k→lk b' k'=some x'→K b' k'→L b=some l→L b'=some l'→l.blk=l'.blk→b=b'
 old:∀ b l,L b=some l→l.blk<w.heap.size
def Cov (K:Known) (lg:List Acc):Prop:=∀ a,a∈lg→∀ j,a.o≤j→(a.n=big∨j<a.o+a.n)→K a.b j
theorem Cov.get {K:Known} {lg:List Acc} (h:Cov K lg) (a:Acc) (ha:a∈lg) (j:Nat) (h1:a.o≤j) (h2:j<a.o+a.n):K a.b j:=h a ha j h1 (.inr h2)
theorem Cov.tail {K:Known} {a:Acc} {lg:List Acc} (h:Cov K (a::lg)):Cov K lg:=fun x hx=>h x (List.mem_cons_of_mem _ hx)
theorem Cov.app {K:Known} {d lg:List Acc} (h:Cov K (d++lg)):Cov K lg:=fun x hx=>h x (List.mem_append_right _ hx)
def Wr (L:Map) (d:List Acc) (r k:Nat):Prop:=∃ a,a∈d∧a.w=true∧∃ l,L a.b=some l∧l.blk=r∧l.off+a.o≤k∧(a.n=big∨k<l.off+a.o+a.n)
def WrB (L:Map) (d:List Acc) (r:Nat):Prop:=∃ a,a∈d∧a.w=true∧(a.o=0∧(a.n=big∨0<a.n))∧∃ l,L a.b=some l∧l.blk=r
structure Step (L:Map) (s:St) (w:World) (d:List Acc) (L':Map) (s':St) (w':World):Prop where
 lg:s'.lg=d++s.lg
 n:s.n≤s'.n
 ext:L.le L'
 dom:∀ b l,L' b=some l→L b=some l∨(L b=none∧s.n≤b∧b<s'.n)
 ali:∀ b l,L' b=some l→L b=none→w.heap.size≤l.blk∨∃ a,a∈d∧a.w=true∧a.o=0∧a.n=big∧∃ l0,L a.b=some l0∧l0.blk=l.blk∧l0.off≤l.off
 size:w.heap.size≤w'.heap.size
 os:w'.os=w.os
 out:w'.output=w.output
 tape:w'.tape=w.tape
 cells:∀ r c e fz,w.heap[r]?=some (Obj.cells c e fz)→∃ c',w'.heap[r]?=some (Obj.cells c' e fz)∧c'.size=c.size∧∀ k,¬ Wr L d r k→c'[k]?=c[k]?
 objs:∀ r o,w.heap[r]?=some o→(∀ c e fz,o≠Obj.cells c e fz)→¬ WrB L d r→w'.heap[r]?=some o
theorem Step.refl (L:Map) (s:St) (w:World):Step L s w [] L s w where
 lg:=rfl
 n:=Nat.le_refl _
 ext:=Map.le_refl L
 dom:=fun _ _ h=>.inl h
 ali:=fun b l h h'=>by rw[h] at h';cases h'
 size:=Nat.le_refl _
 os:=rfl
 out:=rfl
 tape:=rfl
 cells:=fun r c e fz h=>⟨c,h,rfl,fun _ _=>rfl⟩
 objs:=fun r o h _ _=>h
theorem Step.rd (L:Map) (s:St) (w:World) (b o n:Nat):Step L s w [⟨false,b,o,n⟩] L (s.rd b o n) w where
 lg:=rfl
 n:=Nat.le_refl _
 ext:=Map.le_refl L
 dom:=fun _ _ h=>.inl h
 ali:=fun b l h h'=>by rw[h] at h';cases h'
 size:=Nat.le_refl _
 os:=rfl
 out:=rfl
 tape:=rfl
 cells:=fun r c e fz h=>⟨c,h,rfl,fun _ _=>rfl⟩
 objs:=fun r o h _ _=>h
theorem Step.trans {L L' L'':Map} {s s' s'':St} {w w' w'':World} {d d':List Acc} (h:Step L s w d L' s' w') (h':Step L' s' w' d' L'' s'' w'') :
  Step L s w (d'++d) L'' s'' w'' where
 lg:=by rw[h'.lg,h.lg,List.append_assoc]
 n:=Nat.le_trans h.n h'.n
 ext:=h.ext.trans h'.ext
 dom:=fun b l hl=>by
  rcases h'.dom b l hl with h1|⟨h1,h2,h3⟩
  ·rcases h.dom b l h1 with h4|⟨h4,h5,h6⟩
   ·exact .inl h4
   ·exact .inr ⟨h4,h5,Nat.lt_of_lt_of_le h6 h'.n⟩
  ·refine .inr ⟨?_,Nat.le_trans h.n h2,h3⟩
   cases hc:L b with
   | none=>rfl
   | some l1=>rw[h.ext b l1 hc] at h1;cases h1
 ali := fun b l hl hn=>by
  cases hc:L' b with
  | some l1 =>
   have hll:l1=l:=by have:=h'.ext b l1 hc;rw[hl] at this;exact(Option.some.inj this).symm
   subst hll
   rcases h.ali b l1 hc hn with h1|⟨a,ha,h2⟩
   ·exact .inl h1
   ·exact .inr ⟨a,List.mem_append_right _ ha,h2⟩
  | none =>
   rcases h'.ali b l hl hc with h1|⟨a,ha,hw,ho,hbg,l0,hl0,hb0,hof⟩
   ·exact .inl (Nat.le_trans h.size h1)
   ·cases hd:L a.b with
    | some l1 =>
     have hll:l1=l0:=by have:=h.ext a.b l1 hd;rw[hl0] at this;exact(Option.some.inj this).symm
     subst hll
     exact .inr ⟨a,List.mem_append_left _ ha,hw,ho,hbg,l1,hd,hb0,hof⟩
    | none =>
     rcases h.ali a.b l0 hl0 hd with h3|⟨a',ha',hw',ho',hbg',l1,hl1,hb1,hof1⟩
     ·exact .inl (hb0▸h3)
     ·exact .inr ⟨a',List.mem_append_right _ ha',hw',ho',hbg',l1,hl1,hb1.trans hb0,Nat.le_trans hof1 hof⟩
 size:=Nat.le_trans h.size h'.size
 os:=h'.os.trans h.os
 out:=h'.out.trans h.out
 tape:=h'.tape.trans h.tape
 cells:=fun r c e fz hr=>by
  obtain⟨c1,hr1,hs1,hk1⟩:=h.cells r c e fz hr
  obtain⟨c2,hr2,hs2,hk2⟩:=h'.cells r c1 e fz hr1
  refine⟨c2,hr2,hs2.trans hs1,fun k hk=>?_⟩
  rw[hk2 k ?_,hk1 k (fun hw=>hk (by obtain⟨a,ha,q⟩:=hw;exact⟨a,List.mem_append_right _ ha,q⟩))]
  rintro⟨a,ha,hw,l,hl,hlb,h1,h2⟩
  have hrlt:r<w.heap.size:=by
   rcases Nat.lt_or_ge r w.heap.size with q|q
   ·exact q
   ·rw[Array.getElem?_eq_none q] at hr;cases hr
  cases hd:L a.b with
  | some l1 =>
   have hll:l1=l:=by have:=h.ext a.b l1 hd;rw[hl] at this;exact(Option.some.inj this).symm
   subst hll
   exact hk ⟨a,List.mem_append_left _ ha,hw,l1,hd,hlb,h1,h2⟩
  | none =>
   rcases h.ali a.b l hl hd with h3|⟨a',ha',hw',ho',hbg',l1,hl1,hb1,hof1⟩
   ·omega
   ·exact hk ⟨a',List.mem_append_right _ ha',hw',l1,hl1,hb1.trans hlb,by omega,.inl hbg'⟩
 objs:=fun r o hr hno hk=>by
  have hrlt:r<w.heap.size:=by
   rcases Nat.lt_or_ge r w.heap.size with q|q
   ·exact q
   ·rw[Array.getElem?_eq_none q] at hr;cases hr
  have h1:=h.objs r o hr hno (fun hw=>hk (by obtain⟨a,ha,q⟩:=hw;exact⟨a,List.mem_append_right _ ha,q⟩))
  refine h'.objs r o h1 hno ?_
  rintro⟨a,ha,hw,hz,l,hl,hlb⟩
  cases hd:L a.b with
  | some l1 =>
   have hll:l1=l:=by have:=h.ext a.b l1 hd;rw[hl] at this;exact(Option.some.inj this).symm
   subst hll
   exact hk ⟨a,List.mem_append_left _ ha,hw,hz,l1,hd,hlb⟩
  | none =>
   rcases h.ali a.b l hl hd with h3|⟨a',ha',hw',ho',hbg',l1,hl1,hb1,hof1⟩
   ·omega
   ·exact hk ⟨a',List.mem_append_right _ ha',hw',⟨ho',.inl hbg'⟩,l1,hl1,hb1.trans hlb⟩
theorem Step.drew {L L':Map} {s s':St} {w w':World} {d:List Acc} (h:Step L s w d L' s' w') (k:Nat):Step L s w d L' s' { w' with drawn:=k } :=
 ⟨h.lg,h.n,h.ext,h.dom,h.ali,h.size,h.os,h.out,h.tape,h.cells,h.objs⟩
theorem Step.ofDrew {L L':Map} {s s':St} {w w':World} {d:List Acc} (k:Nat) (h:Step L s { w with drawn:=k } d L' s' w'):Step L s w d L' s' w' :=
 ⟨h.lg,h.n,h.ext,h.dom,h.ali,h.size,h.os,h.out,h.tape,h.cells,h.objs⟩
theorem HRel.drew {K:Known} {L:Map} {lk:Look} {w:World} (h:HRel K L lk w) (k:Nat):HRel K L lk { w with drawn:=k } :=
 ⟨fun b x y hb hk=>by obtain⟨l,hl,hr⟩:=h.rel b x y hb hk;exact⟨l,hl,by cases y<;>exact hr⟩,h.inj,h.old⟩
def Map.put (L:Map) (n:Nat) (l:Loc):Map:=fun b=>if b=n then some l else L b
theorem Map.put_same (L:Map) (n:Nat) (l:Loc):L.put n l n=some l:=by simp[Map.put]
theorem Map.put_ne (L:Map) {n b:Nat} (l:Loc) (h:b≠n):L.put n l b=L b:=by simp[Map.put,h]
theorem Map.le_put (L:Map) {n:Nat} (l:Loc) (h:L n=none):L.le (L.put n l):=fun b x hb=>by
 have hne:b≠n:=by rintro rfl;rw[h] at hb;cases hb
 rw[Map.put_ne L l hne];exact hb
theorem entRel.mono {L L':Map} (h:L.le L') {e:AEntry} {x:MapEntry} (r:entRel L e x):entRel L' e x:=⟨toV_mono h _ _ r.1,toV_mono h _ _ r.2.1,r.2.2⟩
theorem entsRel.mono {L L':Map} (h:L.le L'):∀ {l:List AEntry} {x:List MapEntry},entsRel L l x→entsRel L' l x
 | [],[],_=>trivial
 | _::_,_::_,q=>⟨q.1.mono h,entsRel.mono h q.2⟩
 | [],_::_,q=>q.elim
 | _::_,[],q=>q.elim
theorem oRel.mono {L L':Map} (h:L.le L') {x:Blk} {o:Obj} (r:oRel L x o):oRel L' x o:=by
 cases x with
 | cells e l=>exact r.elim
 | map l c =>
  cases o<;>first|exact r.elim|exact⟨r.1,r.2.mono h⟩
 | striter s p=>cases o<;>first|exact r.elim|exact r
 | mapiter m s seen st =>
  cases m with
  | none =>
   cases o with
   | mapIter m' a b c=>cases m'<;>first|exact r.elim|exact r
   | _=>exact r.elim
  | some b =>
   cases o with
   | mapIter m' a b c =>
    cases m' with
    | none=>exact r.elim
    | some q=>obtain⟨⟨l,hl,hb⟩,h2⟩:=r;exact⟨⟨l,h _ _ hl,hb⟩,h2⟩
   | _=>exact r.elim
theorem kRel.mono {L L':Map} (h:L.le L') {k:Nat} {x:Info} {l:Loc} {w:World} (r:kRel L k x l w):kRel L' k x l w:=by
 cases x with
 | cell e n v=>obtain⟨c,fz,h1,h2,h3,h4,v',h5,h6⟩:=r;exact⟨c,fz,h1,h2,h3,h4,v',toV_mono h _ _ h5,h6⟩
 | obj x=>obtain⟨h1,o,h2,h3⟩:=r;exact⟨h1,o,h2,h3.mono h⟩
theorem get_lt {w:World} {r:Nat} {o:Obj} (h:w.heap[r]?=some o):r<w.heap.size:=by
 rcases Nat.lt_or_ge r w.heap.size with q|q
 ·exact q
 ·rw[Array.getElem?_eq_none q] at h;cases h
theorem oRel.notCells {L:Map} {x:Blk} {o:Obj} (r:oRel L x o):∀ c e fz,o≠Obj.cells c e fz:=by
 rintro c e fz rfl
 cases x with
 | cells e l=>exact r.elim
 | map l c=>exact r.elim
 | striter s p=>exact r.elim
 | mapiter m s seen st=>cases m<;>exact r.elim
theorem new_look (s:St) (x:Blk) (b k:Nat) (y:Info) (h:look (s.new x).h.get b k=some y):(b=s.n∧look (fun _=>some x) b k=some y)∨(b≠s.n∧look s.h.get b k=some y):=by
 obtain⟨z,hz⟩:=look_some h
 rcases Tr.get_set _ _ _ _ _ hz with ⟨rfl,h2⟩|⟨hne,h2⟩
 ·cases h2
  exact .inl ⟨rfl,by rw[← h];exact look_congr (by exact hz.symm) k⟩
 ·exact .inr ⟨hne,by rw[← h];exact look_congr (h2.trans hz.symm) k⟩
theorem new_ok {K:Known} {L:Map} {s:St} {w:World} (hH:HRel K L (look s.h.get) w) (hn:L s.n=none) (x:Blk) (o:Obj) (cc:Nat)
  (hx:∀ k y,look (fun _=>some x) s.n k=some y→kRel (L.put s.n ⟨w.heap.size,0,cc⟩) k y ⟨w.heap.size,0,cc⟩ { w with heap:=w.heap.push o }) :
  Step L s w [] (L.put s.n ⟨w.heap.size,0,cc⟩) (s.new x) { w with heap:=w.heap.push o } ∧
  HRel K (L.put s.n ⟨w.heap.size,0,cc⟩) (look (s.new x).h.get) { w with heap:=w.heap.push o }:=by
 have hle:=Map.le_put L (⟨w.heap.size,0,cc⟩:Loc) hn
 have hpush:∀ r q,w.heap[r]?=some q→(w.heap.push o)[r]?=some q:=fun r q h=>by
  have hlt:=get_lt (w:=w) h
  rw[Array.getElem?_push,if_neg (by omega)];exact h
 have hA:∀ b k y l,look (s.new x).h.get b k=some y→L.put s.n ⟨w.heap.size,0,cc⟩ b=some l→(b=s.n∧l.blk=w.heap.size)∨(b≠s.n∧look s.h.get b k=some y∧L b=some l∧l.blk<w.heap.size):=fun b k y l hb hl=>by
  rcases new_look s x b k y hb with ⟨rfl,_⟩|⟨hne,h2⟩
  ·rw[Map.put_same] at hl;cases hl;exact .inl ⟨rfl,rfl⟩
  ·rw[Map.put_ne L _ hne] at hl;exact .inr ⟨hne,h2,hl,hH.old _ _ hl⟩
 refine⟨⟨rfl,Nat.le_succ _,hle,fun b l hl=>?_,fun b l hl hb=>?_,by simp,rfl,rfl,rfl,fun r c e fz h=>⟨c,hpush r _ h,rfl,fun _ _=>rfl⟩,fun r q h _ _=>hpush r q h⟩,⟨fun b k y hb hk=>?_,fun b k y b' k' y' l l' hb hk hb' hk' hl hl' hll=>?_,fun b l hl=>?_⟩⟩
 ·by_cases hbn:b=s.n
  ·subst hbn;exact .inr ⟨hn,Nat.le_refl _,Nat.lt_succ_self _⟩
  ·rw[Map.put_ne L _ hbn] at hl;exact .inl hl
 ·by_cases hbn:b=s.n
  ·subst hbn;rw[Map.put_same] at hl;cases hl;exact .inl (Nat.le_refl _)
  ·rw[Map.put_ne L _ hbn] at hl;rw[hb] at hl;cases hl
 ·rcases new_look s x b k y hb with ⟨rfl,h2⟩|⟨hne,h2⟩
  ·exact⟨_,Map.put_same L _ _,hx k y h2⟩
  ·obtain⟨l,hl,hr⟩:=hH.rel b k y h2 hk
   refine⟨l,by rw[Map.put_ne L _ hne];exact hl,?_⟩
   have hr:=hr.mono hle
   cases y with
   | cell e n v=>obtain⟨c,fz,h1,h2⟩:=hr;exact⟨c,fz,hpush _ _ h1,h2⟩
   | obj z=>obtain⟨h1,q,h2,h3⟩:=hr;exact⟨h1,q,hpush _ _ h2,h3⟩
 ·rcases hA b k y l hb hl with ⟨h1,h2⟩|⟨h1,h2,h3,h4⟩<;>rcases hA b' k' y' l' hb' hl' with ⟨k1,k2⟩|⟨k1,k2,k3,k4⟩
  ·rw[h1,k1]
  ·omega
  ·omega
  ·exact hH.inj b k y b' k' y' l l' h2 hk k2 hk' h3 k3 hll
 ·by_cases hbn:b=s.n
  ·subst hbn;rw[Map.put_same] at hl;cases hl;simp
  ·rw[Map.put_ne L _ hbn] at hl;have:=hH.old _ _ hl;simp;omega
end Go.Ev

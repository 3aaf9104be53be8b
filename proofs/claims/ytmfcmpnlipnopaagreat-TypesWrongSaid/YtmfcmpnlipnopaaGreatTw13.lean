/- Parts of this proof, one behind the other: EvM, EvN. -/
import Derived.Test.YtmfcmpnlipnopaaGreatTw12
set_option maxRecDepth 1000000
set_option maxHeartbeats 40000000
namespace Go.Ev
variable {P:Program}
structure Core (L:Map) (w:World) (d:List Acc) (L':Map) (w':World):Prop where
 ext:L.le L'
 ali:∀ b l,L' b=some l→L b=none→w.heap.size≤l.blk∨∃ a,a∈d∧a.w=true∧a.o=0∧a.n=big∧∃ l0,L a.b=some l0∧l0.blk=l.blk∧l0.off≤l.off
 size:w.heap.size≤w'.heap.size
 os:w'.os=w.os
 out:w'.output=w.output
 tape:w'.tape=w.tape
 cells:∀ r c e fz,w.heap[r]?=some (Obj.cells c e fz)→∃ c',w'.heap[r]?=some (Obj.cells c' e fz)∧c'.size=c.size∧∀ k,¬ Wr L d r k→c'[k]?=c[k]?
 objs:∀ r o,w.heap[r]?=some o→(∀ c e fz,o≠Obj.cells c e fz)→¬ WrB L d r→w'.heap[r]?=some o
theorem Step.core {L L':Map} {s s':St} {w w':World} {d:List Acc} (h:Step L s w d L' s' w'):Core L w d L' w':=⟨h.ext,h.ali,h.size,h.os,h.out,h.tape,h.cells,h.objs⟩
theorem Core.refl (L:Map) (w:World):Core L w [] L w:=(Step.refl L ⟨.nil,0,[]⟩ w).core
theorem Core.trans {L L' L'':Map} {w w' w'':World} {d d':List Acc} (h:Core L w d L' w') (h':Core L' w' d' L'' w''):Core L w (d'++d) L'' w'' where
 ext:=h.ext.trans h'.ext
 ali := fun b l hl hn=>by
  cases hc:L' b with
  | some l1 =>
   have hll:l1=l:=by have:=h'.ext b l1 hc;rw[hl] at this;exact(Option.some.inj this).symm
   subst hll
   rcases h.ali b l1 hc hn with h1|⟨a,ha,h2⟩
   ·exact .inl h1
   ·exact .inr ⟨a,List.mem_append_right _ ha,h2⟩
  | none =>
   rcases h'.ali b l hl hc with h1|⟨a,ha,hw,ho,hbg,l0,hl0,hb0,hof⟩
   ·exact .inl (Nat.le_trans h.size h1)
   ·cases hd:L a.b with
    | some l1 =>
     have hll:l1=l0:=by have:=h.ext a.b l1 hd;rw[hl0] at this;exact(Option.some.inj this).symm
     subst hll
     exact .inr ⟨a,List.mem_append_left _ ha,hw,ho,hbg,l1,hd,hb0,hof⟩
    | none =>
     rcases h.ali a.b l0 hl0 hd with h3|⟨a',ha',hw',ho',hbg',l1,hl1,hb1,hof1⟩
     ·exact .inl (hb0▸h3)
     ·exact .inr ⟨a',List.mem_append_right _ ha',hw',ho',hbg',l1,hl1,hb1.trans hb0,Nat.le_trans hof1 hof⟩
 size:=Nat.le_trans h.size h'.size
 os:=h'.os.trans h.os
 out:=h'.out.trans h.out
 tape:=h'.tape.trans h.tape
 cells:=fun r c e fz hr=>by
  obtain⟨c1,hr1,hs1,hk1⟩:=h.cells r c e fz hr
  obtain⟨c2,hr2,hs2,hk2⟩:=h'.cells r c1 e fz hr1
  refine⟨c2,hr2,hs2.trans hs1,fun k hk=>?_⟩
  rw[hk2 k ?_,hk1 k (fun hw=>hk (by obtain⟨a,ha,q⟩:=hw;exact⟨a,List.mem_append_right _ ha,q⟩))]
  rintro⟨a,ha,hw,l,hl,hlb,h1,h2⟩
  have hrlt:=get_lt hr
  cases hd:L a.b with
  | some l1 =>
   have hll:l1=l:=by have:=h.ext a.b l1 hd;rw[hl] at this;exact(Option.some.inj this).symm
   subst hll
   exact hk ⟨a,List.mem_append_left _ ha,hw,l1,hd,hlb,h1,h2⟩
  | none =>
   rcases h.ali a.b l hl hd with h3|⟨a',ha',hw',ho',hbg',l1,hl1,hb1,hof1⟩
   ·omega
   ·exact hk ⟨a',List.mem_append_right _ ha',hw',l1,hl1,hb1.trans hlb,by omega,.inl hbg'⟩
 objs:=fun r o hr hno hk=>by
  have hrlt:=get_lt hr
  have h1:=h.objs r o hr hno (fun hw=>hk (by obtain⟨a,ha,q⟩:=hw;exact⟨a,List.mem_append_right _ ha,q⟩))
  refine h'.objs r o h1 hno ?_
  rintro⟨a,ha,hw,hz,l,hl,hlb⟩
  cases hd:L a.b with
  | some l1 =>
   have hll:l1=l:=by have:=h.ext a.b l1 hd;rw[hl] at this;exact(Option.some.inj this).symm
   subst hll
   exact hk ⟨a,List.mem_append_left _ ha,hw,hz,l1,hd,hlb⟩
  | none =>
   rcases h.ali a.b l hl hd with h3|⟨a',ha',hw',ho',hbg',l1,hl1,hb1,hof1⟩
   ·omega
   ·exact hk ⟨a',List.mem_append_right _ ha',hw',⟨ho',.inl hbg'⟩,l1,hl1,hb1.trans hlb⟩
theorem Core.weaken {L L':Map} {w w':World} {d d':List Acc} (h:Core L w d L' w') (hd:∀ x,x∈d→x∈d'):Core L w d' L' w' where
 ext:=h.ext
 ali:=fun b l hl hn=>by
  rcases h.ali b l hl hn with h1|⟨a,ha,q⟩
  ·exact .inl h1
  ·exact .inr ⟨a,hd a ha,q⟩
 size:=h.size
 os:=h.os
 out:=h.out
 tape:=h.tape
 cells:=fun r c e fz hr=>by
  obtain⟨c',h1,h2,h3⟩:=h.cells r c e fz hr
  exact⟨c',h1,h2,fun k hk=>h3 k (fun hw=>hk (by obtain⟨a,ha,q⟩:=hw;exact⟨a,hd a ha,q⟩))⟩
 objs:=fun r o hr hno hk=>h.objs r o hr hno (fun hw=>hk (by obtain⟨a,ha,q⟩:=hw;exact⟨a,hd a ha,q⟩))
theorem Core.ofDrew {L L':Map} {w w':World} {d:List Acc} (k:Nat) (h:Core L { w with drawn:=k } d L' w'):Core L w d L' w' :=
 ⟨h.ext,h.ali,h.size,h.os,h.out,h.tape,h.cells,h.objs⟩
/-! which operations stand ahead of which -/
def maskE (acc:List Nat):List Edge→Nat
 | []=>0
 | e::l=>match Region.binds .any e with
  | true=>(2 ^ e.on ||| acc.getD e.on 0) ||| maskE acc l
  | false=>maskE acc l
def befs:List Oper→List Nat→List Nat
 | [],acc=>acc
 | o::l,acc=>befs l (acc++[maskE acc o.after.toList])
def bef (ops:Array Oper):List Nat:=befs ops.toList []
def Ahead (ops:Array Oper) (i k:Nat):Prop:=Nat.testBit ((bef ops).getD i 0) k=true
theorem maskE_bit {acc:List Nat}:∀ (l:List Edge) (k:Nat),Nat.testBit (maskE acc l) k=true→∃ e,e∈l∧Region.binds .any e=true∧(k=e.on∨Nat.testBit (acc.getD e.on 0) k=true)
 | [],k,h=>by simp[maskE] at h
 | e::l,k,h=>by
  simp only[maskE] at h
  split at h
  ·rename_i hb
   rw[Nat.testBit_or,Nat.testBit_or] at h
   simp only[Bool.or_eq_true] at h
   rcases h with (h|h)|h
   ·rw[Nat.testBit_two_pow] at h
    exact⟨e,List.mem_cons_self,hb,.inl (by simpa using h.symm:e.on=k).symm⟩
   ·exact⟨e,List.mem_cons_self,hb,.inr h⟩
   ·obtain⟨e',h1,h2⟩:=maskE_bit l k h
    exact⟨e',List.mem_cons_of_mem _ h1,h2⟩
  ·obtain⟨e',h1,h2⟩:=maskE_bit l k h
   exact⟨e',List.mem_cons_of_mem _ h1,h2⟩
theorem befs_spec:∀ (l:List Oper) (acc:List Nat),(befs l acc).length=acc.length+l.length∧(∀ i,i<acc.length→(befs l acc).getD i 0=acc.getD i 0) ∧
  ∀ j o,l[j]?=some o→(befs l acc).getD (acc.length+j) 0=maskE ((befs l acc).take (acc.length+j)) o.after.toList
 | [],acc=>⟨rfl,fun _ _=>rfl,fun j o h=>by simp at h⟩
 | o :: l,acc=>by
  obtain⟨h1,h2,h3⟩:=befs_spec l (acc++[maskE acc o.after.toList])
  have hlen:(acc++[maskE acc o.after.toList]).length=acc.length+1:=by simp
  simp only[befs]
  refine⟨by rw[h1,hlen];simp;omega,fun i hi=>?_,fun j o' hj=>?_⟩
  ·rw[h2 i (by omega)];simp[List.getD,List.getElem?_append_left hi]
  ·cases j with
   | zero =>
    simp at hj;subst hj
    rw[Nat.add_zero,h2 acc.length (by omega)]
    have e1:(acc++[maskE acc o.after.toList]).getD acc.length 0=maskE acc o.after.toList:=by simp[List.getD]
    rw[e1]
    have e2:(befs l (acc++[maskE acc o.after.toList])).take acc.length=acc:=by
     apply List.ext_getElem?
     intro i
     rw[List.getElem?_take]
     split
     ·rename_i hi
      have:=h2 i (by omega)
      have hlt:i<(befs l (acc++[maskE acc o.after.toList])).length:=by omega
      simp only[List.getD,List.getElem?_eq_getElem hlt,List.getElem?_append_left hi,List.getElem?_eq_getElem hi,Option.getD_some] at this
      rw[List.getElem?_eq_getElem hlt,List.getElem?_eq_getElem hi,this]
     ·rename_i hi;rw[List.getElem?_eq_none (by omega)]
    rw[e2]
   | succ j =>
    have:=h3 j o' (by simpa using hj)
    rw[hlen] at this
    rw[show acc.length+(j+1)=acc.length+1+j by omega];exact this
theorem ahead_spec {ops:Array Oper} {i k:Nat} {o:Oper} (ho:ops[i]?=some o) (h:Ahead ops i k):∃ e,e∈o.after.toList∧Region.binds .any e=true∧(k=e.on∨(e.on<i∧Ahead ops e.on k)):=by
 obtain⟨h1,_,h3⟩:=befs_spec ops.toList []
 have:=h3 i o (by simpa using ho)
 simp only[List.length_nil,Nat.zero_add] at this
 unfold Ahead bef at h
 rw[this] at h
 obtain⟨e,he,hb,hk⟩:=maskE_bit _ _ h
 refine⟨e,he,hb,hk.imp id fun hk=>?_⟩
 rcases Nat.lt_or_ge e.on i with hlt|hge
 ·refine⟨hlt,?_⟩
  unfold Ahead bef
  have:((befs ops.toList []).take i).getD e.on 0=(befs ops.toList []).getD e.on 0:=by simp[List.getD,hlt]
  rw[← this];exact hk
 ·have:((befs ops.toList []).take i).getD e.on 0=0:=by
   rw[List.getD,List.getElem?_take,if_neg (by omega)];rfl
  rw[this] at hk;simp at hk
theorem ahead_done {ops:Array Oper} (Dn:Nat→Prop) (hcl:∀ j o,ops[j]?=some o→Dn j→∀ e,e∈o.after.toList→Region.binds .any e=true→Dn e.on) (hin:∀ j,Dn j→∃ o,ops[j]?=some o) :
  ∀ (n i k:Nat) (o:Oper),i<n→ops[i]?=some o→(∀ e,e∈o.after.toList→Region.binds .any e=true→Dn e.on)→Ahead ops i k→Dn k
 | 0,i,k,o,hi,_,_,_=>by omega
 | n+1,i,k,o,hi,ho,he,h=>by
  obtain⟨e,h1,h2,h3⟩:=ahead_spec ho h
  rcases h3 with rfl|⟨h3,h4⟩
  ·exact he e h1 h2
  ·have hd:=he e h1 h2
   obtain⟨o',ho'⟩:=hin _ hd
   exact ahead_done Dn hcl hin n e.on k o' (by omega) ho' (fun e' h5 h6=>hcl e.on o' ho' hd e' h5 h6) h4
/-! the reckoning of a region in its text's order -/
structure Rec where
 i:Nat
 lo:Nat
 hi:Nat
 d:List Acc
def over2 (x y:Acc):Bool:=Nat.beq x.n big||Nat.blt y.o (x.o+x.n)
def clash (x y:Acc):Bool:=(x.w||y.w)&&(Nat.beq x.b y.b&&(over2 x y&&over2 y x))
def quietWith (d e:List Acc):Bool:=d.all fun x=>e.all fun y=>!clash x y
def offRange (d:List Acc) (lo hi:Nat):Bool:=d.all fun x=>Nat.blt x.b lo||Nat.ble hi x.b
def okRec (m:Nat) (d:List Acc) (lo hi:Nat) (r:Rec):Bool:=Nat.testBit m r.i||(quietWith d r.d&&(offRange d r.lo r.hi&&offRange r.d lo hi))
def plainRec (d:List Acc) (lo hi:Nat):Bool:=Nat.beq lo hi&&d.all fun a=>!a.w
def chk (m:Nat) (d:List Acc) (lo hi:Nat) (rsN rsP:List Rec):Bool:=rsN.all (okRec m d lo hi)&&(plainRec d lo hi||rsP.all (okRec m d lo hi))
theorem plain_ok {m:Nat} {d:List Acc} {lo hi:Nat} {r:Rec} (h:plainRec d lo hi=true) (hr:plainRec r.d r.lo r.hi=true):okRec m d lo hi r=true:=by
 unfold plainRec at h hr
 rw[Bool.and_eq_true] at h hr
 have e1:=Nat.eq_of_beq_eq_true h.1
 have e2:=Nat.eq_of_beq_eq_true hr.1
 have off:∀ (l:List Acc) (a b:Nat),a=b→offRange l a b=true:=fun l a b hab=>by
  subst hab
  refine List.all_eq_true.2 (fun x _=>?_)
  rcases Nat.lt_or_ge x.b a with q|q
  ·have:Nat.blt x.b a=true:=Nat.ble_eq_true_of_le q
   rw[this];rfl
  ·rw[Nat.ble_eq_true_of_le q];simp
 have hq:quietWith d r.d=true:=List.all_eq_true.2 (fun x hx=>List.all_eq_true.2 (fun y hy=>by
  have hx':=List.all_eq_true.1 h.2 x hx
  have hy':=List.all_eq_true.1 hr.2 y hy
  simp only[Bool.not_eq_true'] at hx' hy'
  simp[clash,hx',hy']))
 unfold okRec
 rw[hq,off d r.lo r.hi e2,off r.d lo hi e1];simp
theorem chk_ok {m:Nat} {d:List Acc} {lo hi:Nat} {rsN rsP:List Rec} (hP:∀ r,r∈rsP→plainRec r.d r.lo r.hi=true) (h:chk m d lo hi rsN rsP=true):∀ r,r∈rsN∨r∈rsP→okRec m d lo hi r=true:=fun r hr=>by
 unfold chk at h
 rw[Bool.and_eq_true,Bool.or_eq_true] at h
 rcases hr with hr|hr
 ·exact List.all_eq_true.1 h.1 r hr
 ·rcases h.2 with q|q
  ·exact plain_ok q (hP r hr)
  ·exact List.all_eq_true.1 q r hr
noncomputable def freshAll (h:Tr Blk) (lo:Nat):Nat→Bool
 | 0=>true
 | k+1=>(match h.get (lo+k) with|none=>true|some _=>false)&&freshAll h lo k
def pairOk (ops:Array Oper) (i j:Nat):Bool:=match ops[i]?,ops[j]? with
 | some x,some y=>Nat.testBit ((bef ops).getD j 0) i||x.apart ops y
 | _,_=>false
def apartAll (ops:Array Oper):Bool:=(List.range ops.size).all fun j=>(List.range j).all (fun i=>pairOk ops i j)&&(match ops[j]? with|some o=>o.after.toList.all (fun e=>!Region.binds .any e||Nat.blt e.on j)|none=>false)
noncomputable section
def renv (env:Env) (l:List Tmp):Env:=fun t=>match l.any (Nat.beq t) with|true=>env t|false=>none
def drawnGo (P:Program) (call:CallF) (ops:Array Oper):List Oper→Nat→Env→Tr Blk→Nat→List Rec→List Rec→List Acc→R Env
 | [],_,env,h,n,_,_,lg=>.ok env ⟨h,n,lg⟩
 | o::l,i,env,h,n,rsN,rsP,lg=>match evOper ops o P call (renv env (o.looksAt ops)) ⟨h,n,[]⟩ with
  | .ok v s=>match chk ((bef ops).getD i 0) s.lg n s.n rsN rsP&&(freshAll h n (s.n-n)&&s.lg.all (fun a=>Nat.blt a.b s.n&&(!a.w||Nat.blt 0 a.n))) with
   | true=>(match plainRec s.lg n s.n with
    | true=>drawnGo P call ops l (i+1) (putd o.dst env v) s.h s.n rsN (⟨i,n,s.n,s.lg⟩::rsP) (s.lg++lg)
    | false=>drawnGo P call ops l (i+1) (putd o.dst env v) s.h s.n (⟨i,n,s.n,s.lg⟩::rsN) rsP (s.lg++lg))
   | false=>.fail
  | .fail=>.fail
def drawn:Drawn:=fun P call ops env s=>match P.follows .mixedOrders&&apartAll ops with
 | true=>drawnGo P call ops ops.toList 0 env s.h s.n [] [] s.lg
 | false=>.fail
end
end Go.Ev
namespace Go.Ev
variable {P:Program} {call:CallF} {ops:Array Oper}
structure Trace (P:Program) (call:CallF) (ops:Array Oper) (m:Nat) (E:Nat→Env) (H:Nat→Tr Blk) (N:Nat→Nat) (V:Nat→AV) (D:Nat→List Acc) (i:Nat):Prop where
 op:∀ k o,i≤k→ops[k]?=some o→evOper ops o P call (renv (E k) (o.looksAt ops)) ⟨H k,N k,[]⟩=.ok (V k) ⟨H (k+1),N (k+1),D k⟩
 env:∀ k o,i≤k→ops[k]?=some o→E (k+1)=putd o.dst (E k) (V k)
 fresh:∀ k,i≤k→k<m→freshAll (H k) (N k) (N (k+1)-N k)=true∧(D k).all (fun a=>Nat.blt a.b (N (k+1))&&(!a.w||Nat.blt 0 a.n))=true
 sep:∀ j k,i≤j→j<k→k<m→okRec ((bef ops).getD k 0) (D k) (N k) (N (k+1)) ⟨j,N j,N (j+1),D j⟩=true
theorem Mono.rebase {h:Tr Blk} {n:Nat} {s1:St} (lg:List Acc) (hm:Mono ⟨h,n,[]⟩ s1):Mono ⟨h,n,lg⟩ ⟨s1.h,s1.n,s1.lg++lg⟩:=by
 obtain⟨h1,d,h2,h3,h4⟩:=hm
 have hd:s1.lg=d:=by rw[h2];simp
 exact⟨h1,s1.lg,rfl,by rw[hd];exact h3,by rw[hd];exact h4⟩
theorem go_trace (hc:CallOk P call):∀ (l:List Oper) (i:Nat) (env:Env) (h:Tr Blk) (n:Nat) (rsN rsP:List Rec) (lg:List Acc) (env':Env) (s':St),(∀ j,ops[i+j]?=l[j]?)→(∀ r,r∈rsP→plainRec r.d r.lo r.hi=true)→drawnGo P call ops l i env h n rsN rsP lg=.ok env' s' →
  ∃ E H N V D,E i=env∧H i=h∧N i=n∧Trace P call ops (i+l.length) E H N V D i∧(∀ k,i≤k→k<i+l.length→∀ r,r∈rsN∨r∈rsP→okRec ((bef ops).getD k 0) (D k) (N k) (N (k+1)) r=true) ∧
   env'=E (i+l.length)∧s'.h=H (i+l.length)∧s'.n=N (i+l.length)∧(∃ d,s'.lg=d++lg∧∀ x,x∈d ↔ ∃ k,i≤k∧k<i+l.length∧x∈D k)∧Mono ⟨h,n,lg⟩ s'
 | [],i,env,h,n,rsN,rsP,lg,env',s',hl,_,hg=>by
  simp only[drawnGo] at hg
  cases hg
  refine⟨fun _=>env,fun _=>h,fun _=>n,fun _=>.nili,fun _=>[],rfl,rfl,rfl,⟨fun k o hk ho=>?_,fun k o hk ho=>?_,fun k h1 h2=>by simp at h2;omega,fun j k h1 h2 h3=>by simp at h3;omega⟩,fun k h1 h2=>by simp at h2;omega,rfl,rfl,rfl,⟨[],rfl,fun x=>⟨fun hx=>(by cases hx),fun ⟨k,h1,h2,_⟩=>by simp at h2;omega⟩⟩,Mono.refl _⟩
  ·have:=hl (k-i);rw[show i+(k-i)=k by omega,ho] at this;cases this
  ·have:=hl (k-i);rw[show i+(k-i)=k by omega,ho] at this;cases this
 | o :: l,i,env,h,n,rsN,rsP,lg,env',s',hl,hP,hg=>by
  have hoi:ops[i]?=some o:=by have:=hl 0;simpa using this
  simp only[drawnGo] at hg
  split at hg
  case h_2=>cases hg
  rename_i v s1 hev
  split at hg
  case h_2=>cases hg
  rename_i hok
  simp only[Bool.and_eq_true] at hok
  obtain⟨hrs0,hfr,hbd⟩:=hok
  have hrs:=chk_ok hP hrs0
  have hnew:∃ rsN' rsP':List Rec,(∀ r,r=⟨i,n,s1.n,s1.lg⟩∨r∈rsN∨r∈rsP→r∈rsN'∨r∈rsP')∧(∀ r,r∈rsP'→plainRec r.d r.lo r.hi=true)∧drawnGo P call ops l (i+1) (putd o.dst env v) s1.h s1.n rsN' rsP' (s1.lg++lg)=.ok env' s':=by
   split at hg
   ·rename_i hpl
    refine⟨rsN,_::rsP,fun r hr=>?_,fun r hr=>?_,hg⟩
    ·rcases hr with rfl|hr|hr
     ·exact .inr List.mem_cons_self
     ·exact .inl hr
     ·exact .inr (List.mem_cons_of_mem _ hr)
    ·rcases List.mem_cons.1 hr with rfl|hr
     ·exact hpl
     ·exact hP r hr
   ·refine⟨_::rsN,rsP,fun r hr=>?_,hP,hg⟩
    rcases hr with rfl|hr|hr
    ·exact .inl List.mem_cons_self
    ·exact .inl (List.mem_cons_of_mem _ hr)
    ·exact .inr hr
  clear hg
  obtain⟨rsN',rsP',hmem,hP',hg⟩:=hnew
  obtain⟨m1,_⟩:=evOper_ok oper_ok hc hev
  obtain⟨E,H,N,V,D,e1,e2,e3,tr,hr,f1,f2,f3,⟨d,hd1,hd2⟩,m2⟩:=go_trace hc l (i+1) _ _ _ _ _ _ env' s' (fun j=>by have:=hl (j+1);rw[show i+(j+1)=i+1+j by omega] at this;simpa using this) hP' hg
  have hlen:i+(o::l).length=i+1+l.length:=by simp;omega
  have ne:∀ k,i+1≤k→k≠i:=fun k hk=>by omega
  refine⟨fun k=>if k=i then env else E k,fun k=>if k=i then h else H k,fun k=>if k=i then n else N k,fun k=>if k=i then v else V k,fun k=>if k=i then s1.lg else D k,by simp,by simp,by simp,⟨fun k o' hk ho'=>?_,fun k o' hk ho'=>?_,fun k h1 h2=>?_,fun j k h1 h2 h3=>?_⟩,fun k h1 h2 r hrr=>?_,?_,?_,?_,?_,(m1.rebase lg).trans m2⟩
  ·rcases Nat.lt_or_ge i k with h|h
   ·rw[if_neg (by omega),if_neg (by omega),if_neg (by omega),if_neg (by omega),if_neg (by omega),if_neg (by omega),if_neg (by omega)];exact tr.op k o' h ho'
   ·have:k=i:=by omega
    subst this
    rw[hoi] at ho';cases ho'
    simp only[if_true,Nat.succ_ne_self,if_false,e2,e3]
    exact hev
  ·rcases Nat.lt_or_ge i k with h|h
   ·rw[if_neg (by omega),if_neg (by omega),if_neg (by omega)];exact tr.env k o' h ho'
   ·have:k=i:=by omega
    subst this
    rw[hoi] at ho';cases ho'
    simp only[if_true,Nat.succ_ne_self,if_false,e1]
  ·rcases Nat.lt_or_ge i k with h|h
   ·rw[if_neg (by omega),if_neg (by omega),if_neg (by omega),if_neg (by omega)];exact tr.fresh k h (by omega)
   ·have:k=i:=by omega
    subst this
    simp only[if_true,Nat.succ_ne_self,if_false,e3]
    exact⟨hfr,hbd⟩
  ·rcases Nat.lt_or_ge i j with h|h
   ·rw[if_neg (by omega),if_neg (by omega),if_neg (by omega),if_neg (by omega),if_neg (by omega),if_neg (by omega)];exact tr.sep j k h h2 (by omega)
   ·have:j=i:=by omega
    subst this
    rw[if_neg (by omega),if_neg (by omega),if_neg (by omega),if_pos rfl,if_neg (by omega),if_pos rfl,e3]
    exact hr k (by omega) (by omega) _ (hmem _ (.inl rfl))
  ·rcases Nat.lt_or_ge i k with h|h
   ·simp only[];rw[if_neg (by omega),if_neg (by omega),if_neg (by omega)];exact hr k h (by omega) r (hmem r (.inr hrr))
   ·have:k=i:=by omega
    subst this
    simp only[if_true,Nat.succ_ne_self,if_false,e3]
    exact hrs r hrr
  ·rw[hlen];simp only[];rw[if_neg (by omega)];exact f1
  ·rw[hlen];simp only[];rw[if_neg (by omega)];exact f2
  ·rw[hlen];simp only[];rw[if_neg (by omega)];exact f3
  ·refine⟨d++s1.lg,by rw[hd1,List.append_assoc],fun x=>?_⟩
   rw[List.mem_append,hd2]
   constructor
   ·rintro(⟨k,h1,h2,h3⟩|h3)
    ·exact⟨k,by omega,by omega,by simp only[];rw[if_neg (by omega)];exact h3⟩
    ·exact⟨i,Nat.le_refl _,by omega,by simp only[if_true];exact h3⟩
   ·rintro⟨k,h1,h2,h3⟩
    simp only[] at h3
    by_cases hk:k=i
    ·rw[if_pos hk] at h3;exact .inr h3
    ·rw[if_neg hk] at h3;exact .inl ⟨k,by omega,by omega,h3⟩
def Wk (N:Nat→Nat) (D:Nat→List Acc) (k b c:Nat):Prop:=Wl (D k) b c∨(N k≤b∧b<N (k+1))
open Classical in
noncomputable def lkAt (H:Nat→Tr Blk) (N:Nat→Nat) (D:Nat→List Acc) (Dn:Nat→Bool):Nat→Look
 | 0=>look (H 0).get
 | k+1=>fun b c=>if Dn k=true∧Wk N D k b c then look (H (k+1)).get b c else lkAt H N D Dn k b c
open Classical in
noncomputable def envAt (E0:Env) (ops:Array Oper) (V:Nat→AV) (Dn:Nat→Bool):Nat→Nat→Option AV
 | 0=>fun t=>E0 t
 | k+1=>fun t=>if Dn k=true∧(∃ o,ops[k]?=some o∧o.dst=some t) then some (V k) else envAt E0 ops V Dn k t
section
variable {H:Nat→Tr Blk} {N:Nat→Nat} {D:Nat→List Acc} {V:Nat→AV} {E:Nat→Env} {m:Nat}
theorem lk_same {Dn Dn':Nat→Bool} {b c:Nat}:∀ k,(∀ j,j<k→Wk N D j b c→Dn j=Dn' j)→lkAt H N D Dn k b c=lkAt H N D Dn' k b c
 | 0,_=>rfl
 | k+1,h=>by
  have ih:=lk_same k (fun j hj hw=>h j (by omega) hw)
  simp only[lkAt]
  by_cases hw:Wk N D k b c
  ·have:=h k (by omega) hw
   rw[this,ih]
  ·rw[if_neg (fun q=>hw q.2),if_neg (fun q=>hw q.2),ih]
theorem lk_skip {Dn:Nat→Bool} {b c i:Nat}:∀ k,i≤k→(∀ j,i≤j→j<k→Dn j=true→¬ Wk N D j b c)→lkAt H N D Dn k b c=lkAt H N D Dn i b c
  | 0, hi, _ => by have:i=0:=by omega
                   subst this;rfl
  | k + 1,hi,h=>by
    rcases Nat.lt_or_ge k i with q|q
    · have:i=k+1:=by omega
      subst this;rfl
    · simp only[lkAt]
      rw[if_neg (fun p=>h k q (by omega) p.1 p.2)]
      exact lk_skip k q (fun j h1 h2 h3=>h j h1 (by omega) h3)
theorem env_same {Dn Dn':Nat→Bool} {E0:Env} {t:Nat}:∀ k,(∀ j o,j<k→ops[j]?=some o→o.dst=some t→Dn j=Dn' j)→envAt E0 ops V Dn k t=envAt E0 ops V Dn' k t
 | 0,_=>rfl
 | k+1,h=>by
  have ih:=env_same (E0:=E0) k (fun j o hj ho hd=>h j o (by omega) ho hd)
  simp only[envAt]
  by_cases hw:∃ o,ops[k]?=some o∧o.dst=some t
  ·obtain⟨o,ho,hd⟩:=hw
   have:=h k o (by omega) ho hd
   rw[this,ih]
  ·rw[if_neg (fun q=>hw q.2),if_neg (fun q=>hw q.2),ih]
theorem env_skip {Dn:Nat→Bool} {E0:Env} {t i:Nat}:∀ k,i≤k→(∀ j o,i≤j→j<k→Dn j=true→ops[j]?=some o→o.dst≠some t)→envAt E0 ops V Dn k t=envAt E0 ops V Dn i t
  | 0, hi, _ => by have:i=0:=by omega
                   subst this;rfl
  | k + 1,hi,h=>by
    rcases Nat.lt_or_ge k i with q|q
    · have:i=k+1:=by omega
      subst this;rfl
    · simp only[envAt]
      rw[if_neg (fun p=>by obtain⟨p1,o,p2,p3⟩:=p;exact h k o q (by omega) p1 p2 p3)]
      exact env_skip k q (fun j o h1 h2 h3=>h j o h1 (by omega) h3)
theorem quiet_no {d e:List Acc} {b c:Nat} (h:quietWith d e=true):(Tl d b c→Wl e b c→False)∧(Wl d b c→Tl e b c→False):=by
 have key:∀ x y:Acc,x∈d→y∈e→x.b=b→y.b=b→x.o≤c→y.o≤c→(x.n=big∨c<x.o+x.n)→(y.n=big∨c<y.o+y.n)→(x.w=true∨y.w=true)→False:=fun x y hx hy h1 h2 h3 h4 h5 h6 h7=>by
  have:=List.all_eq_true.1 (List.all_eq_true.1 h x hx) y hy
  have o1:over2 x y=true:=by
   unfold over2
   rcases h5 with q|q
   ·rw[q];simp
   ·have:Nat.blt y.o (x.o+x.n)=true:=Nat.ble_eq_true_of_le (by omega)
    rw[this];simp
  have o2:over2 y x=true:=by
   unfold over2
   rcases h6 with q|q
   ·rw[q];simp
   ·have:Nat.blt x.o (y.o+y.n)=true:=Nat.ble_eq_true_of_le (by omega)
    rw[this];simp
  have hb:Nat.beq x.b y.b=true:=by rw[h1,h2];exact Nat.beq_refl _
  rcases h7 with h7|h7<;>simp[clash,o1,o2,hb,h7] at this
 exact⟨fun ⟨x,hx,h1,h2,h3⟩ ⟨y,hy,hw,k1,k2,k3⟩=>key x y hx hy h1 k1 h2 k2 h3 k3 (.inr hw),fun ⟨x,hx,hw,h1,h2,h3⟩ ⟨y,hy,k1,k2,k3⟩=>key x y hx hy h1 k1 h2 k2 h3 k3 (.inl hw)⟩
theorem off_no {d:List Acc} {lo hi b c:Nat} (h:offRange d lo hi=true) (ht:Tl d b c):¬ (lo≤b∧b<hi):=by
 obtain⟨x,hx,rfl,_⟩:=ht
 have:=List.all_eq_true.1 h x hx
 simp only[Bool.or_eq_true] at this
 rcases this with q|q
 ·have:=blt_lt q;omega
 ·have:=Nat.le_of_ble_eq_true q;omega
theorem sep_no (tr:Trace P call ops m E H N V D 0) {i k b c:Nat} (hik:i<k) (hk:k<m) (hn:¬ Ahead ops k i):(Tl (D k) b c→Wk N D i b c→False)∧(Tl (D i) b c→Wk N D k b c→False)∧(N i≤b∧b<N (i+1)→Wl (D k) b c→False):=by
 have:=tr.sep i k (Nat.zero_le _) hik hk
 unfold okRec at this
 simp only[Bool.or_eq_true,Bool.and_eq_true] at this
 rcases this with q|⟨q1,q2,q3⟩
 ·exact absurd q hn
 ·refine⟨fun h1 h2=>?_,fun h1 h2=>?_,fun h1 h2=>off_no q2 h2.tl h1⟩
  ·rcases h2 with h2|h2
   ·exact(quiet_no q1).1 h1 h2
   ·exact off_no q2 h1 h2
  ·rcases h2 with h2|h2
   ·exact(quiet_no q1).2 h2 h1
   ·exact off_no q3 h1 h2
end
end Go.Ev

/- Parts of this proof, one behind the other: EvU. -/
import Derived.Test.YtmfcmpnlipnopaaGreatTw16
set_option maxRecDepth 1000000
set_option maxHeartbeats 40000000
namespace Go.Ev
variable {P:Program} {call:CallF} {ops:Array Oper} {env env':Env} {s:St}
/-! an operation looks at its operands alone -/
theorem opds_congr:∀ {l:List Operand},(∀ x∈l,opd x env=opd x env')→opds env l=opds env' l
 | [],_=>rfl
 | x::l,h=>by
  simp only[opds]
  rw[h x List.mem_cons_self,opds_congr (l:=l) fun y hy=>h y (List.mem_cons_of_mem _ hy)]
theorem onat_congr {d:Nat} {x:Option Operand} (h:∀ y,x=some y→opd y env=opd y env'):onat env d x=onat env' d x:=by
 cases x with
 | none=>rfl
 | some y=>simp only[onat];rw[h y rfl]
theorem sbounds_congr {len cap:Nat} {lo hi mx:Option Operand} (h1:∀ y,lo=some y→opd y env=opd y env') (h2:∀ y,hi=some y→opd y env=opd y env') (h3:∀ y,mx=some y→opd y env=opd y env'):sbounds env len cap lo hi mx=sbounds env' len cap lo hi mx:=by
 unfold sbounds
 rw[onat_congr h1,onat_congr h2,onat_congr h3]
theorem evOp_congr (op:Op) (h:∀ x∈op.operands,opd x env=opd x env'):evOp op P call env s=evOp op P call env' s:=by
 have pairs:∀ ps:Array (Nat×Operand),(∀ x∈(ps.toList.map (·.2)).toArray,opd x env=opd x env')→opds env (ps.toList.map (·.2))=opds env' (ps.toList.map (·.2)):=fun ps hp=>opds_congr fun x hx=>hp x (by simpa using hx)
 cases op with
 | move x=>show eMove x P call env s=eMove x P call env' s;unfold eMove;rw[h x (by simp[Op.operands])]
 | assign x=>show eMove x P call env s=eMove x P call env' s;unfold eMove;rw[h x (by simp[Op.operands])]
 | pick c a b=>show ePick c a b P call env s=ePick c a b P call env' s;unfold ePick;rw[h c (by simp[Op.operands]),h a (by simp[Op.operands]),h b (by simp[Op.operands])]
 | box t x=>show eBox t x P call env s=eBox t x P call env' s;unfold eBox;rw[h x (by simp[Op.operands])]
 | build t ps=>show eBuild t ps P call env s=eBuild t ps P call env' s;unfold eBuild;rw[pairs ps h]
 | buildSlice t l ps=>show eBuildSlice t l ps P call env s=eBuildSlice t l ps P call env' s;unfold eBuildSlice;rw[pairs ps h]
 | insert t m k x=>show eMapUpdate t m k x P call env s=eMapUpdate t m k x P call env' s;unfold eMapUpdate;rw[h m (by simp[Op.operands]),h k (by simp[Op.operands]),h x (by simp[Op.operands])]
 | load t x=>show eLoad t x P call env s=eLoad t x P call env' s;unfold eLoad;rw[h x (by simp[Op.operands])]
 | store t a x=>show eStore t a x P call env s=eStore t a x P call env' s;unfold eStore;rw[h a (by simp[Op.operands]),h x (by simp[Op.operands])]
 | nilCheck x=>show eNilCheck x P call env s=eNilCheck x P call env' s;unfold eNilCheck;rw[h x (by simp[Op.operands])]
 | binOp op t x y u =>
  show eBinOp op t x y u P call env s=eBinOp op t x y u P call env' s
  unfold eBinOp
  rw[h x (by simp[Op.operands]),h y (by simp[Op.operands])]
 | unOp op t x=>show eUnOp op t x P call env s=eUnOp op t x P call env' s;unfold eUnOp;rw[h x (by simp[Op.operands])]
 | convert a b x=>show eConvert a b x P call env s=eConvert a b x P call env' s;unfold eConvert;rw[h x (by simp[Op.operands])]
 | makeInterface t x=>show eMakeI t x P call env s=eMakeI t x P call env' s;unfold eMakeI;rw[h x (by simp[Op.operands])]
 | makeFunc f a b =>
  show eMakeF f a b P call env s=eMakeF f a b P call env' s
  unfold eMakeF
  rw[opds_congr (l:=a.toList) fun x hx=>h x (by simp only[Op.operands,Array.mem_append];exact .inl (by simpa using hx)),opds_congr (l:=b.toList) fun x hx=>h x (by simp only[Op.operands,Array.mem_append];exact .inr (by simpa using hx))]
 | makeSlice t l c=>show eMakeSlice t l c P call env s=eMakeSlice t l c P call env' s;unfold eMakeSlice;rw[h l (by simp[Op.operands]),h c (by simp[Op.operands])]
 | slice t x lo hi mx =>
  show eSlice t x lo hi mx P call env s=eSlice t x lo hi mx P call env' s
  have h1:∀ y,lo=some y→opd y env=opd y env':=fun y hy=>h y (by simp[Op.operands,hy])
  have h2:∀ y,hi=some y→opd y env=opd y env':=fun y hy=>h y (by simp[Op.operands,hy])
  have h3:∀ y,mx=some y→opd y env=opd y env':=fun y hy=>h y (by simp[Op.operands,hy])
  have hb:∀ len cap,sbounds env len cap lo hi mx=sbounds env' len cap lo hi mx:=fun len cap=>sbounds_congr h1 h2 h3
  have hb0:∀ len cap,sbounds env len cap lo hi none=sbounds env' len cap lo hi none:=fun len cap=>sbounds_congr h1 h2 fun y hy=>by cases hy
  unfold eSlice
  simp only[h x (by simp[Op.operands]),hb,hb0]
 | fieldAddr t x i=>show eFieldAddr t x i P call env s=eFieldAddr t x i P call env' s;unfold eFieldAddr;rw[h x (by simp[Op.operands])]
 | field t x i=>show eField t x i P call env s=eField t x i P call env' s;unfold eField;rw[h x (by simp[Op.operands])]
 | indexAddr t x i=>show eIndexAddr t x i P call env s=eIndexAddr t x i P call env' s;unfold eIndexAddr;rw[h x (by simp[Op.operands]),h i (by simp[Op.operands])]
 | index t x i=>show eIndex t x i P call env s=eIndex t x i P call env' s;unfold eIndex;rw[h x (by simp[Op.operands]),h i (by simp[Op.operands])]
 | lookup t x k b=>show eLookup t x k b P call env s=eLookup t x k b P call env' s;unfold eLookup;rw[h x (by simp[Op.operands]),h k (by simp[Op.operands])]
 | mapUpdate t m k x=>show eMapUpdate t m k x P call env s=eMapUpdate t m k x P call env' s;unfold eMapUpdate;rw[h m (by simp[Op.operands]),h k (by simp[Op.operands]),h x (by simp[Op.operands])]
 | mapEntry t m k=>show eMapEntry t m k P call env s=eMapEntry t m k P call env' s;unfold eMapEntry;rw[h m (by simp[Op.operands]),h k (by simp[Op.operands])]
 | entryStore t m k x=>show eEntryStore t m k x P call env s=eEntryStore t m k x P call env' s;unfold eEntryStore;rw[h m (by simp[Op.operands]),h k (by simp[Op.operands]),h x (by simp[Op.operands])]
 | range t x=>show eRange t x P call env s=eRange t x P call env' s;unfold eRange;rw[h x (by simp[Op.operands])]
 | next i b=>show eNext i b P call env s=eNext i b P call env' s;unfold eNext;rw[h i (by simp[Op.operands])]
 | entry i=>show eEntry i P call env s=eEntry i P call env' s;unfold eEntry;rw[h i (by simp[Op.operands])]
 | extract x i=>show eExtract x i P call env s=eExtract x i P call env' s;unfold eExtract;rw[h x (by simp[Op.operands])]
 | call c =>
  show eCall c P call env s=eCall c P call env' s
  have ha:opds env c.args.toList=opds env' c.args.toList:=opds_congr fun x hx=>h x (by simp only[Op.operands,Call.operands,Array.mem_append];exact .inr (by simpa using hx))
  unfold eCall
  rw[ha]
  cases hc:c.callee with
  | value f =>
   have hf:opd f env=opd f env':=h f (by simp[Op.operands,Call.operands,hc])
   simp only[hf]
  | _=>rfl
 | _=>rfl
theorem looks_op (o:Oper) (x:Operand) (hx:x∈o.op.operands):opd x (renv env (o.looksAt ops))=opd x env:=by
 cases x with
 | tmp t =>
  show renv env _ t=env t
  unfold renv
  have:(o.looksAt ops).any (Nat.beq t)=true:=List.any_eq_true.2 ⟨t,List.mem_append_left _ (List.mem_filterMap.2 ⟨.tmp t,by simpa using hx,rfl⟩),Nat.beq_refl t⟩
  rw[this]
 | _=>rfl
theorem evOper_looks (o:Oper):evOper ops o P call (renv env (o.looksAt ops)) s=evOper ops o P call env s:=by
 have hop:evOp o.op P call (renv env (o.looksAt ops)) s=evOp o.op P call env s:=evOp_congr o.op fun x hx=>looks_op o x hx
 unfold evOper
 cases hg:o.guard with
 | none=>exact hop
 | some g =>
  have hw:wanted ops (some g) (renv env (o.looksAt ops))=wanted ops (some g) env:=by
   obtain⟨j,want⟩:=g
   simp only[wanted]
   cases hj:ops[j]? with
   | none=>rfl
   | some y =>
    simp only[]
    cases hd:y.dst with
    | none=>rfl
    | some d =>
     simp only[]
     have:renv env (o.looksAt ops) d=env d:=by
      unfold renv
      have:(o.looksAt ops).any (Nat.beq d)=true:=List.any_eq_true.2 ⟨d,List.mem_append_right _ (by rw[hg];simp[hj,hd]),Nat.beq_refl d⟩
      rw[this]
     rw[this]
  simp only[]
  rw[hw,hop]
noncomputable section
def gslot (ops:Array Oper) (j:Nat):Option Tmp:=match ops[j]? with|some o=>o.dst|none=>none
def evOper3 (ops:Array Oper) (o:Oper):Br3:=fun P call e s=>Option.rec (motive:=fun _=>R AV) (evOp3 o.op P call e s)
 (fun g=>onPair g fun j want=>onSome (gslot ops j) (fun d=>onSome (get3 (pth d) e) (fun v=>onBool v (Bool.rec (.ok (.tup []) s) (evOp3 o.op P call e s) want) (Bool.rec (evOp3 o.op P call e s) (.ok (.tup []) s) want) (.ok (.tup []) s)) .fail) .fail) o.guard
theorem evOper3_eq (o:Oper) (e:E3):evOper3 ops o P call e s=evOper ops o P call (ev3 e) s:=by
 unfold evOper3 evOper
 rw[evOp3_eq]
 cases o.guard with
 | none=>rfl
 | some g =>
  obtain⟨j,want⟩:=g
  show onSome (gslot ops j) _ _=_
  simp only[wanted]
  unfold gslot
  rw[onSome_eq]
  cases ops[j]? with
  | none=>rfl
  | some y =>
   simp only[]
   cases y.dst with
   | none=>rfl
   | some d =>
    simp only[]
    show onSome (ev3 e d) _ _=_
    rw[onSome_eq]
    cases ev3 e d with
    | none=>rfl
    | some v=>cases v<;>first|rfl|(rename_i b;cases b<;>cases want<;>rfl)
def putd3 (d:Option Tmp) (e:E3) (v:AV):E3:=Option.rec (motive:=fun _=>E3) e (fun d=>set3 (pth d) e v) d
theorem putd3_eq {d:Option Tmp} {e:E3} {v:AV} (hd:∀ k,d=some k→k<512):ev3 (putd3 d e v)=putd d (ev3 e) v:=by
 cases d with
 | none=>rfl
 | some d=>exact ev3_set e d v (hd d rfl)
def R3.out:R3→R Env
 | .fail=>.fail
 | .ok e s=>.ok (ev3 e) s
def C3.out:C3→C
 | .fail=>.fail
 | .norm e s=>.norm (ev3 e) s
 | .exit i e s=>.exit i (ev3 e) s
 | .ret e s=>.ret (ev3 e) s
def Few (l:List Oper):Prop:=∀ o∈l,∀ d,o.dst=some d→d<512
def evOps3 (P:Program) (call:CallF) (ops:Array Oper) (l:List Oper):E3→St→R3 :=
 List.rec (motive:=fun _=>E3→St→R3) (fun e s=>.ok e s) (fun o _ ih e s=>R.rec (motive:=fun _=>R3) .fail (fun v s=>ih (putd3 o.dst e v) s) (evOper3 ops o P call e s)) l
theorem evOps3_eq:∀ (l:List Oper),Few l→∀ e s,evOps P call ops l (ev3 e) s=(evOps3 P call ops l e s).out
 | [],_,_,_=>rfl
 | o::l,hf,e,s=>by
  rw[evOps_cons,← evOper3_eq]
  have e1:evOps3 P call ops (o::l) e s=R.rec (motive:=fun _=>R3) .fail (fun v s=>evOps3 P call ops l (putd3 o.dst e v) s) (evOper3 ops o P call e s):=rfl
  rw[e1]
  cases evOper3 ops o P call e s with
  | fail=>rfl
  | ok v s1 =>
   show evOps P call ops l (putd o.dst (ev3 e) v) s1=_
   rw[← putd3_eq (hf o List.mem_cons_self)]
   exact evOps3_eq l (fun o ho=>hf o (List.mem_cons_of_mem _ ho)) _ _
/-! a region that draws -/
def none3 (lg:List Acc):Bool:=List.rec true (fun _ _ _=>false) lg
def still (n n':Nat) (lg:List Acc):Bool:=Bool.rec false (Nat.beq n' n) (none3 lg)
def go3 (P:Program) (call:CallF) (ops:Array Oper) (l:List Oper):Nat→E3→Tr Blk→Nat→List Rec→List Rec→List Acc→R3 :=
 List.rec (motive:=fun _=>Nat→E3→Tr Blk→Nat→List Rec→List Rec→List Acc→R3) (fun _ e h n _ _ lg=>.ok e ⟨h,n,lg⟩)
  (fun o _ ih i e h n rsN rsP lg=>R.rec (motive:=fun _=>R3) .fail (fun v s=>onSt s fun h' n' lg' =>
   Bool.rec (motive:=fun _=>R3)
    (Bool.rec (motive:=fun _=>R3) .fail
     (Bool.rec (motive:=fun _=>R3) (ih (Nat.succ i) (putd3 o.dst e v) h' n' (⟨i,n,n',lg'⟩::rsN) rsP (lg'++lg)) (ih (Nat.succ i) (putd3 o.dst e v) h' n' rsN (⟨i,n,n',lg'⟩::rsP) (lg'++lg)) (plainRec lg' n n'))
     (chk ((bef ops).getD i 0) lg' n n' rsN rsP&&(freshAll h n (n'-n)&&lg'.all (fun a=>Nat.blt a.b n'&&(!a.w||Nat.blt 0 a.n)))))
    (ih (Nat.succ i) (putd3 o.dst e v) h' n' rsN rsP lg) (still n n' lg'))
   (evOper3 ops o P call e ⟨h,n,[]⟩)) l
def triv (r:Rec):Prop:=r.d=[]∧r.lo=r.hi
theorem off_same (l:List Acc) (a:Nat):offRange l a a=true:=List.all_eq_true.2 (fun x _=>by
 rcases Nat.lt_or_ge x.b a with q|q
 ·have:Nat.blt x.b a=true:=Nat.ble_eq_true_of_le q
  rw[this];rfl
 ·rw[Nat.ble_eq_true_of_le q];simp)
theorem triv_ok {m:Nat} {d:List Acc} {lo hi:Nat} {r:Rec} (h:triv r):okRec m d lo hi r=true:=by
 obtain⟨h1,h2⟩:=h
 unfold okRec
 have hq:quietWith d r.d=true:=by rw[h1];exact List.all_eq_true.2 (fun _ _=>rfl)
 rw[hq,h2,off_same,h1]
 simp[offRange]
theorem still_ok {m n:Nat} {r:Rec}:okRec m [] n n r=true:=by
 unfold okRec
 rw[off_same]
 simp[quietWith,offRange]
theorem chk_eq {m:Nat} {d:List Acc} {lo hi:Nat} {rsN rsP rsP':List Rec} (h:∀ r,r∈rsP→r∈rsP'∨triv r) (h':∀ r,r∈rsP'→r∈rsP):chk m d lo hi rsN rsP=chk m d lo hi rsN rsP':=by
 have e:rsP.all (okRec m d lo hi)=rsP'.all (okRec m d lo hi):=by
  rw[Bool.eq_iff_iff,List.all_eq_true,List.all_eq_true]
  exact⟨fun q r hr=>q r (h' r hr),fun q r hr=>(h r hr).elim (q r) triv_ok⟩
 unfold chk
 rw[e]
theorem chk_still {m n:Nat} {rsN rsP:List Rec}:chk m [] n n rsN rsP=true:=by
 unfold chk
 rw[Bool.and_eq_true,Bool.or_eq_true]
 exact⟨List.all_eq_true.2 fun r _=>still_ok,.inr (List.all_eq_true.2 fun r _=>still_ok)⟩
theorem go3_eq:∀ (l:List Oper),Few l→∀ (i:Nat) (e:E3) (h:Tr Blk) (n:Nat) (rsN rsP rsP':List Rec) (lg:List Acc),(∀ r,r∈rsP→r∈rsP'∨triv r)→(∀ r,r∈rsP'→r∈rsP) →
  drawnGo P call ops l i (ev3 e) h n rsN rsP lg=(go3 P call ops l i e h n rsN rsP' lg).out
 | [],_,i,e,h,n,rsN,rsP,rsP',lg,_,_=>rfl
 | o :: l,hf,i,e,h,n,rsN,rsP,rsP',lg,q1,q2=>by
  have ih:=go3_eq l (fun o ho=>hf o (List.mem_cons_of_mem _ ho))
  simp only[drawnGo]
  rw[evOper_looks,← evOper3_eq]
  have e1:go3 P call ops (o::l) i e h n rsN rsP' lg=R.rec (motive:=fun _=>R3) .fail (fun v s=>onSt s fun h' n' lg' =>
   Bool.rec (motive:=fun _=>R3)
    (Bool.rec (motive:=fun _=>R3) .fail
     (Bool.rec (motive:=fun _=>R3) (go3 P call ops l (Nat.succ i) (putd3 o.dst e v) h' n' (⟨i,n,n',lg'⟩::rsN) rsP' (lg'++lg)) (go3 P call ops l (Nat.succ i) (putd3 o.dst e v) h' n' rsN (⟨i,n,n',lg'⟩::rsP') (lg'++lg)) (plainRec lg' n n'))
     (chk ((bef ops).getD i 0) lg' n n' rsN rsP'&&(freshAll h n (n'-n)&&lg'.all (fun a=>Nat.blt a.b n'&&(!a.w||Nat.blt 0 a.n)))))
    (go3 P call ops l (Nat.succ i) (putd3 o.dst e v) h' n' rsN rsP' lg) (still n n' lg'))
   (evOper3 ops o P call e ⟨h,n,[]⟩):=rfl
  rw[e1]
  cases evOper3 ops o P call e ⟨h,n,[]⟩ with
  | fail=>rfl
  | ok v s1 =>
   obtain⟨h',n',lg'⟩:=s1
   simp only[]
   rw[← putd3_eq (hf o List.mem_cons_self)]
   show _=(Bool.rec (motive:=fun _=>R3) _ (go3 P call ops l (Nat.succ i) (putd3 o.dst e v) h' n' rsN rsP' lg) (still n n' lg'):R3).out
   cases hs:still n n' lg' with
   | true =>
    have hlg:lg'=[]:=by cases lg' with|nil=>rfl|cons a b=>cases hs
    subst hlg
    have hn:n'=n:=Nat.eq_of_beq_eq_true (show Nat.beq n' n=true from hs)
    subst hn
    have hpl:plainRec [] n' n'=true:=by unfold plainRec;rw[Nat.beq_refl];rfl
    rw[chk_still,hpl]
    have hfr:freshAll h n' (n'-n')=true:=by rw[Nat.sub_self];rfl
    rw[hfr]
    exact ih _ _ _ _ _ _ _ _ (fun r hr=>by
     rcases List.mem_cons.1 hr with rfl|hr
     ·exact .inr ⟨rfl,rfl⟩
     ·exact q1 r hr) fun r hr=>List.mem_cons_of_mem _ (q2 r hr)
   | false =>
    rw[chk_eq q1 q2]
    show _=(Bool.rec (motive:=fun _=>R3) .fail _ (chk ((bef ops).getD i 0) lg' n n' rsN rsP'&&(freshAll h n (n'-n)&&lg'.all (fun a=>Nat.blt a.b n'&&(!a.w||Nat.blt 0 a.n)))):R3).out
    cases (chk ((bef ops).getD i 0) lg' n n' rsN rsP'&&(freshAll h n (n'-n)&&lg'.all (fun a=>Nat.blt a.b n'&&(!a.w||Nat.blt 0 a.n)))) with
    | false=>rfl
    | true =>
     show _=(Bool.rec (motive:=fun _=>R3) _ _ (plainRec lg' n n'):R3).out
     cases plainRec lg' n n' with
     | true =>
      exact ih _ _ _ _ _ _ _ _ (fun r hr=>by
       rcases List.mem_cons.1 hr with rfl|hr
       ·exact .inl List.mem_cons_self
       ·exact(q1 r hr).imp (List.mem_cons_of_mem _) id) fun r hr=>by
       rcases List.mem_cons.1 hr with rfl|hr
       ·exact List.mem_cons_self
       ·exact List.mem_cons_of_mem _ (q2 r hr)
     | false=>exact ih _ _ _ _ _ _ _ _ q1 q2
abbrev Drawn3:=Program→CallF→Array Oper→E3→St→R3
def drawn3:Drawn3:=fun P call ops e s=>Bool.rec (motive:=fun _=>R3) .fail (onSt s fun h n lg=>go3 P call ops ops.toList 0 e h n [] [] lg) (P.follows .mixedOrders&&apartAll ops)
theorem drawn3_eq (ops:Array Oper) (e:E3) (s:St) (hf:Few ops.toList):drawn P call ops (ev3 e) s=(drawn3 P call ops e s).out:=by
 unfold drawn drawn3
 cases (P.follows .mixedOrders&&apartAll ops) with
 | false=>rfl
 | true =>
  obtain⟨h,n,lg⟩:=s
  exact go3_eq ops.toList hf 0 e h n [] [] [] lg (fun r hr=>by cases hr) (fun r hr=>by cases hr)
/-! code -/
def iter3 (f:E3→St→C3) (n:Nat):E3→St→C3 :=
 Nat.rec (motive:=fun _=>E3→St→C3) (fun _ _=>.fail) (fun _ ih e s=>C3.rec (motive:=fun _=>C3) .fail (fun e s=>ih e s) .exit .ret (f e s)) n
def leave3 (id:Nat) (c:C3):C3:=C3.rec (motive:=fun _=>C3) .fail .norm (fun i e s=>Bool.rec (motive:=fun _=>C3) (.exit i e s) (.norm e s) (Nat.beq i id)) .ret c
def evCode3 (P:Program) (call:CallF) (n:Nat) (c:Code):E3→St→C3 :=
 Code.rec (motive:=fun _=>E3→St→C3)
  (fun e s=>.norm e s)
  (fun _ ops d e s=>R3.rec (motive:=fun _=>C3) .fail (fun e s=>.norm e s) (Bool.rec (motive:=fun _=>R3) (evOps3 P call ops ops.toList e s) (drawn3 P call ops e s) d))
  (fun _ _ a b e s=>C3.rec (motive:=fun _=>C3) .fail (fun e s=>b e s) .exit .ret (a e s))
  (fun c _ _ a b e s=>onSome (opd3 c e) (fun v=>onBool v (a e s) (b e s) .fail) .fail)
  (fun id _ a e s=>leave3 id (a e s))
  (fun _ a e s=>iter3 a n e s)
  (fun _ _ _ _ _ _ _ _=>.fail)
  (fun id e s=>.exit id e s)
  (fun _ a e s=>a e s)
  (fun _ e s=>.norm e s)
  (fun _ _ _=>.fail)
  (fun e s=>.ret e s)
  (fun _ _ _=>.fail) c
theorem iter3_eq {f:Env→St→C} {f3:E3→St→C3} (h:∀ e s,f (ev3 e) s=(f3 e s).out):∀ n e s,iter f n (ev3 e) s=(iter3 f3 n e s).out
 | 0,_,_=>rfl
 | n+1,e,s=>by
  rw[iter_succ,h e s]
  have e1:iter3 f3 (n+1) e s=C3.rec (motive:=fun _=>C3) .fail (fun e s=>iter3 f3 n e s) .exit .ret (f3 e s):=rfl
  rw[e1]
  cases f3 e s with
  | norm e s=>exact iter3_eq h n e s
  | _=>rfl
theorem few_of {id:Nat} {ops:Array Oper} {b:Bool} (h:dsts 512 (.region id ops b)=true):Few ops.toList:=fun o ho d hd=>by
 simp only[dsts] at h
 have:=List.all_eq_true.1 h o ho
 rw[hd] at this
 exact blt_lt this
theorem evCode3_eq (n:Nat):∀ (c:Code),dsts 512 c=true→∀ e s,evCode P call drawn n c (ev3 e) s=(evCode3 P call n c e s).out:=by
 intro c
 induction c with
 | skip=>intro _ e s;rfl
 | label l=>intro _ e s;rfl
 | ret=>intro _ e s;rfl
 | exit id=>intro _ e s;rfl
 | goto l=>intro _ e s;rfl
 | refuse u=>intro _ e s;rfl
 | rangeFunc f ps a b _ _=>intro _ e s;rfl
 | region id ops d =>
  intro hd e s
  have hf:Few ops.toList:=few_of hd
  rw[evCode_region]
  cases d with
  | true =>
   show (match drawn P call ops (ev3 e) s with | .ok env s=>C.norm env s | .fail=>.fail)=(R3.rec (motive:=fun _=>C3) .fail (fun e s=>.norm e s) (drawn3 P call ops e s):C3).out
   rw[drawn3_eq ops e s hf]
   cases drawn3 P call ops e s<;>rfl
  | false =>
   show (match evOps P call ops ops.toList (ev3 e) s with | .ok env s=>C.norm env s | .fail=>.fail)=(R3.rec (motive:=fun _=>C3) .fail (fun e s=>.norm e s) (evOps3 P call ops ops.toList e s):C3).out
   rw[evOps3_eq ops.toList hf]
   cases evOps3 P call ops ops.toList e s<;>rfl
 | seq a b iha ihb =>
  intro hd e s
  simp only[dsts,Bool.and_eq_true] at hd
  rw[evCode_seq,iha hd.1]
  show _=(C3.rec (motive:=fun _=>C3) .fail (fun e s=>evCode3 P call n b e s) .exit .ret (evCode3 P call n a e s):C3).out
  cases evCode3 P call n a e s with
  | norm e s=>exact ihb hd.2 e s
  | _=>rfl
 | cond x a b iha ihb =>
  intro hd e s
  simp only[dsts,Bool.and_eq_true] at hd
  rw[evCode_cond,← opd3_eq]
  show _=(onSome (opd3 x e) (fun v=>onBool v (evCode3 P call n a e s) (evCode3 P call n b e s) .fail) .fail:C3).out
  cases opd3 x e with
  | none=>rfl
  | some v=>cases v<;>first|rfl|(rename_i q;cases q<;>first|exact iha hd.1 e s|exact ihb hd.2 e s)
 | block id a iha =>
  intro hd e s
  rw[evCode_block,iha (by simpa [dsts] using hd)]
  show _=(leave3 id (evCode3 P call n a e s)).out
  cases evCode3 P call n a e s with
  | exit i e s =>
   show (if i=id then C.norm (ev3 e) s else .exit i (ev3 e) s)=(Bool.rec (motive:=fun _=>C3) (.exit i e s) (.norm e s) (Nat.beq i id):C3).out
   rw[beq_dec]
   by_cases h:i=id
   ·simp only[h,decide_true,if_true];rfl
   ·simp only[h,decide_false,if_false];rfl
  | _=>rfl
 | loop a iha =>
  intro hd e s
  rw[evCode_loop]
  exact iter3_eq (iha (by simpa [dsts] using hd)) n e s
 | scope a iha =>
  intro hd e s
  rw[evCode_scope]
  exact iha (by simpa [dsts] using hd) e s
theorem dsts_mono {m m':Nat} (h:m≤m'):∀ c:Code,dsts m c=true→dsts m' c=true:=by
 intro c
 induction c with
 | region id ops d =>
  intro hd
  simp only[dsts] at hd ⊢
  refine List.all_eq_true.2 fun o ho=>?_
  have:=List.all_eq_true.1 hd o ho
  cases hq:o.dst with
  | none=>rfl
  | some k =>
   rw[hq] at this
   exact Nat.ble_eq_true_of_le (Nat.lt_of_lt_of_le (blt_lt this) h)
 | seq a b iha ihb=>intro hd;simp only[dsts,Bool.and_eq_true] at hd ⊢;exact⟨iha hd.1,ihb hd.2⟩
 | cond x a b iha ihb=>intro hd;simp only[dsts,Bool.and_eq_true] at hd ⊢;exact⟨iha hd.1,ihb hd.2⟩
 | block id a iha=>intro hd;simp only[dsts] at hd ⊢;exact iha hd
 | loop a iha=>intro hd;simp only[dsts] at hd ⊢;exact iha hd
 | scope a iha=>intro hd;simp only[dsts] at hd ⊢;exact iha hd
 | rangeFunc f ps a b iha ihb=>intro hd;simp only[dsts,Bool.and_eq_true] at hd ⊢;exact⟨iha hd.1,ihb hd.2⟩
 | _=>intro _;rfl
/-! calls -/
def mkEnv3 (l:List AV):Nat→E3→E3:=List.rec (motive:=fun _=>Nat→E3→E3) (fun _ e=>e) (fun v _ ih i e=>ih (Nat.succ i) (set3 (pth i) e v)) l
theorem mkEnv3_eq:∀ (l:List AV) (i:Nat) (e:E3),i+l.length≤512→ev3 (mkEnv3 l i e)=mkEnv l i (ev3 e)
 | [],_,_,_=>rfl
 | v::l,i,e,h=>by
  simp only[List.length_cons] at h
  show ev3 (mkEnv3 l (i+1) (set3 (pth i) e v))=mkEnv l (i+1) (upd (ev3 e) i v)
  rw[mkEnv3_eq l (i+1) _ (by omega),ev3_set e i v (by omega)]
def resV3 (P:Program) (e:E3) (s:St) (r:ResultVar):R AV:=ResultVar.rec (motive:=fun _=>R AV) (fun t=>R.of s (get3 (pth t) e)) (fun a t=>onSome (get3 (pth a) e) (fun v=>onPtr v (fun b o=>load3 P s t b o) .fail) .fail) r
theorem resV3_eq (P:Program) (e:E3) (s:St) (r:ResultVar):resV3 P e s r=resV P (ev3 e) s r:=by
 cases r with
 | tmp t=>rfl
 | cell a t =>
  show onSome (ev3 e a) _ _=_
  simp only[resV]
  rw[onSome_eq]
  cases ev3 e a with
  | none=>rfl
  | some v=>cases v<;>first|rfl|exact load3_eq _ _ _ _ _
def resVs3 (P:Program) (e:E3) (l:List ResultVar):St→R (List AV) :=
 List.rec (motive:=fun _=>St→R (List AV)) (fun s=>.ok [] s) (fun x _ ih s=>R.rec (motive:=fun _=>R (List AV)) .fail (fun v s=>R.rec (motive:=fun _=>R (List AV)) .fail (fun vs s=>.ok (v::vs) s) (ih s)) (resV3 P e s x)) l
theorem resVs3_eq (P:Program) (e:E3):∀ l s,resVs3 P e l s=resVs P (ev3 e) l s
 | [],_=>rfl
 | x::l,s=>by
  show (R.rec (motive:=fun _=>R (List AV)) .fail (fun v s=>R.rec (motive:=fun _=>R (List AV)) .fail (fun vs s=>.ok (v::vs) s) (resVs3 P e l s)) (resV3 P e s x):R (List AV))=_
  simp only[resVs]
  rw[resV3_eq]
  cases resV P (ev3 e) s x with
  | fail=>rfl
  | ok v s1 =>
   show (R.rec (motive:=fun _=>R (List AV)) .fail (fun vs s=>.ok (v::vs) s) (resVs3 P e l s1):R (List AV))=_
   rw[resVs3_eq P e l s1]
   simp only[]
   cases resVs P (ev3 e) l s1<;>rfl
def end3 (P:Program) (rs:List ResultVar) (c:C3):R AV:=C3.rec (motive:=fun _=>R AV) .fail (fun e s=>resOf (resVs3 P e rs s)) (fun _ _ _=>.fail) (fun e s=>resOf (resVs3 P e rs s)) c
theorem end3_eq (P:Program) (rs:List ResultVar) (c:C3):end3 P rs c=endOf P rs c.out:=by
 cases c with
 | norm e s=>show resOf (resVs3 P e rs s)=resOf (resVs P (ev3 e) rs s);rw[resVs3_eq]
 | ret e s=>show resOf (resVs3 P e rs s)=resOf (resVs P (ev3 e) rs s);rw[resVs3_eq]
 | _=>rfl
def evBody3 (P:Program) (call:CallF) (n:Nat) (args:List AV) (s:St) (f:Option (Code×List ResultVar×Nat)):R AV :=
 onSome f (fun p=>onPair p fun c q=>onPair q fun rs m=>Bool.rec (motive:=fun _=>R AV) .fail (Bool.rec (motive:=fun _=>R AV) (endOf P rs (evCode P call drawn n c (mkEnv args 0 fun _=>none) s)) (end3 P rs (evCode3 P call n c (mkEnv3 args 0 nil3) s)) (Nat.ble m 512)) (Nat.ble args.length m)) .fail
def evCall3 (P:Program) (pr:Prims) (n:Nat) (d:Nat):CallF :=
 Nat.rec (motive:=fun _=>CallF) (fun _ _ _=>.fail)
  (fun _ ih f args s=>Option.rec (motive:=fun _=>R AV) (evBody3 P ih n args s (fnOf P f)) (fun g=>g args s) (pr f)) d
theorem evCall3_eq (P:Program) (pr:Prims) (n:Nat):∀ d,evCall3 P pr n d=evCall P pr drawn n d
 | 0=>rfl
 | d + 1=>by
  funext f args s
  rw[evCall_succ]
  show (Option.rec (motive:=fun _=>R AV) (evBody3 P (evCall3 P pr n d) n args s (fnOf P f)) (fun g=>g args s) (pr f):R AV)=_
  rw[evCall3_eq P pr n d]
  cases pr f with
  | some g=>rfl
  | none =>
   show evBody3 P (evCall P pr drawn n d) n args s (fnOf P f)=_
   unfold evBody3
   cases hf:fnOf P f with
   | none=>rfl
   | some p =>
    obtain⟨c,rs,m⟩:=p
    show (Bool.rec (motive:=fun _=>R AV) .fail (Bool.rec (motive:=fun _=>R AV) _ (end3 P rs (evCode3 P (evCall P pr drawn n d) n c (mkEnv3 args 0 nil3) s)) (Nat.ble m 512)) (Nat.ble args.length m):R AV)=_
    simp only[]
    cases ha:Nat.ble args.length m with
    | false=>rfl
    | true =>
     cases hm:Nat.ble m 512 with
     | false=>rfl
     | true =>
      obtain⟨_,_,_,_,hd,_⟩:=fnOf_spec hf
      have h1:=Nat.le_of_ble_eq_true ha
      have h2:=Nat.le_of_ble_eq_true hm
      show end3 P rs (evCode3 P (evCall P pr drawn n d) n c (mkEnv3 args 0 nil3) s)=endOf P rs (evCode P (evCall P pr drawn n d) drawn n c (mkEnv args 0 fun _=>none) s)
      rw[end3_eq,← evCode3_eq n c (dsts_mono h2 c hd),mkEnv3_eq args 0 nil3 (by omega),ev3_nil]
end
end Go.Ev

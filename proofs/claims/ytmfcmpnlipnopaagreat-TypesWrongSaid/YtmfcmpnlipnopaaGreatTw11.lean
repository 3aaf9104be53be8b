/- Parts of this proof, one behind the other: EvG. -/
import Derived.Test.YtmfcmpnlipnopaaGreatTw9
import Derived.Orders
import Derived.LoopN
import Derived.Scope
set_option maxRecDepth 1000000
set_option maxHeartbeats 40000000
namespace Go.Ev
variable {P:Program}
def Upon (P:Program) (f:FuncId) (args:Array Value) (w:World) (R:Value→World→Prop):Prop :=
 ∀ (o:Oper) (a:Act) (next:Act→World→Prop) (Q:Exit→Act→World→Prop),(∀ v w',R v w'→next (a.put o.dst v) w')→o.upon P a next Q ((callFunc f args).run P w)
def Ends (K:Known) (L:Map) (s:St) (w:World) (x:AV) (s':St):Value→World→Prop:=fun v w'=>∃ d L',toV L' x=some v∧Step L s w d L' s' w'∧HRel K L' (look s'.h.get) w'
def CallOk (P:Program) (call:CallF):Prop:=∀ f args s v s',call f args s=.ok v s'→Mono s s'∧∀ (K:Known) (L:Map) (w:World) (args':List Value),toVs L args=some args'→HRel K L (look s.h.get) w→Cov K s'.lg →
 (∀ b,s.n≤b→b<s'.n→L b=none)→Upon P f ⟨args'⟩ w (Ends K L s w v s')
def BranchOk (P:Program) (o:Oper) (br:Branch):Prop:=∀ (call:CallF) (env:Env) (s:St) (v:AV) (s':St),CallOk P call→br P call env s=.ok v s'→Mono s s'∧(∀ (K:Known) (L:Map) (w:World) (a:Act),Cx K L s w env a s' →
 ∀ (next:Act→World→Prop) (Q:Exit→Act→World→Prop),(∀ v' w',Ends K L s w v s' v' w'→next (a.put o.dst v') w')→o.wp P a w next Q)
theorem BranchOk.of {o:Oper} {br:Branch} (hm:∀ call env s v s',br P call env s=.ok v s'→Mono s s')
  (h:∀ (call:CallF) (env:Env) (s:St) (v:AV) (s':St) (K:Known) (L:Map) (w:World) (a:Act),br P call env s=.ok v s'→Cx K L s w env a s'→Ok K L s w v s' ((execOp a.eval o).run P w)):BranchOk P o br:=by
 intro call env s v s' _ hb
 refine⟨hm call env s v s' hb,fun K L w a c next Q hn=>?_⟩
 obtain⟨d,L',w',v',h1,h2,h3,h4⟩:=h call env s v s' K L w a hb c
 unfold Oper.wp
 rcases h4 with h4|⟨h4,h5⟩
 ·rw[h4,Oper.upon_value];exact hn v' w' ⟨d,L',h1,h2,h3⟩
 ·rw[h4,Oper.upon_skip];subst h5;exact hn undef w' ⟨d,L',h1,h2,h3⟩
/-! code -/
def C.last:C→St
 | .norm _ s=>s
 | .exit _ _ s=>s
 | .ret _ s=>s
 | .fail=>⟨.nil,0,[]⟩
def At (K:Known) (L:Map) (s:St) (w:World) (env':Env) (s':St) (a a':Act) (w':World):Prop :=
 ∃ d L',Step L s w d L' s' w'∧HRel K L' (look s'.h.get) w'∧EnvRel L' env' a'∧a'.tmps.size=a.tmps.size∧a'.defers=a.defers
def Post (K:Known) (L:Map) (s:St) (w:World) (a:Act) (o:C):Exit→Act→World→Prop:=fun e a' w'=>match o with
 | .norm env' s'=>e=.normal∧At K L s w env' s' a a' w'
 | .exit id env' s'=>e=.exit id∧At K L s w env' s' a a' w'
 | .ret env' s'=>e=.ret∧At K L s w env' s' a a' w'
 | .fail=>False
structure Cd (K:Known) (L:Map) (s:St) (w:World) (env:Env) (a:Act) (s':St) (m:Nat):Prop where
 cx:Cx K L s w env a s'
 size:a.tmps.size=m
theorem At.trans {K:Known} {L L1:Map} {s s1 s2:St} {w w1 w2:World} {env2:Env} {a a1 a2:Act} {d:List Acc} (h:Step L s w d L1 s1 w1) (hs:a1.tmps.size=a.tmps.size) (hd:a1.defers=a.defers)
  (h2:At K L1 s1 w1 env2 s2 a1 a2 w2):At K L s w env2 s2 a a2 w2:=by
 obtain⟨d',L',k1,k2,k3,k4,k5⟩:=h2
 exact⟨d'++d,L',h.trans k1,k2,k3,k4.trans hs,k5.trans hd⟩
theorem EnvRel.put {L:Map} {env:Env} {a:Act} (hE:EnvRel L env a) {dst:Option Tmp} {x:AV} {v:Value} (hx:toV L x=some v) (hd:∀ d,dst=some d→d<a.tmps.size):EnvRel L (putd dst env x) (a.put dst v):=by
 cases dst with
 | none=>exact hE
 | some d =>
  intro t y hy
  rcases upd_get hy with ⟨rfl,h2⟩|⟨hne,h2⟩
  ·cases h2
   exact⟨v,by simp[Act.put,hd t rfl],hx⟩
  ·obtain⟨u,h3,h4⟩:=hE t y h2
   exact⟨u,by simp only[Act.put];rw[Array.getElem?_setIfInBounds_ne (fun e=>hne e.symm)];exact h3,h4⟩
theorem EnvRel.mono {L L':Map} (h:L.le L') {env:Env} {a:Act} (hE:EnvRel L env a):EnvRel L' env a:=fun t x hx=>by
 obtain⟨v,h1,h2⟩:=hE t x hx;exact⟨v,h1,toV_mono h _ _ h2⟩
theorem put_size (a:Act) (d:Option Tmp) (v:Value):(a.put d v).tmps.size=a.tmps.size:=by cases d<;>simp[Act.put]
theorem put_defers (a:Act) (d:Option Tmp) (v:Value):(a.put d v).defers=a.defers:=by cases d<;>rfl
theorem Cx.next {K:Known} {L L':Map} {s s1 s2:St} {w w1:World} {env env1:Env} {a a1:Act} {d:List Acc} (c:Cx K L s w env a s2) (h:Step L s w d L' s1 w1) (hH:HRel K L' (look s1.h.get) w1) (hE:EnvRel L' env1 a1) (_:Mono s1 s2):Cx K L' s1 w1 env1 a1 s2 :=
 ⟨hE,hH,c.cov,fun b h1 h2=>by
  cases hb:L' b with
  | none=>rfl
  | some l =>
   rcases h.dom b l hb with h3|⟨_,_,h3⟩
   ·rw[c.fresh b (Nat.le_trans h.n h1) h2] at h3;cases h3
   ·omega⟩
theorem Cx.part {K:Known} {L:Map} {s s1 s2:St} {w:World} {env:Env} {a:Act} (c:Cx K L s w env a s2) (hm:Mono s1 s2):Cx K L s w env a s1 :=
 ⟨c.env,c.heap,by obtain⟨d,h⟩:=Mono.lg hm;have:=c.cov;rw[h] at this;exact this.app,fun b h1 h2=>c.fresh b h1 (Nat.lt_of_lt_of_le h2 hm.1)⟩
section
variable {call:CallF} {dr:Drawn} {n:Nat}
def OperOk (P:Program):Prop:=∀ (o:Oper) (call:CallF) (env:Env) (s:St) (v:AV) (s':St),CallOk P call→evOp o.op P call env s=.ok v s'→Mono s s'∧(∀ (K:Known) (L:Map) (w:World) (a:Act),Cx K L s w env a s' →
 ∀ (next:Act→World→Prop) (Q:Exit→Act→World→Prop),(∀ v' w',Ends K L s w v s' v' w'→next (a.put o.dst v') w')→o.wp P a w next Q)
theorem wanted_ok {L:Map} {env:Env} {a:Act} (hE:EnvRel L env a) {ops:Array Oper} {o:Oper} {b:Bool} (h:wanted ops o.guard env=some b):Region.wanted o (yielded ops a.tmps)=b:=by
 unfold wanted at h
 unfold Region.wanted
 split at h
 ·rename_i hg;cases h;rw[hg]
 ·rename_i j want hg
  rw[hg]
  split at h
  ·rename_i o' ho'
   split at h
   ·rename_i d hd
    split at h
    ·rename_i x hx
     cases h
     obtain⟨v,h1,h2⟩:=hE d _ hx
     rw[toV_bool h2] at h1
     simp[yielded,ho',hd,h1]
    ·rename_i x hnb hx
     cases h
     obtain⟨v,h1,h2⟩:=hE d _ hx
     have:yielded ops a.tmps j=none:=by
      simp only[yielded,ho',Option.bind_some,hd,h1]
      cases x with
      | bool b=>exact(hnb b rfl).elim
      | nilp=>cases h2;rfl
      | int k n=>rw[toV_int h2]
      | str l=>rw[toV_str h2]
      | ptr b o=>obtain⟨_,_,rfl⟩:=toV_ptr h2;rfl
      | nils=>cases h2;rfl
      | sl b o n c=>obtain⟨_,_,rfl⟩:=toV_sl h2;rfl
      | su b o n z=>obtain⟨_,_,_,_,rfl⟩:=toV_su h2;rfl
      | nilm=>cases h2;rfl
      | map b=>obtain⟨_,_,rfl⟩:=toV_map h2;rfl
      | fn f p q=>obtain⟨_,_,_,_,rfl⟩:=toV_fn h2;rfl
      | nilf=>cases h2;rfl
      | iface d u=>obtain⟨_,_,rfl⟩:=toV_iface h2;rfl
      | nili=>cases h2;rfl
      | agg l=>obtain⟨_,_,rfl⟩:=toV_agg h2;rfl
      | tup l=>obtain⟨_,_,rfl⟩:=toV_tup h2;rfl
     show (yielded ops a.tmps j==some want)=false
     rw[this];rfl
    ·cases h
   ·cases h
  ·cases h
theorem evOper_ok (hop:OperOk P) (hc:CallOk P call) {ops:Array Oper} {o:Oper} {env:Env} {s s':St} {v:AV} (h:evOper ops o P call env s=.ok v s'):Mono s s'∧(∀ (K:Known) (L:Map) (w:World) (a:Act),Cx K L s w env a s' →
  ∀ (i:Nat) (next:Act→World→Prop) (Q:Exit→Act→World→Prop),ops[i]?=some o→(∀ v' w',Ends K L s w v s' v' w'→next (a.put o.dst v') w')→wpOp P ops Q i next a w):=by
 unfold evOper at h
 split at h
 ·rename_i hg
  obtain⟨hm,hw⟩:=hop o call env s v s' hc h
  refine⟨hm,fun K L w a c i next Q hi hn=>?_⟩
  have hwt:Region.wanted o (yielded ops a.tmps)=true:=by unfold Region.wanted;rw[hg]
  simp only[wpOp,hi,hwt,if_true]
  exact .inl (hw K L w a c next Q hn)
 ·rename_i g hg
  split at h
  ·rename_i hwd
   obtain⟨hm,hw⟩:=hop o call env s v s' hc h
   refine⟨hm,fun K L w a c i next Q hi hn=>?_⟩
   have hwt:=wanted_ok c.env (by rw[hg];exact hwd:wanted ops o.guard env=some true)
   simp only[wpOp,hi,hwt,if_true]
   exact .inl (hw K L w a c next Q hn)
  ·rename_i hwd
   cases h
   refine⟨Mono.refl s,fun K L w a c i next Q hi hn=>?_⟩
   have hwt:=wanted_ok c.env (by rw[hg];exact hwd:wanted ops o.guard env=some false)
   simp only[wpOp,hi,hwt,Bool.false_eq_true,if_false]
   exact hn undef w ⟨[],L,rfl,Step.refl L s w,c.heap⟩
  ·cases h
theorem evOps_nil {ops:Array Oper} {env:Env} {s:St}:evOps P call ops [] env s=.ok env s:=rfl
theorem evOps_cons {ops:Array Oper} {o:Oper} {l:List Oper} {env:Env} {s:St}:evOps P call ops (o::l) env s=match evOper ops o P call env s with | .ok v s=>evOps P call ops l (putd o.dst env v) s | .fail=>.fail:=by
 have e:evOps P call ops (o::l) env s=R.rec (motive:=fun _=>R Env) .fail (fun v s=>evOps P call ops l (putd o.dst env v) s) (evOper ops o P call env s):=rfl
 rw[e];cases evOper ops o P call env s<;>rfl
theorem evOps_ok (hop:OperOk P) (hc:CallOk P call) {ops:Array Oper}:∀ (l:List Oper) (k:Nat) (env:Env) (s:St) (env':Env) (s':St),(∀ j,(h:j<l.length)→ops[k+j]?=some l[j])→evOps P call ops l env s=.ok env' s' →
  Mono s s'∧(∀ (K:Known) (L:Map) (w:World) (a:Act),Cx K L s w env a s'→(∀ o∈l,∀ d,o.dst=some d→d<a.tmps.size) →
  ∀ (Q:Exit→Act→World→Prop),(∀ a' w',At K L s w env' s' a a' w'→Q .normal a' w')→wpOps P ops Q ((List.range l.length).map (k + ·)) a w)
 | [],k,env,s,env',s',_,h=>by
  rw[evOps_nil] at h;cases h
  refine⟨Mono.refl s,fun K L w a c _ Q hq=>?_⟩
  exact hq a w ⟨[],L,Step.refl L s w,c.heap,c.env,rfl,rfl⟩
 | o::l,k,env,s,env',s',hl,h=>by
  rw[evOps_cons] at h
  split at h
  ·rename_i v s1 h1
   obtain⟨m1,k1⟩:=evOper_ok hop hc h1
   obtain⟨m2,k2⟩:=evOps_ok hop hc l (k+1) _ _ env' s' (fun j hj=>by have:=hl (j+1) (by simpa using hj);simpa [Nat.add_assoc,Nat.add_comm 1 j] using this) h
   refine⟨m1.trans m2,fun K L w a c hd Q hq=>?_⟩
   have hrange:(List.range (o::l).length).map (k + ·)=k::(List.range l.length).map (k+1 + ·):=by
    rw[List.length_cons,List.range_succ_eq_map,List.map_cons,List.map_map]
    simp only[Nat.add_zero,List.cons.injEq,true_and]
    exact List.map_congr_left (fun j _=>by simp;omega)
   rw[hrange,wpOps_cons]
   refine k1 K L w a (c.part m2) k _ Q (hl 0 (Nat.zero_lt_succ _)) ?_
   rintro v' w' ⟨d,L',hv,hs,hH⟩
   refine k2 K L' w' _ (c.next hs hH ((c.env.mono hs.ext).put hv (fun d hd'=>hd o (by simp) d hd')) m2) (fun o' ho' d' hd'=>by rw[put_size];exact hd o' (by simp[ho']) d' hd') Q ?_
   intro a' w2 hat
   exact hq a' w2 (At.trans hs (put_size _ _ _) (put_defers _ _ _) hat)
  ·cases h
def DrawnOk (P:Program) (dr:Drawn):Prop:=∀ (call:CallF) (id:Nat) (ops:Array Oper) (env:Env) (s:St) (env':Env) (s':St),CallOk P call→dr P call ops env s=.ok env' s'→Mono s s'∧(∀ (K:Known) (L:Map) (w:World) (a:Act),Cx K L s w env a s' →
 (∀ o∈ops.toList,∀ d,o.dst=some d→d<a.tmps.size)→∀ (Q:Exit→Act→World→Prop),(∀ a' w',At K L s w env' s' a a' w'→Q .normal a' w')→(Code.region id ops true).wp P Q a w)
theorem evCode_skip {env:Env} {s:St}:evCode P call dr n .skip env s=.norm env s:=rfl
theorem evCode_label {l:Nat} {env:Env} {s:St}:evCode P call dr n (.label l) env s=.norm env s:=rfl
theorem evCode_ret {env:Env} {s:St}:evCode P call dr n .ret env s=.ret env s:=rfl
theorem evCode_exit {id:Nat} {env:Env} {s:St}:evCode P call dr n (.exit id) env s=.exit id env s:=rfl
theorem evCode_scope {x:Code} {env:Env} {s:St}:evCode P call dr n (.scope x) env s=evCode P call dr n x env s:=rfl
theorem evCode_loop {x:Code} {env:Env} {s:St}:evCode P call dr n (.loop x) env s=iter (evCode P call dr n x) n env s:=rfl
theorem evCode_seq {x y:Code} {env:Env} {s:St}:evCode P call dr n (.seq x y) env s=match evCode P call dr n x env s with | .norm env s=>evCode P call dr n y env s|r=>r:=by
 have e:evCode P call dr n (.seq x y) env s=C.rec (motive:=fun _=>C) .fail (fun env s=>evCode P call dr n y env s) .exit .ret (evCode P call dr n x env s):=rfl
 rw[e];cases evCode P call dr n x env s<;>rfl
theorem evCode_cond {x:Operand} {y z:Code} {env:Env} {s:St}:evCode P call dr n (.cond x y z) env s=match opd x env with|some (.bool true)=>evCode P call dr n y env s|some (.bool false)=>evCode P call dr n z env s|_=>.fail:=rfl
theorem evCode_block {id:Nat} {x:Code} {env:Env} {s:St}:evCode P call dr n (.block id x) env s=match evCode P call dr n x env s with | .exit i env s=>if i=id then .norm env s else .exit i env s|r=>r:=by
 have e:evCode P call dr n (.block id x) env s=C.rec (motive:=fun _=>C) .fail .norm (fun i env s=>Bool.rec (motive:=fun _=>C) (.exit i env s) (.norm env s) (Nat.beq i id)) .ret (evCode P call dr n x env s):=rfl
 rw[e]
 cases evCode P call dr n x env s with
 | exit i env s =>
  have e2:(C.rec (motive:=fun _=>C) .fail .norm (fun i env s=>Bool.rec (motive:=fun _=>C) (.exit i env s) (.norm env s) (Nat.beq i id)) .ret (C.exit i env s):C)=Bool.rec (motive:=fun _=>C) (.exit i env s) (.norm env s) (Nat.beq i id):=rfl
  rw[e2]
  by_cases h:i=id
  ·simp[h]
  ·have:Nat.beq i id=false:=by
    cases hb:Nat.beq i id with
    | false=>rfl
    | true=>exact absurd (Nat.eq_of_beq_eq_true hb) h
   simp[h,this]
 | _=>rfl
theorem evCode_region {id:Nat} {ops:Array Oper} {d:Bool} {env:Env} {s:St}:evCode P call dr n (.region id ops d) env s=match (match d with|true=>dr P call ops env s|false=>evOps P call ops ops.toList env s) with | .ok env s=>.norm env s | .fail=>.fail:=by
 cases d
 ·have e:evCode P call dr n (.region id ops false) env s=R.rec (motive:=fun _=>C) .fail (fun env s=>.norm env s) (evOps P call ops ops.toList env s):=rfl
  rw[e];cases evOps P call ops ops.toList env s<;>rfl
 ·have e:evCode P call dr n (.region id ops true) env s=R.rec (motive:=fun _=>C) .fail (fun env s=>.norm env s) (dr P call ops env s):=rfl
  rw[e];cases dr P call ops env s<;>rfl
theorem iter_zero {f:Env→St→C} {env:Env} {s:St}:iter f 0 env s=.fail:=rfl
theorem iter_succ {f:Env→St→C} {m:Nat} {env:Env} {s:St}:iter f (m+1) env s=match f env s with | .norm env s=>iter f m env s|r=>r:=by
 have e:iter f (m+1) env s=C.rec (motive:=fun _=>C) .fail (fun env s=>iter f m env s) .exit .ret (f env s):=rfl
 rw[e];cases f env s<;>rfl
def CodeOk (P:Program) (m:Nat) (c:Code) (f:Env→St→C):Prop:=∀ env s,f env s≠.fail→Mono s (f env s).last∧(∀ (K:Known) (L:Map) (w:World) (a:Act),Cx K L s w env a (f env s).last→a.tmps.size=m →
 ∀ (Q:Exit→Act→World→Prop),(∀ e a' w',Post K L s w a (f env s) e a' w'→Q e a' w')→c.wp P Q a w)
theorem Post.trans {K:Known} {L L1:Map} {s s1:St} {w w1 w2:World} {a a1 a2:Act} {o:C} {e:Exit} {d:List Acc} (h:Step L s w d L1 s1 w1) (hs:a1.tmps.size=a.tmps.size) (hd:a1.defers=a.defers)
  (h2:Post K L1 s1 w1 a1 o e a2 w2):Post K L s w a o e a2 w2:=by
 cases o with
 | fail=>exact h2
 | norm env s'=>exact⟨h2.1,At.trans h hs hd h2.2⟩
 | exit id env s'=>exact⟨h2.1,At.trans h hs hd h2.2⟩
 | ret env s'=>exact⟨h2.1,At.trans h hs hd h2.2⟩
theorem iter_ok {m:Nat} {c:Code} {f:Env→St→C} (hf:CodeOk P m c f):∀ (k:Nat) (env:Env) (s:St),iter f k env s≠.fail→Mono s (iter f k env s).last∧(∀ (K:Known) (L:Map) (w:World) (a:Act),Cx K L s w env a (iter f k env s).last→a.tmps.size=m →
  ∀ (Q:Exit→Act→World→Prop),(∀ e a' w',Post K L s w a (iter f k env s) e a' w'→Q e a' w')→Code.rounds P c Q k a w)
 | 0,env,s,h=>absurd iter_zero h
 | k+1,env,s,h=>by
  rw[iter_succ] at h ⊢
  cases hfe:f env s with
  | fail=>rw[hfe] at h;exact absurd rfl h
  | norm env1 s1 =>
   rw[hfe] at h
   simp only[] at h ⊢
   obtain⟨m1,k1⟩:=hf env s (by rw[hfe];simp)
   rw[hfe] at m1 k1
   obtain⟨m2,k2⟩:=iter_ok hf k env1 s1 h
   refine⟨m1.trans m2,fun K L w a cx hsz Q hq=>?_⟩
   rw[rounds_succ]
   refine k1 K L w a (cx.part m2) hsz _ ?_
   rintro e a' w' ⟨rfl,d,L',q1,q2,q3,q4,q5⟩
   exact k2 K L' w' a' (cx.next q1 q2 q3 m2) (q4.trans hsz) Q (fun e a2 w2 hp=>hq e a2 w2 (Post.trans q1 q4 q5 hp))
  | exit id env1 s1 =>
   simp only[]
   obtain⟨m1,k1⟩:=hf env s (by rw[hfe];simp)
   rw[hfe] at m1 k1
   refine⟨m1,fun K L w a cx hsz Q hq=>?_⟩
   rw[rounds_succ]
   refine k1 K L w a cx hsz _ ?_
   rintro e a' w' ⟨rfl,h2⟩
   exact hq _ a' w' ⟨rfl,h2⟩
  | ret env1 s1 =>
   simp only[]
   obtain⟨m1,k1⟩:=hf env s (by rw[hfe];simp)
   rw[hfe] at m1 k1
   refine⟨m1,fun K L w a cx hsz Q hq=>?_⟩
   rw[rounds_succ]
   refine k1 K L w a cx hsz _ ?_
   rintro e a' w' ⟨rfl,h2⟩
   exact hq _ a' w' ⟨rfl,h2⟩
theorem evCode_ok (hop:OperOk P) (hdr:DrawnOk P dr) (hc:CallOk P call) (m:Nat):∀ (c:Code),dsts m c=true→CodeOk P m c (evCode P call dr n c)
 | .skip,_=>fun env s _=>by
  rw[evCode_skip]
  exact⟨Mono.refl s,fun K L w a cx _ Q hq=>wp_skip (hq _ a w ⟨rfl,[],L,Step.refl L s w,cx.heap,cx.env,rfl,rfl⟩)⟩
 | .label l,_=>fun env s _=>by
  rw[evCode_label]
  exact⟨Mono.refl s,fun K L w a cx _ Q hq=>wp_label (hq _ a w ⟨rfl,[],L,Step.refl L s w,cx.heap,cx.env,rfl,rfl⟩)⟩
 | .ret,_=>fun env s _=>by
  rw[evCode_ret]
  exact⟨Mono.refl s,fun K L w a cx _ Q hq=>wp_ret (hq _ a w ⟨rfl,[],L,Step.refl L s w,cx.heap,cx.env,rfl,rfl⟩)⟩
 | .exit id,_=>fun env s _=>by
  rw[evCode_exit]
  exact⟨Mono.refl s,fun K L w a cx _ Q hq=>wp_exit (hq _ a w ⟨rfl,[],L,Step.refl L s w,cx.heap,cx.env,rfl,rfl⟩)⟩
 | .scope x,hd=>fun env s h=>by
  rw[evCode_scope] at h ⊢
  obtain⟨m1,k1⟩:=evCode_ok hop hdr hc m x (by simpa [dsts] using hd) env s h
  refine⟨m1,fun K L w a cx hsz Q hq=>wp_scope_straight (k1 K L w a cx hsz _ fun e a' w' hp=>?_)⟩
  have:=hq e a' w' hp
  cases ho:evCode P call dr n x env s with
  | fail=>rw[ho] at hp;exact hp.elim
  | norm env1 s1=>rw[ho] at hp;obtain⟨rfl,_⟩:=hp;exact this
  | exit id env1 s1=>rw[ho] at hp;obtain⟨rfl,_⟩:=hp;exact this
  | ret env1 s1=>rw[ho] at hp;obtain⟨rfl,_⟩:=hp;exact this
 | .loop x,hd=>fun env s h=>by
  rw[evCode_loop] at h ⊢
  obtain⟨m1,k1⟩:=iter_ok (evCode_ok hop hdr hc m x (by simpa [dsts] using hd)) n env s h
  exact⟨m1,fun K L w a cx hsz Q hq=>wp_loop_rounds n (k1 K L w a cx hsz Q hq)⟩
 | .cond x y z,hd=>fun env s h=>by
  rw[evCode_cond] at h ⊢
  simp only[dsts,Bool.and_eq_true] at hd
  split at h
  ·rename_i hx
   obtain⟨m1,k1⟩:=evCode_ok hop hdr hc m y hd.1 env s h
   refine⟨m1,fun K L w a cx hsz Q hq=>wp_cond_true (toV_bool (opd_ok cx.env hx)) (k1 K L w a cx hsz Q hq)⟩
  ·rename_i hx
   obtain⟨m1,k1⟩:=evCode_ok hop hdr hc m z hd.2 env s h
   refine⟨m1,fun K L w a cx hsz Q hq=>wp_cond_false (toV_bool (opd_ok cx.env hx)) (k1 K L w a cx hsz Q hq)⟩
  ·exact absurd rfl h
 | .seq x y,hd=>fun env s h=>by
  rw[evCode_seq] at h ⊢
  simp only[dsts,Bool.and_eq_true] at hd
  cases hx:evCode P call dr n x env s with
  | fail=>rw[hx] at h;exact absurd rfl h
  | norm env1 s1 =>
   rw[hx] at h
   simp only[] at h ⊢
   obtain⟨m1,k1⟩:=evCode_ok hop hdr hc m x hd.1 env s (by rw[hx];simp)
   rw[hx] at m1 k1
   obtain⟨m2,k2⟩:=evCode_ok hop hdr hc m y hd.2 env1 s1 h
   refine⟨m1.trans m2,fun K L w a cx hsz Q hq=>wp_seq (k1 K L w a (cx.part m2) hsz _ ?_)⟩
   rintro e a' w' ⟨rfl,d,L',q1,q2,q3,q4,q5⟩
   exact k2 K L' w' a' (cx.next q1 q2 q3 m2) (q4.trans hsz) Q (fun e a2 w2 hp=>hq e a2 w2 (Post.trans q1 q4 q5 hp))
  | exit id env1 s1 =>
   simp only[]
   obtain⟨m1,k1⟩:=evCode_ok hop hdr hc m x hd.1 env s (by rw[hx];simp)
   rw[hx] at m1 k1
   refine⟨m1,fun K L w a cx hsz Q hq=>wp_seq (k1 K L w a cx hsz _ ?_)⟩
   rintro e a' w' ⟨rfl,h2⟩
   exact hq _ a' w' ⟨rfl,h2⟩
  | ret env1 s1 =>
   simp only[]
   obtain⟨m1,k1⟩:=evCode_ok hop hdr hc m x hd.1 env s (by rw[hx];simp)
   rw[hx] at m1 k1
   refine⟨m1,fun K L w a cx hsz Q hq=>wp_seq (k1 K L w a cx hsz _ ?_)⟩
   rintro e a' w' ⟨rfl,h2⟩
   exact hq _ a' w' ⟨rfl,h2⟩
 | .block id x,hd=>fun env s h=>by
  rw[evCode_block] at h ⊢
  cases hx:evCode P call dr n x env s with
  | fail=>rw[hx] at h;exact absurd rfl h
  | norm env1 s1 =>
   simp only[]
   obtain⟨m1,k1⟩:=evCode_ok hop hdr hc m x (by simpa [dsts] using hd) env s (by rw[hx];simp)
   rw[hx] at m1 k1
   refine⟨m1,fun K L w a cx hsz Q hq=>wp_block (k1 K L w a cx hsz _ ?_)⟩
   rintro e a' w' ⟨rfl,h2⟩
   exact hq _ a' w' ⟨rfl,h2⟩
  | exit i env1 s1 =>
   obtain⟨m1,k1⟩:=evCode_ok hop hdr hc m x (by simpa [dsts] using hd) env s (by rw[hx];simp)
   rw[hx] at m1 k1
   by_cases hid:i=id
   ·simp only[hid,if_true]
    refine⟨m1,fun K L w a cx hsz Q hq=>wp_block (k1 K L w a cx hsz _ ?_)⟩
    rintro e a' w' ⟨rfl,h2⟩
    simp only[Exit.inBlock,hid,if_true]
    exact hq _ a' w' ⟨rfl,h2⟩
   ·simp only[hid,if_false]
    refine⟨m1,fun K L w a cx hsz Q hq=>wp_block (k1 K L w a cx hsz _ ?_)⟩
    rintro e a' w' ⟨rfl,h2⟩
    simp only[Exit.inBlock,hid,if_false]
    exact hq _ a' w' ⟨rfl,h2⟩
  | ret env1 s1 =>
   simp only[]
   obtain⟨m1,k1⟩:=evCode_ok hop hdr hc m x (by simpa [dsts] using hd) env s (by rw[hx];simp)
   rw[hx] at m1 k1
   refine⟨m1,fun K L w a cx hsz Q hq=>wp_block (k1 K L w a cx hsz _ ?_)⟩
   rintro e a' w' ⟨rfl,h2⟩
   exact hq _ a' w' ⟨rfl,h2⟩
 | .region id ops false,hd=>fun env s h=>by
  rw[evCode_region] at h ⊢
  simp only[] at h ⊢
  cases hx:evOps P call ops ops.toList env s with
  | fail=>rw[hx] at h;exact absurd rfl h
  | ok env1 s1 =>
   simp only[]
   obtain⟨m1,k1⟩:=evOps_ok hop hc ops.toList 0 env s env1 s1 (fun j hj=>by simp at hj;simp[hj]) hx
   refine⟨m1,fun K L w a cx hsz Q hq=>wp_region ?_⟩
   have:=k1 K L w a cx (fun o ho d hdd=>by
    simp only[dsts,List.all_eq_true] at hd
    have:=hd o ho
    rw[hdd] at this
    rw[hsz];exact Nat.le_of_ble_eq_true this) Q (fun a' w' hat=>hq _ a' w' ⟨rfl,hat⟩)
   simpa using this
 | .region id ops true,hd=>fun env s h=>by
  rw[evCode_region] at h ⊢
  simp only[] at h ⊢
  cases hx:dr P call ops env s with
  | fail=>rw[hx] at h;exact absurd rfl h
  | ok env1 s1 =>
   simp only[]
   obtain⟨m1,k1⟩:=hdr call id ops env s env1 s1 hc hx
   refine⟨m1,fun K L w a cx hsz Q hq=>?_⟩
   exact k1 K L w a cx (fun o ho d hdd=>by
    simp only[dsts,List.all_eq_true] at hd
    have:=hd o ho
    rw[hdd] at this
    rw[hsz];exact Nat.le_of_ble_eq_true this) Q (fun a' w' hat=>hq _ a' w' ⟨rfl,hat⟩)
 | .rangeFunc _ _ _ _,_=>fun env s h=>absurd rfl h
 | .goto _,_=>fun env s h=>absurd rfl h
 | .refuse _,_=>fun env s h=>absurd rfl h
end
end Go.Ev

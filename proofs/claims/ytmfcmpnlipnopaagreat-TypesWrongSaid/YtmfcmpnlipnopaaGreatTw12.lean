/- Parts of this proof, one behind the other: EvK, EvL. -/
import Derived.Test.YtmfcmpnlipnopaaGreatTw11
import Derived.Test.YtmfcmpnlipnopaaGreatTw10
set_option maxRecDepth 1000000
set_option maxHeartbeats 40000000
namespace Go.Ev
variable {P:Program}
theorem mono_of {s s':St} {x:Option AV} {v:AV} (h:R.of s x=.ok v s'):Mono s s':=by obtain⟨_,rfl⟩:=of_ok h;exact Mono.refl _
theorem mono_load {s s':St} {t:TypeId} {b o:Nat} {v:AV} (h:loadC P s t b o=.ok v s'):Mono s s':=by
 unfold loadC at h
 split at h
 ·split at h
  ·cases h;exact Mono.rd _ _ _ _
  ·cases h
 ·split at h
  ·cases h;exact Mono.rd _ _ _ _
  ·cases h
 ·cases h
theorem mono_store {s s':St} {b o:Nat} {vs:List AV} {r v:AV} (h:storeC s b o vs r=.ok v s'):Mono s s':=by
 unfold storeC at h
 split at h
 ·rename_i hb
  split at h
  ·rename_i hov;cases h;exact Mono.store hb hov
  ·cases h
 ·cases h
theorem mono_cells {s s1:St} {z n:Nat} {x:AV} {r:List AV} (h:sliceCells s z n x=some (r,s1)):Mono s s1:=by
 unfold sliceCells at h
 split at h
 ·cases h;exact Mono.refl _
 ·split at h
  ·split at h
   ·cases h;exact Mono.rd _ _ _ _
   ·cases h
  ·cases h
 ·split at h
  ·split at h
   ·cases h;exact Mono.rd _ _ _ _
   ·cases h
  ·cases h
 ·cases h;exact Mono.refl _
 ·cases h
theorem mono_append {s s':St} {ts:List TypeId} {x y v:AV} (h:evAppend P s ts x y=.ok v s'):Mono s s':=by
 unfold evAppend at h
 split at h
 case h_2=>cases h
 split at h
 case h_2=>cases h
 rename_i e z n m d ht hxl hyl hd
 split at h
 case h_2=>cases h
 rename_i new s1 hkd hnm hnew
 have m1:=mono_cells hnew
 split at h
 ·split at h
  ·exact m1.trans (mono_store h)
  ·split at h
   ·rename_i hold;cases h;exact(m1.trans (mono_cells hold)).trans (Mono.new _ _)
   ·cases h
 ·split at h
  ·cases h;exact m1
  ·cases h;exact m1.trans (Mono.new _ _)
 ·rename_i b o n2 q _ _
  split at h
  ·cases h;exact m1
  ·split at h
   ·rename_i old s2 hyz hel hold
    cases h
    rw[Bool.and_eq_true] at hyz
    have m2:=mono_cells hold
    have hn2:n2=n:=by simp only[sliceLen] at hxl;exact Option.some.inj hxl
    have hz:=(tel_spec ht).2.1
    have hn0:=blt_lt hyz.2
    have hx:∃ e0 cs,s2.h.get b=some (.cells e0 cs)∧cs≠[]:=by
     unfold sliceCells at hold
     simp only[] at hold
     split at hold
     ·rename_i e0 cs hb
      split at hold
      ·rename_i p hp
       cases hold
       refine⟨e0,cs,hb,?_⟩
       rintro rfl
       obtain⟨h1,h2⟩:=cut_spec hp
       have hpos:0<n*z:=Nat.mul_pos hn0 hz
       have:=h2 0
       rw[if_pos hpos,List.getElem?_eq_getElem (by omega)] at this
       simp at this
      ·cases hold
     ·cases hold
    obtain⟨e0,cs,hb,hne⟩:=hx
    exact((m1.trans m2).trans (Mono.drop hb hne)).trans (Mono.new _ _)
   ·cases h
 ·cases h
theorem mono_builtin {s s':St} {b:Builtin} {ts:List TypeId} {args:List AV} {v:AV} (h:evBuiltin P s b ts args=.ok v s'):Mono s s':=by
 unfold evBuiltin at h
 split at h
 ·split at h
  ·unfold evLen at h
   split at h
   ·split at h
    ·cases h;exact Mono.refl _
    ·cases h;exact Mono.refl _
    ·cases h;exact Mono.refl _
    ·cases h;exact Mono.refl _
    ·cases h;exact Mono.refl _
    ·split at h
     ·cases h;exact Mono.rd _ _ _ _
     ·cases h
    ·cases h
   ·cases h
  ·cases h
 ·split at h
  ·cases h;exact Mono.refl _
  ·cases h
 ·split at h
  ·cases h;exact Mono.refl _
  ·cases h
 ·split at h
  ·exact mono_append h
  ·cases h
 ·cases h
theorem callOp_ok {c:Call} (o:Oper) (ho:o.op=.call c):BranchOk P o (eCall c):=by
 intro call env s v s' hc h
 unfold eCall at h
 split at h
 case h_2=>cases h
 rename_i args hargs
 split at h
 ·rename_i b hb
  refine⟨mono_builtin h,fun K L w a cx next Q hn=>?_⟩
  have ha:=opds_ok cx.env hargs
  have hr:∃ cs,(execOp a.eval o).run P w=(builtin b ⟨c.argTypes.toList⟩ o.type cs ⟨c.args.toList.map a.eval⟩).run P w:=by
   have e1:(⟨c.args.toList.map a.eval⟩:Array Value)=c.args.map a.eval:=by apply Array.ext';simp
   rw[e1]
   simp only[execOp,ho,resolve,hb,Sem.run_bind,Sem.run_pure,Result.andThen_ok,invoke]
   exact⟨_,rfl⟩
  obtain⟨cs,hr⟩:=hr
  obtain⟨d,L',w',v',h1,h2,h3,h4⟩:=builtin_ok (P:=P) (w:=w) (rt:=o.type) (cs:=cs) h ha cx
  unfold Oper.wp
  rw[hr]
  rcases h4 with h4|⟨h4,h5⟩
  ·rw[h4,Oper.upon_value];exact hn v' w' ⟨d,L',h1,h2,h3⟩
  ·rw[h4,Oper.upon_skip];subst h5;exact hn undef w' ⟨d,L',h1,h2,h3⟩
 ·rename_i f hf
  split at h
  ·rename_i fn first cap hfv
   unfold invokeV at h
   split at h
   ·rename_i g
    obtain⟨hm,hcall⟩:=hc _ _ _ _ _ h
    refine⟨hm,fun K L w a cx next Q hn=>?_⟩
    ·have ha:=opds_ok cx.env hargs
     obtain⟨p,q,hp,hq,hfe⟩:=toV_fn (opd_ok cx.env hfv)
     have hup:=hcall K L w _ (toVs_app (toVs_app hp ha) hq) cx.heap cx.cov cx.fresh
     have hr:(execOp a.eval o).run P w=(callFunc g ⟨p++c.args.toList.map a.eval++q⟩).run P w:=by
      have e1:(⟨p++c.args.toList.map a.eval++q⟩:Array Value)=(⟨p⟩++c.args.map a.eval)++⟨q⟩:=by apply Array.ext';simp
      rw[e1]
      simp only[execOp,ho,resolve,hf,hfe,Deferred.ofValue,Sem.run_bind,Sem.run_pure,Result.andThen_ok,invoke]
     unfold Oper.wp
     rw[hr]
     exact hup o a next Q hn
   ·cases h
  ·cases h
 ·cases h
theorem mono_update {t:TypeId} {m k x:Operand} {call:CallF} {env:Env} {s s':St} {v:AV} (h:eMapUpdate t m k x P call env s=.ok v s'):Mono s s':=by
 unfold eMapUpdate at h
 split at h
 ·split at h
  ·rename_i hb _
   split at h
   ·cases h;exact Mono.obj hb rfl rfl
   ·cases h;exact Mono.obj hb rfl rfl
   ·cases h
  ·cases h
 ·cases h
theorem no_ok (o:Oper):BranchOk P o eNo:=fun _ _ _ _ _ _ h=>by cases h
theorem oper_ok:OperOk P:=by
 intro o
 cases ho:o.op with
 | move x=>exact(show BranchOk P o (eMove x) from .of (fun _ _ _ _ _ h=>mono_of h) fun _ _ _ _ _ _ _ _ _ h c=>move_ok o (.inl ho) h c)
 | assign x=>exact(show BranchOk P o (eMove x) from .of (fun _ _ _ _ _ h=>mono_of h) fun _ _ _ _ _ _ _ _ _ h c=>move_ok o (.inr ho) h c)
 | pick x y z=>exact(show BranchOk P o (ePick x y z) from .of (fun _ _ _ _ _ h=>by unfold ePick at h;split at h<;>first|exact mono_of h|cases h) fun _ _ _ _ _ _ _ _ _ h c=>pick_ok o ho h c)
 | alloc e=>exact(show BranchOk P o (eAlloc e) from .of (fun _ _ _ _ _ h=>by unfold eAlloc at h;split at h<;>first|(cases h;exact Mono.new _ _)|cases h) fun _ _ _ _ _ _ _ _ _ h c=>alloc_ok o ho h c)
 | box e x=>exact(show BranchOk P o (eBox e x) from .of (fun _ _ _ _ _ h=>by unfold eBox at h;split at h<;>first|(cases h;exact Mono.new _ _)|cases h) fun _ _ _ _ _ _ _ _ _ h c=>box_ok o ho h c)
 | build t ps=>exact(show BranchOk P o (eBuild t ps) from .of (fun _ _ _ _ _ h=>by
   unfold eBuild at h
   split at h
   ·split at h
    ·split at h
     ·cases h;exact Mono.refl _
     ·cases h
    ·cases h
   ·split at h
    ·split at h
     ·cases h;exact Mono.refl _
     ·cases h
    ·cases h
   ·cases h) fun _ _ _ _ _ _ _ _ _ h c=>build_ok o ho h c)
 | buildSlice t l ps=>exact(show BranchOk P o (eBuildSlice t l ps) from .of (fun _ _ _ _ _ h=>by
   unfold eBuildSlice at h
   split at h
   ·split at h
    ·split at h
     ·cases h;exact Mono.new _ _
     ·cases h
    ·cases h
   ·cases h) fun _ _ _ _ _ _ _ _ _ h c=>buildSlice_ok o ho h c)
 | insert t m k x=>exact(show BranchOk P o (eMapUpdate t m k x) from .of (fun _ _ _ _ _ h=>mono_update h) fun _ _ _ _ _ _ _ _ _ h c=>mapUpdate_ok o (.inr ho) h c)
 | load t x=>exact(show BranchOk P o (eLoad t x) from .of (fun _ _ _ _ _ h=>by unfold eLoad at h;split at h<;>first|exact mono_load h|cases h) fun _ _ _ _ _ _ _ _ _ h c=>loadOp_ok o ho h c)
 | store t x y=>exact(show BranchOk P o (eStore t x y) from .of (fun _ _ _ _ _ h=>by
   unfold eStore at h
   split at h
   ·split at h
    ·exact mono_store h
    ·cases h
   ·cases h) fun _ _ _ _ _ _ _ _ _ h c=>storeOp_ok o ho h c)
 | ready g=>exact(show BranchOk P o eNo from no_ok o)
 | waits g=>exact(show BranchOk P o eNo from no_ok o)
 | nilCheck x=>exact(show BranchOk P o (eNilCheck x) from .of (fun _ _ _ _ _ h=>by unfold eNilCheck at h;split at h<;>first|(cases h;exact Mono.refl _)|cases h) fun _ _ _ _ _ _ _ _ _ h c=>nilCheck_ok o ho h c)
 | binOp p t x y u=>exact(show BranchOk P o (eBinOp p t x y u) from .of (fun call env s v s' h=>by
   unfold eBinOp at h
   cases hx:opd x env with
   | none=>rw[hx] at h;cases h
   | some x1 =>
    cases hy:opd y env with
    | none=>rw[hx,hy] at h;cases h
    | some y1=>rw[hx,hy] at h;exact mono_of h) fun _ _ _ _ _ _ _ _ _ h c=>binOp_ok o ho h c)
 | unOp p t x=>exact(show BranchOk P o (eUnOp p t x) from .of (fun _ _ _ _ _ h=>by unfold eUnOp at h;split at h<;>first|exact mono_of h|cases h) fun _ _ _ _ _ _ _ _ _ h c=>unOp_ok o ho h c)
 | convert p q x=>exact(show BranchOk P o (eConvert p q x) from .of (fun _ _ _ _ _ h=>by
   unfold eConvert at h
   split at h
   ·unfold evConv at h
    split at h
    ·split at h
     ·cases h;exact Mono.refl _
     ·cases h;exact Mono.refl _
     ·split at h
      ·cases h;exact Mono.new _ _
      ·cases h
     ·cases h
    ·cases h
   ·cases h) fun _ _ _ _ _ _ _ _ _ h c=>convert_ok o ho h c)
 | sliceToArrayPointer t x=>exact(show BranchOk P o eNo from no_ok o)
 | makeInterface t x=>exact(show BranchOk P o (eMakeI t x) from .of (fun _ _ _ _ _ h=>by unfold eMakeI at h;split at h<;>first|(cases h;exact Mono.refl _)|cases h) fun _ _ _ _ _ _ _ _ _ h c=>makeI_ok o ho h c)
 | makeFunc f x y=>exact(show BranchOk P o (eMakeF f x y) from .of (fun _ _ _ _ _ h=>by unfold eMakeF at h;split at h<;>first|(cases h;exact Mono.refl _)|cases h) fun _ _ _ _ _ _ _ _ _ h c=>makeF_ok o ho h c)
 | makeMap t r=>exact(show BranchOk P o (eMakeMap t r) from .of (fun _ _ _ _ _ h=>by unfold eMakeMap at h;split at h<;>first|(cases h;exact Mono.new _ _)|cases h) fun _ _ _ _ _ _ _ _ _ h c=>makeMap_ok o ho h c)
 | makeChan t x=>exact(show BranchOk P o eNo from no_ok o)
 | makeSlice t x y=>exact(show BranchOk P o (eMakeSlice t x y) from .of (fun _ _ _ _ _ h=>by
   unfold eMakeSlice at h
   split at h
   ·split at h
    ·split at h
     ·cases h;exact Mono.new _ _
     ·cases h
    ·cases h
   ·cases h) fun _ _ _ _ _ _ _ _ _ h c=>makeSlice_ok o ho h c)
 | slice t x lo hi mx=>exact(show BranchOk P o (eSlice t x lo hi mx) from .of (fun _ _ _ _ _ h=>by
   unfold eSlice at h
   split at h
   ·split at h
    ·split at h
     ·cases h;exact Mono.refl _
     ·cases h
    ·cases h
   ·split at h
    ·cases h;exact Mono.refl _
    ·cases h
   ·split at h
    ·cases h;exact Mono.refl _
    ·cases h
   ·split at h
    ·split at h
     ·cases h;exact Mono.refl _
     ·cases h
    ·cases h;exact Mono.refl _
    ·cases h
   ·cases h) fun _ _ _ _ _ _ _ _ _ h c=>slice_ok o ho h c)
 | fieldAddr t x i=>exact(show BranchOk P o (eFieldAddr t x i) from .of (fun _ _ _ _ _ h=>by unfold eFieldAddr at h;split at h<;>first|(cases h;exact Mono.refl _)|cases h) fun _ _ _ _ _ _ _ _ _ h c=>fieldAddr_ok o ho h c)
 | field t x i=>exact(show BranchOk P o (eField t x i) from .of (fun _ _ _ _ _ h=>by unfold eField at h;split at h<;>first|exact mono_of h|cases h) fun _ _ _ _ _ _ _ _ _ h c=>field_ok o ho h c)
 | indexAddr t x i=>exact(show BranchOk P o (eIndexAddr t x i) from .of (fun _ _ _ _ _ h=>by
   have hidx:∀ {s:St} {e:Option (TypeId×Nat)} {b k n j:Nat} {v:AV} {s':St},idx s e b k n j=.ok v s'→Mono s s':=fun {s e b k n j v s'} h=>by
    unfold idx at h
    split at h
    ·cases h;exact Mono.refl _
    ·cases h
   unfold eIndexAddr at h
   split at h
   ·exact hidx h
   ·exact hidx h
   ·split at h
    ·exact hidx h
    ·cases h
   ·cases h) fun _ _ _ _ _ _ _ _ _ h c=>indexAddr_ok o ho h c)
 | index t x i=>exact(show BranchOk P o (eIndex t x i) from .of (fun _ _ _ _ _ h=>by
   unfold eIndex at h
   split at h
   ·split at h
    ·cases h;exact Mono.refl _
    ·cases h
   ·split at h
    ·split at h
     ·exact mono_of h
     ·cases h
    ·cases h
   ·cases h) fun _ _ _ _ _ _ _ _ _ h c=>index_ok o ho h c)
 | lookup t x k b=>exact(show BranchOk P o (eLookup t x k b) from .of (fun _ _ s v s' h=>by
   have hl:∀ {s1:St} {z:AV} {r:Option (Option (Nat×AV))},lookR s1 z b r=.ok v s'→s'=s1:=fun {s1 z r} h=>by
    unfold lookR at h
    split at h
    ·cases h;rfl
    ·cases h;rfl
    ·cases h
   unfold eLookup at h
   split at h
   ·split at h
    ·rw[hl h];exact Mono.refl _
    ·split at h
     ·rw[hl h];exact Mono.rd _ _ _ _
     ·cases h
    ·cases h
   ·cases h) fun _ _ _ _ _ _ _ _ _ h c=>lookup_ok o ho h c)
 | mapUpdate t m k x=>exact(show BranchOk P o (eMapUpdate t m k x) from .of (fun _ _ _ _ _ h=>mono_update h) fun _ _ _ _ _ _ _ _ _ h c=>mapUpdate_ok o (.inl ho) h c)
 | mapEntry t m k=>exact(show BranchOk P o (eMapEntry t m k) from .of (fun _ _ _ _ _ h=>by
   unfold eMapEntry at h
   split at h
   ·split at h
    ·rename_i hb _ _
     split at h
     ·cases h;exact Mono.obj hb rfl rfl
     ·cases h;exact Mono.obj hb rfl rfl
     ·cases h
    ·cases h
   ·cases h) fun _ _ _ _ _ _ _ _ _ h c=>mapEntry_ok o ho h c)
 | entryStore t m k x=>exact(show BranchOk P o (eEntryStore t m k x) from .of (fun _ _ _ _ _ h=>by
   unfold eEntryStore at h
   split at h
   ·split at h
    ·rename_i hb
     split at h
     ·cases h;exact Mono.obj hb rfl rfl
     ·cases h
    ·cases h
   ·cases h) fun _ _ _ _ _ _ _ _ _ h c=>entryStore_ok o ho h c)
 | range t x=>exact(show BranchOk P o (eRange t x) from .of (fun _ _ _ _ _ h=>by
   unfold eRange at h
   split at h
   ·cases h;exact Mono.new _ _
   ·cases h;exact Mono.new _ _
   ·split at h
    ·cases h;exact(Mono.rd _ _ _ _).trans (Mono.new _ _)
    ·cases h
   ·cases h) fun _ _ _ _ _ _ _ _ _ h c=>range_ok o ho h c)
 | next i b=>exact(show BranchOk P o (eNext i b) from .of (fun _ _ s _ _ h=>by
   unfold eNext at h
   split at h
   ·split at h
    ·cases h;exact Mono.rd _ _ _ _
    ·rename_i hb
     split at h
     ·split at h
      ·cases h;exact(Mono.rd _ _ _ _).trans (Mono.rd _ _ _ _)
      ·split at h
       ·cases h;exact(Mono.rd _ _ _ _).trans (Mono.obj (s:=s.rd _ 0 1) hb rfl rfl)
       ·cases h
      ·cases h
     ·cases h
    ·rename_i hb
     split at h
     ·cases h;exact Mono.obj hb rfl rfl
     ·cases h;exact Mono.rd _ _ _ _
    ·cases h
   ·cases h) fun _ _ _ _ _ _ _ _ _ h c=>next_ok o ho h c)
 | entry i=>exact(show BranchOk P o (eEntry i) from .of (fun _ _ _ _ _ h=>by
   unfold eEntry at h
   split at h
   ·split at h
    ·split at h
     ·split at h
      ·split at h
       ·cases h;exact(Mono.rd _ _ _ _).trans (Mono.rd _ _ _ _)
       ·cases h
      ·cases h
     ·cases h
    ·cases h
   ·cases h) fun _ _ _ _ _ _ _ _ _ h c=>entry_ok o ho h c)
 | typeAssert x t u b=>exact(show BranchOk P o eNo from no_ok o)
 | extract x i=>exact(show BranchOk P o (eExtract x i) from .of (fun _ _ _ _ _ h=>by unfold eExtract at h;split at h<;>first|exact mono_of h|cases h) fun _ _ _ _ _ _ _ _ _ h c=>extract_ok o ho h c)
 | call c=>exact(show BranchOk P o (eCall c) from callOp_ok o ho)
 | go c=>exact(show BranchOk P o eNo from no_ok o)
 | defer c=>exact(show BranchOk P o eNo from no_ok o)
 | panic x=>exact(show BranchOk P o eNo from no_ok o)
 | send x y=>exact(show BranchOk P o eNo from no_ok o)
 | recv t x b=>exact(show BranchOk P o eNo from no_ok o)
 | select cs b=>exact(show BranchOk P o eNo from no_ok o)
end Go.Ev
namespace Go.Ev
variable {P:Program}
theorem mkEnv_get:∀ (l:List AV) (i:Nat) (t:Env) (k:Nat) (x:AV),mkEnv l i t k=some x→(i≤k∧l[k-i]?=some x)∨t k=some x
 | [],_,_,_,_,h=>.inr h
 | v::l,i,t,k,x,h=>by
  simp only[mkEnv] at h
  rcases mkEnv_get l (i+1) _ k x h with ⟨h1,h2⟩|h1
  ·refine .inl ⟨by omega,?_⟩
   have:k-i=(k-(i+1))+1:=by omega
   rw[this,List.getElem?_cons_succ];exact h2
  ·rcases upd_get h1 with ⟨rfl,h2⟩|⟨_,h2⟩
   ·refine .inl ⟨Nat.le_refl _,?_⟩;simp;exact h2
   ·exact .inr h2
theorem enter_env {L:Map} {args:List AV} {args':List Value} (h:toVs L args=some args') (r:Array Value) (ds:List Deferred):EnvRel L (mkEnv args 0 fun _=>none) { tmps:=⟨args'⟩++r,defers:=ds }:=by
 intro t x hx
 rcases mkEnv_get args 0 (fun _=>none) t x hx with ⟨_,h1⟩|h1
 ·obtain⟨v',k1,k2⟩:=(toVs_get h).2 _ _ h1
  refine⟨v',?_,k1⟩
  have hlt:t<args'.length:=by
   rcases Nat.lt_or_ge t args'.length with q|q
   ·exact q
   ·simp only[Nat.sub_zero] at k2;rw[List.getElem?_eq_none q] at k2;cases k2
  simp only[Nat.sub_zero] at k2
  rw[Array.getElem?_append_left (by simpa using hlt)]
  simpa using k2
 ·cases h1
theorem mono_resV {env:Env} {s s':St} {x:ResultVar} {v:AV} (h:resV P env s x=.ok v s'):Mono s s':=by
 unfold resV at h
 split at h
 ·exact mono_of h
 ·split at h
  ·exact mono_load h
  ·cases h
theorem mono_resVs {env:Env}:∀ {l:List ResultVar} {s s':St} {vs:List AV},resVs P env l s=.ok vs s'→Mono s s'
 | [],s,s',vs,h=>by simp only[resVs] at h;cases h;exact Mono.refl _
 | x::l,s,s',vs,h=>by
  simp only[resVs] at h
  split at h
  ·rename_i v s1 h1
   split at h
   ·rename_i vs2 s2 h2
    cases h
    exact(mono_resV h1).trans (mono_resVs h2)
   ·cases h
  ·cases h
def resSem (tmps:Array Value):ResultVar→Sem Value
 | .tmp t=>pure (tmps.getD t undef)
 | .cell a t=>do loadVar t (← asAddr (tmps.getD a undef))
theorem resV_ok {K:Known} {L:Map} {env:Env} {a:Act} {s s':St} {w:World} {x:ResultVar} {v:AV} (hE:EnvRel L env a) (hH:HRel K L (look s.h.get) w) (hC:Cov K s'.lg) (h:resV P env s x=.ok v s') :
  ∃ d v',Step L s w d L s' w∧s'.h=s.h∧toV L v=some v'∧(resSem a.tmps x).run P w=.ok v' w:=by
 unfold resV at h
 split at h
 ·rename_i t
  obtain⟨h1,rfl⟩:=of_ok h
  obtain⟨v',k1,k2⟩:=hE t v h1
  exact⟨[],v',Step.refl L _ w,rfl,k2,by simp[resSem,k1]⟩
 ·rename_i q t
  split at h
  ·rename_i b o hb
   obtain⟨v',k1,k2⟩:=hE q _ hb
   obtain⟨l,hl,rfl⟩:=toV_ptr k2
   obtain⟨n,rfl,v2,h2,h3⟩:=load_ok (P:=P) hH h hC hl
   refine⟨_,v2,Step.rd L s w b o n,rfl,h2,?_⟩
   have:a.tmps.getD q undef=.pointer (some (locAddr l o)):=by simp[k1]
   simp only[resSem,this,asAddr,Sem.run_bind,Sem.run_pure,Result.andThen_ok,h3]
  ·cases h
theorem resVs_ok {K:Known} {L:Map} {env:Env} {a:Act} {w:World} (hE:EnvRel L env a):∀ (l:List ResultVar) (s s':St) (vs:List AV),HRel K L (look s.h.get) w→Cov K s'.lg→resVs P env l s=.ok vs s' →
  ∃ d vs',Step L s w d L s' w∧s'.h=s.h∧toVs L vs=some vs'∧(l.mapM (resSem a.tmps)).run P w=.ok vs' w
 | [],s,s',vs,hH,hC,h=>by simp only[resVs] at h;cases h;exact⟨[],[],Step.refl L _ w,rfl,rfl,rfl⟩
 | x::l,s,s',vs,hH,hC,h=>by
  simp only[resVs] at h
  split at h
  ·rename_i v s1 h1
   split at h
   ·rename_i vs2 s2 h2
    cases h
    have hC1:Cov K s1.lg:=by obtain⟨d,hd⟩:=Mono.lg (mono_resVs h2);rw[hd] at hC;exact hC.app
    obtain⟨d1,v',k1,k2,k3,k4⟩:=resV_ok (P:=P) hE hH hC1 h1
    obtain⟨d2,vs',m1,m2,m3,m4⟩:=resVs_ok hE l s1 _ vs2 (by rw[k2];exact hH) hC h2
    refine⟨_,v'::vs',k1.trans m1,m2.trans k2,by simp only[toVs];rw[k3,m3],?_⟩
    rw[List.mapM_cons]
    simp only[Sem.run_bind,k4,Result.andThen_ok,m4,Sem.run_pure]
   ·cases h
  ·cases h
theorem results_ok {K:Known} {L:Map} {env:Env} {a:Act} {s s':St} {w:World} {fn:Func} {v:AV} (hE:EnvRel L env a) (hH:HRel K L (look s.h.get) w) (hC:Cov K s'.lg) (h:resOf (resVs P env fn.results.toList s)=.ok v s') :
  ∃ d v',Step L s w d L s' w∧HRel K L (look s'.h.get) w∧toV L v=some v'∧(results fn a.tmps).run P w=.ok v' w:=by
 have hrs:∀ vs':List Value,(fn.results.toList.mapM (resSem a.tmps)).run P w=.ok vs' w→(fn.results.mapM (resSem a.tmps)).run P w=.ok ⟨vs'⟩ w:=fun vs' hm=>by
  rw[Array.mapM_eq_mapM_toList,Sem.run_map,hm];rfl
 have hdef:results fn a.tmps=(do let vs ← fn.results.mapM (resSem a.tmps);pure (if h:vs.size=1 then vs[0] else .tuple vs)):=by
  unfold results
  congr 1
 cases hr:resVs P env fn.results.toList s with
 | fail=>rw[hr] at h;cases h
 | ok vs s1 =>
  rw[hr] at h
  unfold resOf at h
  split at h
  ·rename_i v0 s2 he
   cases he
   cases h
   obtain⟨d,vs',k1,k2,k3,k4⟩:=resVs_ok (P:=P) hE _ _ _ _ hH hC hr
   simp only[toVs] at k3
   cases hv:toV L v with
   | none=>rw[hv] at k3;cases k3
   | some v' =>
    rw[hv] at k3;cases k3
    refine⟨d,v',k1,by rw[k2];exact hH,rfl,?_⟩
    rw[hdef,Sem.run_bind,hrs _ k4,Result.andThen_ok]
    rfl
  ·rename_i l s2 hne he
   cases he
   cases h
   obtain⟨d,vs',k1,k2,k3,k4⟩:=resVs_ok (P:=P) hE _ _ _ _ hH hC hr
   refine⟨d,.tuple ⟨vs'⟩,k1,by rw[k2];exact hH,by simp only[toV];rw[k3],?_⟩
   rw[hdef,Sem.run_bind,hrs _ k4,Result.andThen_ok]
   have hsz:¬ ((⟨vs'⟩:Array Value).size=1):=by
    have:=(toVs_get k3).1
    intro e
    have e1:vs.length=1:=by rw[this];simpa using e
    obtain⟨u,rfl⟩:=List.length_eq_one_iff.1 e1
    exact hne u rfl
   rw[dif_neg hsz];rfl
  ·rename_i he;cases he
theorem fnOf_spec {f : FuncId} {c : Code} {rs : List ResultVar} {m : Nat} (h : fnOf P f = some (c, rs, m)) : ∃ fn, P.funcs[f]? = some fn ∧ fn.body = some c ∧ (fn.name == "runtime.NumGoroutine") = false ∧ dsts m c = true ∧ rs = fn.results.toList ∧ m = fn.ntmps := by
 unfold fnOf at h
 split at h
 ·rename_i fn hf
  split at h
  ·rename_i c' hb hn
   split at h
   ·rename_i hd;cases h;exact⟨fn,hf,hb,hn,hd,rfl,rfl⟩
   ·cases h
  ·cases h
 ·cases h
def PrimsOk (P:Program) (pr:Prims):Prop:=∀ f g,pr f=some g→∀ args s v s',g args s=.ok v s'→Mono s s'∧∀ (K:Known) (L:Map) (w:World) (args':List Value),toVs L args=some args'→HRel K L (look s.h.get) w→Cov K s'.lg →
 (∀ b,s.n≤b→b<s'.n→L b=none)→Upon P f ⟨args'⟩ w (Ends K L s w v s')
theorem evCall_succ {pr:Prims} {dr:Drawn} {n d:Nat} {f:FuncId} {args:List AV} {s:St}:evCall P pr dr n (d+1) f args s=match pr f with
    | some g=>g args s
    | none=>match fnOf P f with
      | some (c,rs,m)=>(match Nat.ble args.length m with|true=>endOf P rs (evCode P (evCall P pr dr n d) dr n c (mkEnv args 0 fun _=>none) s)|false=>.fail)
      | none=>.fail:=by
  have e:evCall P pr dr n (d+1) f args s=Option.rec (motive:=fun _=>R AV) (match fnOf P f with
        | some (c,rs,m)=>(match Nat.ble args.length m with
          | true=>endOf P rs (evCode P (evCall P pr dr n d) dr n c (mkEnv args 0 fun _=>none) s)
          | false=>.fail)
        | none=>.fail) (fun g=>g args s) (pr f):=rfl
  rw[e]
  cases pr f<;>rfl
theorem endOf_eq {rs:List ResultVar} {c:C}:endOf P rs c=match c with | .norm env s=>resOf (resVs P env rs s) | .ret env s=>resOf (resVs P env rs s)|_=>.fail:=by cases c<;>rfl
theorem evCall_ok {pr:Prims} {dr:Drawn} (hpr:PrimsOk P pr) (hdr:DrawnOk P dr) (n:Nat):∀ d,CallOk P (evCall P pr dr n d)
 | 0=>fun f args s v s' h=>by cases h
 | d + 1=>fun f args s v s' h=>by
  rw[evCall_succ] at h
  split at h
  ·rename_i g hg;exact hpr f g hg args s v s' h
  ·split at h
   case h_2=>cases h
   rename_i c rs m hf
   split at h
   case h_2=>cases h
   rename_i hle
   obtain⟨fn,hfn,hb,hnm,hd,rfl,rfl⟩:=fnOf_spec hf
   rw[endOf_eq] at h
   have hne:evCode P (evCall P pr dr n d) dr n c (mkEnv args 0 fun _=>none) s≠.fail:=by
    intro e;rw[e] at h;cases h
   obtain⟨m1,k1⟩:=evCode_ok (n:=n) oper_ok hdr (evCall_ok hpr hdr n d) fn.ntmps c hd (mkEnv args 0 fun _=>none) s hne
   have hbody:∀ env1 s1,(evCode P (evCall P pr dr n d) dr n c (mkEnv args 0 fun _=>none) s=.norm env1 s1∨evCode P (evCall P pr dr n d) dr n c (mkEnv args 0 fun _=>none) s=.ret env1 s1)→resOf (resVs P env1 fn.results.toList s1)=.ok v s' →
     Mono s s'∧∀ (K:Known) (L:Map) (w:World) (args':List Value),toVs L args=some args'→HRel K L (look s.h.get) w→Cov K s'.lg→(∀ b,s.n≤b→b<s'.n→L b=none)→Upon P f ⟨args'⟩ w (Ends K L s w v s'):=by
    intro env1 s1 ho hres
    have hlast:(evCode P (evCall P pr dr n d) dr n c (mkEnv args 0 fun _=>none) s).last=s1:=by rcases ho with ho|ho<;>rw[ho]<;>rfl
    rw[hlast] at m1
    have m2:Mono s1 s':=by
     cases hr:resVs P env1 fn.results.toList s1 with
     | fail=>rw[hr] at hres;cases hres
     | ok vs s2 =>
      have:=mono_resVs hr
      rw[hr] at hres
      unfold resOf at hres
      split at hres
      ·rename_i he;cases he;cases hres;exact this
      ·rename_i he;cases he;cases hres;exact this
      ·cases hres
    refine⟨m1.trans m2,fun K L w args' ha hH hC hfr=>?_⟩
    intro o a next Q hq
    have hrun:(callFunc f ⟨args'⟩).run P w=.ok (.enter f ⟨args'⟩) w:=by
     simp only[callFunc,Sem.run_bind,run_program,Result.andThen_ok,hfn]
     rw[if_neg (by rw[hnm];simp),if_neg (by rw[hb];simp),Sem.run_pure]
    rw[hrun,Oper.upon_enter]
    refine Calls.mono (calls_of_wp hfn hb (R:=fun e w'=>∃ v',e=.returned v'∧Ends K L s w v s' v' w') ?_) ?_
    ·have hal:args.length=args'.length:=(toVs_get ha).1
     have hlen:=Nat.le_of_ble_eq_true hle
     have cx:Cx K L s w (mkEnv args 0 fun _=>none) { tmps:=⟨args'⟩++Array.replicate (fn.ntmps-(⟨args'⟩:Array Value).size) undef,defers:=[] } (evCode P (evCall P pr dr n d) dr n c (mkEnv args 0 fun _=>none) s).last:=by
      rw[hlast]
      refine⟨enter_env ha _ _,hH,?_,fun b h1 h2=>hfr b h1 (Nat.lt_of_lt_of_le h2 m2.1)⟩
      obtain⟨dd,hdd⟩:=Mono.lg m2
      rw[hdd] at hC;exact hC.app
     refine k1 K L w _ cx (by simp;omega) _ ?_
     intro e a' w' hpost
     have hat:At K L s w env1 s1 { tmps:=⟨args'⟩++Array.replicate (fn.ntmps-(⟨args'⟩:Array Value).size) undef,defers:=[] } a' w'∧(e=.normal∨e=.ret):=by
      rcases ho with ho|ho
      ·rw[ho] at hpost;exact⟨hpost.2,.inl hpost.1⟩
      ·rw[ho] at hpost;exact⟨hpost.2,.inr hpost.1⟩
     obtain⟨⟨d1,L1,q1,q2,q3,q4,q5⟩,he⟩:=hat
     obtain⟨d2,v',r1,r2,r3,r4⟩:=results_ok (P:=P) (fn:=fn) q3 q2 hC hres
     rcases he with rfl|rfl
     ·exact⟨q5,v',r4,v',rfl,_,L1,r3,q1.trans r1,r2⟩
     ·exact⟨q5,v',r4,v',rfl,_,L1,r3,q1.trans r1,r2⟩
    ·rintro e w' ⟨v',rfl,he⟩
     exact hq v' w' he
   split at h
   ·rename_i env1 s1 ho;exact hbody env1 s1 (.inl ho) h
   ·rename_i env1 s1 ho;exact hbody env1 s1 (.inr ho) h
   ·cases h
end Go.Ev

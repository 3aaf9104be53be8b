/- Parts of this proof, one behind the other: EvS. -/
import Derived.Test.YtmfcmpnlipnopaaGreatTw9
import Derived.MapKept
set_option maxRecDepth 1000000
set_option maxHeartbeats 40000000
namespace Go.Ev
variable {P:Program} {K:Known} {L:Map} {s s':St} {w:World} {env:Env} {a:Act} {call:CallF}
theorem look_obj_none {g:Nat→Option Blk} {b k:Nat} {x:Blk} (h:g b=some x) (hx:x.isObj=true) (hk:k≠0):look g b k=none:=by
 cases hy:look g b k with
 | none=>rfl
 | some y=>exact absurd (look_obj_inv h hx hy).1 hk
theorem Mono.obj {b:Nat} {x x':Blk} (hb:s.h.get b=some x) (hx:x.isObj=true) (hx':x'.isObj=true):Mono s (s.put b 0 1 (some x')):=⟨Nat.le_refl _,[_],rfl,fun b2 c hw _=>by
 by_cases hne:b2=b
 ·subst hne
  have hc:c≠0:=by rintro rfl;exact hw ⟨_,List.mem_singleton_self _,rfl,rfl,Nat.le_refl _,.inr (by show 0<0+1;omega)⟩
  have hnew:(s.put b2 0 1 (some x')).h.get b2=some x':=Tr.get_set_old _ _ _ _ hb
  rw[look_obj_none hnew hx' hc,look_obj_none hb hx hc]
 ·exact look_congr (Tr.get_set_ne _ _ _ _ hne) c,fun a ha _ _ _=>by
 rw[List.mem_singleton.1 ha]
 exact⟨0,_,look_obj hb hx,_,List.mem_singleton_self _,rfl,Nat.le_refl _,.inr (by show 0<0+1;omega)⟩⟩
theorem obj_at (hH:HRel K L (look s.h.get) w) {b:Nat} {x:Blk} (hb:s.h.get b=some x) (hx:x.isObj=true) (hk:K b 0) {l:Loc} (hl:L b=some l):l.off=0∧∃ o,w.heap[l.blk]?=some o∧oRel L x o:=by
 obtain⟨l2,hl2,h1,h2⟩:=hH.rel b 0 _ (look_obj hb hx) hk
 rw[hl] at hl2;cases hl2
 exact⟨h1,h2⟩
theorem omap {l:List AEntry} {c:Nat} {o:Obj} (h:oRel L (.map l c) o):∃ es,o=.map es c∧entsRel L l es.toList:=by
 cases o<;>first|exact h.elim|(obtain⟨rfl,h2⟩:=h;exact⟨_,rfl,h2⟩)
theorem run_getObj {r:Nat} {o:Obj} (h:w.heap[r]?=some o) (hno:∀ c e fz,o≠Obj.cells c e fz):(getObj r).run P w=.ok o w:=by
 cases o<;>first|exact(hno _ _ _ rfl).elim|simp[getObj,Sem.run,h]
theorem newObj_ok (hH:HRel K L (look s.h.get) w) (hn:L s.n=none) (x:Blk) (o:Obj) (hx:x.isObj=true) (hr:oRel (L.put s.n ⟨w.heap.size,0,0⟩) x o) :
  Step L s w [] (L.put s.n ⟨w.heap.size,0,0⟩) (s.new x) { w with heap:=w.heap.push o }∧HRel K (L.put s.n ⟨w.heap.size,0,0⟩) (look (s.new x).h.get) { w with heap:=w.heap.push o } :=
 new_ok hH hn x o 0 fun k y hy=>by
  obtain⟨rfl,rfl⟩:=look_obj_inv rfl hx hy
  exact⟨rfl,o,by simp,hr⟩
theorem makeMap_ok {t:TypeId} {r:Option Operand} {v:AV} (o:Oper) (ho:o.op=.makeMap t r) (h:eMakeMap t r P call env s=.ok v s') (c:Cx K L s w env a s'):Ok K L s w v s' ((execOp a.eval o).run P w):=by
 unfold eMakeMap at h
 split at h
 ·cases h
  obtain⟨h2,h3⟩:=newObj_ok c.heap c.here (.map [] 0) (.map #[] 0) rfl ⟨rfl,trivial⟩
  refine⟨_,_,_,.map (some w.heap.size),?_,h2,h3,.inl ?_⟩
  ·simp only[toV];rw[Map.put_same]
  ·simp only[execOp,ho,Option.map_none,Instr.makeMap,Sem.run_bind,Sem.run_pure,run_newObj,Result.andThen_ok]
 ·cases h
theorem keq_true {k x:AV} {k' x':Value} (h:keq k x=some true) (hk:toV L k=some k') (hx:toV L x=some x'):x'=k'∧∀ n,Instr.sameBits n k' k'=true:=by
 unfold keq at h
 split at h
 ·rename_i a b
  have e:a=b:=by simpa using h
  subst e
  rw[toV_bool hk,toV_bool hx]
  exact⟨rfl,fun n=>by simp[Instr.sameBits]⟩
 ·rename_i k a k2 b
  split at h
  ·rename_i hkk
   have e:a=b:=by simpa using h
   subst e;subst hkk
   rw[toV_int hk,toV_int hx]
   exact⟨rfl,fun n=>by simp[Instr.sameBits]⟩
  ·cases h
 ·rename_i a b
  have e:a=b:=by simpa using h
  subst e
  rw[toV_str hk,toV_str hx]
  exact⟨rfl,fun n=>by simp only[Instr.sameBits];exact(MapKept.bytes_beq _ _).2 rfl⟩
 ·cases h
theorem bytes_eqb (a b:List UInt8):((⟨⟨a⟩⟩:ByteArray)==⟨⟨b⟩⟩)=(a==b):=by
 rw[Bool.eq_iff_iff,MapKept.bytes_beq]
 constructor
 ·intro h;cases h;simp
 ·intro h
  have e:a=b:=by simpa using h
  rw[e]
theorem sameNow_ok {kt:TypeId} {d:TypeDesc} {k x:AV} {k' x':Value} {b:Bool} (hd:P.underlying kt=some d) (hf:kfit P kt k=true) (h:keq k x=some b) (hk:toV L k=some k') (hx:toV L x=some x'):Instr.sameNow d k' x'=some b:=by
 unfold kfit at hf
 rw[hd] at hf
 unfold keq at h
 split at h
 ·cases h
  rw[toV_bool hk,toV_bool hx]
  split at hf<;>first|(rename_i e1 e2;cases e1;rfl)|(rename_i e1 e2;cases e2;done)|cases hf
 ·split at h
  ·rename_i hkk
   cases h
   subst hkk
   rw[toV_int hk,toV_int hx]
   split at hf<;>first|(rename_i e1 e2;cases e1;simp[Instr.sameNow];done)|(rename_i e1 e2;cases e2;done)|cases hf
  ·cases h
 ·cases h
  rw[toV_str hk,toV_str hx]
  split at hf<;>first|(rename_i e1 e2;cases e1;simp only[Instr.sameNow,bytes_eqb];done)|(rename_i e1 e2;cases e2;done)|cases hf
 ·cases h
theorem run_check {kt:TypeId} {k:AV} {k':Value} (hf:kfit P kt k=true) (hk:toV L k=some k') (e:Bool):(Instr.checkKey e 10000 kt k').run P w=.ok () w:=by
 show (Instr.checkKey e (9999+1) kt k').run P w=.ok () w
 unfold Instr.checkKey
 unfold kfit at hf
 split at hf
 ·rename_i hu;rw[toV_bool hk];simp only[Sem.run_bind,run_underlying hu,Result.andThen_ok,Sem.run_pure]
 ·rename_i hu;rw[toV_int hk];simp only[Sem.run_bind,run_underlying hu,Result.andThen_ok,Sem.run_pure]
 ·rename_i hu;rw[toV_str hk];simp only[Sem.run_bind,run_underlying hu,Result.andThen_ok,Sem.run_pure]
 ·cases hf
theorem findE_ok {kt:TypeId} {d:TypeDesc} {k:AV} {k':Value} (hd:P.underlying kt=some d) (hf:kfit P kt k=true) (hk:toV L k=some k'):∀ (l:List AEntry) (es:List MapEntry) (i:Nat) (r:Option (Nat×AV)),entsRel L l es→findE k l i=some r →
  (r=none→Instr.findNow d k' es i=some none)∧(∀ j v,r=some (j,v)→∃ v',toV L v=some v'∧Instr.findNow d k' es i=some (some (j,v'))∧i≤j∧∃ e x,l[j-i]?=some e∧es[j-i]?=some x∧entRel L e x∧keq k e.key=some true∧e.val=v)
 | [],[],i,r,_,h=>by
  simp only[findE] at h
  cases h
  exact⟨fun _=>rfl,fun j v h=>by cases h⟩
 | [],_::_,i,r,q,h=>q.elim
 | _::_,[],i,r,q,h=>q.elim
 | e :: l,x::es,i,r,q,h=>by
  simp only[findE] at h
  cases hq:keq k e.key with
  | none=>rw[hq] at h;cases h
  | some b =>
   rw[hq] at h
   have hs:=sameNow_ok hd hf hq hk q.1.1
   cases b with
   | true =>
    cases h
    refine⟨fun h=>(by cases h),fun j v h=>?_⟩
    cases h
    refine⟨x.val,q.1.2.1,?_,Nat.le_refl _,e,x,by simp,by simp,q.1,hq,rfl⟩
    simp only[Instr.findNow,hs]
   | false =>
    obtain⟨h1,h2⟩:=findE_ok hd hf hk l es (i+1) r q.2 h
    refine⟨fun hr=>?_,fun j v hr=>?_⟩
    ·simp only[Instr.findNow,hs];exact h1 hr
    ·obtain⟨v',k1,k2,k3,e2,x2,k4,k5,k6⟩:=h2 j v hr
     have e1:j-i=(j-(i+1))+1:=by omega
     refine⟨v',k1,?_,by omega,e2,x2,by rw[e1,List.getElem?_cons_succ];exact k4,by rw[e1,List.getElem?_cons_succ];exact k5,k6⟩
     simp only[Instr.findNow,hs];exact k2
theorem run_find {kt:TypeId} {d:TypeDesc} {k':Value} {es:List MapEntry} {r:Option (Nat×Value)} (hd:P.underlying kt=some d) (h:Instr.findNow d k' es 0=some r):(Instr.findKey kt k' es).run P w=.ok r w:=by
 simp only[Instr.findKey,Sem.run_bind,run_underlying hd,Result.andThen_ok,h,Sem.run_pure]
theorem kfit_desc {kt:TypeId} {k:AV} (h:kfit P kt k=true):∃ d,P.underlying kt=some d:=by
 unfold kfit at h
 split at h
 ·rename_i h1;exact⟨_,h1⟩
 ·rename_i h1;exact⟨_,h1⟩
 ·rename_i h1;exact⟨_,h1⟩
 ·cases h
def lookV (ok:Bool) (zv:Value) (r:Option (Nat×Value)):Value:=match r with
 | some p=>if ok then .tuple #[p.2,.bool true] else p.2
 | none=>if ok then .tuple #[zv,.bool false] else zv
theorem lookup_run {xt kt e:TypeId} {x' k' zv:Value} {es:Array MapEntry} {r:Option (Nat×Value)} {ok:Bool} (ht:P.underlying xt=some (.map kt e)) (hx:(x'=.map none∧es=#[])∨∃ q c,x'=.map (some q)∧w.heap[q]?=some (.map es c)) (hc:∀ b,(Instr.checkKey b 10000 kt k').run P w=.ok () w) (hf:(Instr.findKey kt k' es.toList).run P w=.ok r w) (hz:(zeroValue e).run P w=.ok zv w) :
  (Instr.lookup xt x' k' ok).run P w=.ok (lookV ok zv r) w:=by
 rcases hx with ⟨rfl,rfl⟩|⟨q,c,rfl,hq⟩
 ·simp only[Instr.lookup,Sem.run_bind,run_underlying ht,Result.andThen_ok,Sem.run_pure,hc,hf]
  cases r with
  | none=>simp only[Sem.run_bind,hz,Result.andThen_ok,Sem.run_pure];rfl
  | some p=>rfl
 ·simp only[Instr.lookup,Sem.run_bind,run_underlying ht,Result.andThen_ok,Sem.run_pure,MapKept.run_getObj_map hq,hc,hf]
  cases r with
  | none=>simp only[Sem.run_bind,hz,Result.andThen_ok,Sem.run_pure];rfl
  | some p=>rfl
theorem lookup_ok {t:TypeId} {x k:Operand} {ok:Bool} {v:AV} (o:Oper) (ho:o.op=.lookup t x k ok) (h:eLookup t x k ok P call env s=.ok v s') (c:Cx K L s w env a s'):Ok K L s w v s' ((execOp a.eval o).run P w):=by
 unfold eLookup at h
 split at h
 case h_2=>cases h
 rename_i m ka kt e hm hka ht
 have hkv:=opd_ok c.env hka
 have hmv:=opd_ok c.env hm
 have fin:∀ (r:Option (Nat×AV)) (z:AV) (s1:St),lookR s1 z ok (some r)=.ok v s'→s'=s1∧∀ (r':Option (Nat×Value)) (zv:Value),toV L z=some zv→(r=none→r'=none)→(∀ j u,r=some (j,u)→∃ u',toV L u=some u'∧r'=some (j,u')) →
   ∃ v',toV L v=some v'∧lookV ok zv r'=v':=fun r z s1 hl=>by
  cases r with
  | none =>
   simp only[lookR] at hl
   cases hl
   refine⟨rfl,fun r' zv hz h1 _=>?_⟩
   rw[h1 rfl]
   cases ok
   ·exact⟨zv,hz,rfl⟩
   ·exact⟨.tuple #[zv,.bool false],by simp only[toV,toVs];rw[hz],rfl⟩
  | some p =>
   obtain⟨j,u⟩:=p
   simp only[lookR] at hl
   cases hl
   refine⟨rfl,fun r' zv hz _ h2=>?_⟩
   obtain⟨u',hu,rfl⟩:=h2 j u rfl
   cases ok
   ·exact⟨u',hu,rfl⟩
   ·exact⟨.tuple #[u',.bool true],by simp only[toV,toVs];rw[hu],rfl⟩
 split at h
 ·rename_i z hf hz
  obtain⟨zv,hzv,hzr,_⟩:=tzero_spec hz
  obtain⟨d,hd⟩:=kfit_desc hf
  obtain⟨rfl,hfin⟩:=fin none z s h
  obtain⟨v',h1,h2⟩:=hfin none zv (hzv L) (fun _=>rfl) (fun j u h=>by cases h)
  refine Ok.pure c.heap h1 ?_
  have hm':a.eval x=.map none:=by simp only[toV] at hmv;exact(Option.some.inj hmv).symm
  have hrun:=lookup_run (P:=P) (w:=w) (x':=a.eval x) (k':=a.eval k) (es:=#[]) (r:=none) (ok:=ok) ht (.inl ⟨hm',rfl⟩) (fun b=>run_check hf hkv b) (run_find hd rfl) (hzr w)
  simp only[execOp,ho,Sem.run_bind,hrun,Result.andThen_ok,Sem.run_pure]
  rw[h2]
 ·rename_i z b hf hz
  obtain⟨zv,hzv,hzr,_⟩:=tzero_spec hz
  obtain⟨d,hd⟩:=kfit_desc hf
  split at h
  ·rename_i l cl hb
   cases hr:findE ka l 0 with
   | none=>rw[hr] at h;cases h
   | some r =>
    rw[hr] at h
    obtain⟨rfl,hfin⟩:=fin r z _ h
    obtain⟨lc,hl,hxe⟩:=toV_map hmv
    have hk0:K b 0:=c.cov.get ⟨false,b,0,1⟩ (by simp[St.rd]) 0 (Nat.le_refl _) (by show 0<0+1;omega)
    obtain⟨_,ob,ho2,hrel⟩:=obj_at c.heap hb rfl hk0 hl
    obtain⟨es,rfl,hes⟩:=omap hrel
    obtain⟨k1,k2⟩:=findE_ok hd hf hkv l es.toList 0 r hes hr
    have hfr:∃ r',Instr.findNow d (a.eval k) es.toList 0=some r'∧(r=none→r'=none)∧(∀ j u,r=some (j,u)→∃ u',toV L u=some u'∧r'=some (j,u')):=by
     cases r with
     | none=>exact⟨none,k1 rfl,fun _=>rfl,fun j u h=>by cases h⟩
     | some p =>
      obtain⟨j,u⟩:=p
      obtain⟨u',q1,q2,_⟩:=k2 j u rfl
      exact⟨_,q2,fun h=>(by cases h),fun j2 u2 h=>by cases h;exact⟨u',q1,rfl⟩⟩
    obtain⟨r',q1,q2,q3⟩:=hfr
    obtain⟨v',h1,h2⟩:=hfin r' zv (hzv L) q2 q3
    refine Ok.rd c.heap h1 ?_
    have hrun:=lookup_run (P:=P) (w:=w) (x':=a.eval x) (k':=a.eval k) (es:=es) (r:=r') (ok:=ok) ht (.inr ⟨lc.blk,cl,hxe,ho2⟩) (fun b=>run_check hf hkv b) (run_find hd q1) (hzr w)
    simp only[execOp,ho,Sem.run_bind,hrun,Result.andThen_ok,Sem.run_pure]
    rw[h2]
  ·cases h
 ·cases h
theorem entsRel.app:∀ {l:List AEntry} {es:List MapEntry} {e:AEntry} {x:MapEntry},entsRel L l es→entRel L e x→entsRel L (l++[e]) (es++[x])
 | [],[],_,_,_,h=>⟨h,trivial⟩
 | _::_,_::_,_,_,q,h=>⟨q.1,entsRel.app q.2 h⟩
 | [],_::_,_,_,q,_=>q.elim
 | _::_,[],_,_,q,_=>q.elim
theorem entsRel.mod {v:AV} {f:MapEntry→MapEntry}:∀ {l:List AEntry} {es:List MapEntry} {i:Nat},entsRel L l es→(∀ e x,l[i]?=some e→es[i]?=some x→entRel L e x→entRel L ⟨e.key,v,e.born⟩ (f x))→entsRel L (modE l i v) (es.modify i f)
 | [],[],_,_,_=>by simp[modE,entsRel]
 | e::l,x::es,0,q,h=>by
  simp only[modE,List.modify_cons,if_pos]
  exact⟨h e x rfl rfl q.1,q.2⟩
 | e::l,x::es,i+1,q,h=>by
  simp only[modE,List.modify_cons]
  rw[if_neg (by omega)]
  exact⟨q.1,entsRel.mod (i:=i) q.2 fun e' x' h1 h2=>h e' x' (by simpa using h1) (by simpa using h2)⟩
 | [],_::_,_,q,_=>q.elim
 | _::_,[],_,q,_=>q.elim
theorem entsRel.len:∀ {l:List AEntry} {es:List MapEntry},entsRel L l es→l.length=es.length
 | [],[],_=>rfl
 | _::_,_::_,q=>by simp[entsRel.len q.2]
 | [],_::_,q=>q.elim
 | _::_,[],q=>q.elim
theorem entsRel.get:∀ {l:List AEntry} {es:List MapEntry},entsRel L l es→∀ (i:Nat) (e:AEntry),l[i]?=some e→∃ x,es[i]?=some x∧entRel L e x
 | _::_,_::_,q,0,_,h=>by simp at h;subst h;exact⟨_,rfl,q.1⟩
 | _::_,_::_,q,i+1,e,h=>by simpa using entsRel.get q.2 i e (by simpa using h)
 | [],[],_,_,_,h=>by simp at h
 | [],_::_,q,_,_,_=>q.elim
 | _::_,[],q,_,_,_=>q.elim
theorem setMap_ok (hH:HRel K L (look s.h.get) w) {b:Nat} {l l':List AEntry} {cl cl':Nat} {lc:Loc} {es es':Array MapEntry} (hb:s.h.get b=some (.map l cl)) (hl:L b=some lc) (hk:K b 0) (ho:w.heap[lc.blk]?=some (.map es cl)) (hes:entsRel L l es.toList) (hes':entsRel L l' es'.toList) :
  (setObj lc.blk (.map es' cl')).run P w=.ok () { w with heap:=w.heap.setIfInBounds lc.blk (.map es' cl') }∧Step L s w [⟨true,b,0,1⟩] L (s.put b 0 1 (some (.map l' cl'))) { w with heap:=w.heap.setIfInBounds lc.blk (.map es' cl') } ∧
  HRel K L (look (s.put b 0 1 (some (.map l' cl'))).h.get) { w with heap:=w.heap.setIfInBounds lc.blk (.map es' cl') } :=
 setObj_ok hH hb hl hk ho (⟨rfl,hes⟩:oRel L (.map l cl) (.map es cl)) (⟨rfl,hes'⟩:oRel L (.map l' cl') (.map es' cl')) (obj_at hH hb rfl hk hl).1
theorem stays {x k':Value} (h:x=k') (h2:∀ n,Instr.sameBits n k' k'=true):(Instr.keyThatStays x k').run P w=.ok k' w:=by
 subst h
 simp only[Instr.keyThatStays,h2,if_true,Sem.run_pure]
theorem getD_key {es:Array MapEntry} {i:Nat} {x:MapEntry} (h:es.toList[i]?=some x):es[i]?=some x:=by simpa using h
theorem mapUpdate_ok {t:TypeId} {m k x:Operand} {v:AV} (o:Oper) (ho:o.op=.mapUpdate t m k x∨o.op=.insert t m k x) (h:eMapUpdate t m k x P call env s=.ok v s') (c:Cx K L s w env a s'):Ok K L s w v s' ((execOp a.eval o).run P w):=by
 unfold eMapUpdate at h
 split at h
 case h_2=>cases h
 rename_i b ka va kt e hm hka hva ht
 have hkv:=opd_ok c.env hka
 have hvv:=opd_ok c.env hva
 obtain⟨lc,hl,hxe⟩:=toV_map (opd_ok c.env hm)
 have hop:(execOp a.eval o).run P w=(do Instr.mapUpdate t (a.eval m) (a.eval k) (a.eval x);pure Next.skip:Sem Next).run P w:=by
  rcases ho with ho|ho<;>simp only[execOp,ho]
 rw[hop]
 split at h
 ·rename_i l cl hb hf
  obtain⟨d,hd⟩:=kfit_desc hf
  have go:∀ (l':List AEntry) (cl':Nat),Cov K (s.put b 0 1 (some (.map l' cl'))).lg→K b 0:=fun l' cl' hc=>hc.get ⟨true,b,0,1⟩ (by simp[St.put]) 0 (Nat.le_refl _) (by show 0<0+1;omega)
  split at h
  ·rename_i i u hr
   cases h
   have hk0:=go _ _ c.cov
   obtain⟨_,ob,ho2,hrel⟩:=obj_at c.heap hb rfl hk0 hl
   obtain⟨es,rfl,hes⟩:=omap hrel
   obtain⟨_,k2⟩:=findE_ok hd hf hkv l es.toList 0 _ hes hr
   obtain⟨u',q1,q2,_,e0,x0,q4,q5,q6,q7,q8⟩:=k2 i u rfl
   simp only[Nat.sub_zero] at q4 q5
   obtain⟨hxk,hsb⟩:=keq_true q7 hkv q6.1
   obtain⟨r1,r2,r3⟩:=setMap_ok (P:=P) (cl':=cl) (es':=es.modify i fun e=>{ e with key:=a.eval k,val:=a.eval x }) c.heap hb hl hk0 ho2 hes (l':=modE l i va) (by
    rw[Array.toList_modify]
    exact entsRel.mod hes fun e x h1 h2 h3=>by
     rw[q4] at h1;cases h1
     rw[q5] at h2;cases h2
     exact⟨by rw[← hxk];exact h3.1,hvv,h3.2.2⟩)
   refine⟨_,L,_,undef,rfl,r2,r3,.inr ⟨?_,rfl⟩⟩
   have hg:((es[i]?).map (·.key)).getD (a.eval k)=x0.key:=by rw[getD_key q5];rfl
   simp only[Instr.mapUpdate,hxe,Sem.run_bind,run_underlying ht,Result.andThen_ok,MapKept.run_getObj_map ho2,run_check hf hkv,run_find hd q2,hg,stays hxk hsb,r1,Sem.run_pure]
  ·rename_i hr
   cases h
   have hk0:=go _ _ c.cov
   obtain⟨_,ob,ho2,hrel⟩:=obj_at c.heap hb rfl hk0 hl
   obtain⟨es,rfl,hes⟩:=omap hrel
   obtain⟨k1,_⟩:=findE_ok hd hf hkv l es.toList 0 _ hes hr
   obtain⟨r1,r2,r3⟩:=setMap_ok (P:=P) (cl':=cl+1) (es':=es.push { key:=a.eval k,val:=a.eval x,born:=cl }) c.heap hb hl hk0 ho2 hes (l':=l++[⟨ka,va,cl⟩]) (by
    rw[Array.toList_push]
    exact entsRel.app hes ⟨hkv,hvv,rfl⟩)
   refine⟨_,L,_,undef,rfl,r2,r3,.inr ⟨?_,rfl⟩⟩
   simp only[Instr.mapUpdate,hxe,Sem.run_bind,run_underlying ht,Result.andThen_ok,MapKept.run_getObj_map ho2,run_check hf hkv,run_find hd (k1 rfl),r1,Sem.run_pure]
  ·cases h
 ·cases h
theorem mapEntry_ok {t:TypeId} {m k:Operand} {v:AV} (o:Oper) (ho:o.op=.mapEntry t m k) (h:eMapEntry t m k P call env s=.ok v s') (c:Cx K L s w env a s'):Ok K L s w v s' ((execOp a.eval o).run P w):=by
 unfold eMapEntry at h
 split at h
 case h_2=>cases h
 rename_i b ka kt e hm hka ht
 have hkv:=opd_ok c.env hka
 obtain⟨lc,hl,hxe⟩:=toV_map (opd_ok c.env hm)
 split at h
 ·rename_i l cl z hb hz hf
  obtain⟨d,hd⟩:=kfit_desc hf
  obtain⟨zv,hzv,hzr,_⟩:=tzero_spec hz
  have go:∀ (l':List AEntry) (cl':Nat),Cov K (s.put b 0 1 (some (.map l' cl'))).lg→K b 0:=fun l' cl' hc=>hc.get ⟨true,b,0,1⟩ (by simp[St.put]) 0 (Nat.le_refl _) (by show 0<0+1;omega)
  split at h
  ·rename_i i u hr
   cases h
   have hk0:=go _ _ c.cov
   obtain⟨_,ob,ho2,hrel⟩:=obj_at c.heap hb rfl hk0 hl
   obtain⟨es,rfl,hes⟩:=omap hrel
   obtain⟨_,k2⟩:=findE_ok hd hf hkv l es.toList 0 _ hes hr
   obtain⟨u',q1,q2,_,e0,x0,q4,q5,q6,q7,q8⟩:=k2 i u rfl
   simp only[Nat.sub_zero] at q4 q5
   obtain⟨hxk,hsb⟩:=keq_true q7 hkv q6.1
   have hmodl:∀ (l:List AEntry) (es:List MapEntry),entsRel L l es→es[i]?=some x0→entsRel L l (es.modify i fun e=>{ e with key:=a.eval k }):=fun l es q hx=>by
    have:(es.modify i fun e=>{ e with key:=a.eval k })=es:=by
     apply List.ext_getElem?
     intro j
     rw[List.getElem?_modify]
     by_cases hij:i=j
     ·subst hij;rw[hx];simp[← hxk]
     ·simp[hij]
    rw[this];exact q
   obtain⟨r1,r2,r3⟩:=setMap_ok (P:=P) (cl':=cl) (es':=es.modify i fun e=>{ e with key:=a.eval k }) c.heap hb hl hk0 ho2 hes (l':=l) (by
    rw[Array.toList_modify]
    exact hmodl _ _ hes q5)
   refine⟨_,L,_,.tuple #[u',goInt (((es[i]?).map (·.born)).getD 0)],?_,r2,r3,.inl ?_⟩
   ·simp only[toV,toVs]
    rw[q1,q4,getD_key q5]
    simp only[Option.map_some,Option.getD_some,goInt]
    rw[q6.2.2]
    rfl
   ·have hg:((es[i]?).map (·.key)).getD (a.eval k)=x0.key:=by rw[getD_key q5];rfl
    simp only[execOp,ho,Instr.mapEntry,hxe,Sem.run_bind,run_underlying ht,Result.andThen_ok,MapKept.run_getObj_map ho2,run_check hf hkv,run_find hd q2,hg,stays hxk hsb,r1,Sem.run_pure]
  ·rename_i hr
   cases h
   have hk0:=go _ _ c.cov
   obtain⟨_,ob,ho2,hrel⟩:=obj_at c.heap hb rfl hk0 hl
   obtain⟨es,rfl,hes⟩:=omap hrel
   obtain⟨k1,_⟩:=findE_ok hd hf hkv l es.toList 0 _ hes hr
   obtain⟨r1,r2,r3⟩:=setMap_ok (P:=P) (cl':=cl+1) (es':=es.push { key:=a.eval k,val:=zv,born:=cl }) c.heap hb hl hk0 ho2 hes (l':=l++[⟨ka,z,cl⟩]) (by
    rw[Array.toList_push]
    exact entsRel.app hes ⟨hkv,hzv L,rfl⟩)
   refine⟨_,L,_,.tuple #[zv,goInt cl],?_,r2,r3,.inl ?_⟩
   ·simp only[toV,toVs]
    rw[hzv L]
    rfl
   ·simp only[execOp,ho,Instr.mapEntry,hxe,Sem.run_bind,run_underlying ht,Result.andThen_ok,MapKept.run_getObj_map ho2,run_check hf hkv,run_find hd (k1 rfl),hzr,r1,Sem.run_pure]
  ·cases h
 ·cases h
theorem bornAt_ok:∀ (l:List AEntry) (es:List MapEntry) (b i j:Nat),entsRel L l es→bornAt b l i=some j→i≤j∧(∃ e x,l[j-i]?=some e∧es[j-i]?=some x∧entRel L e x∧e.born=b)∧∀ q x,q<j-i→es[q]?=some x→x.born≠b
 | [],_,b,i,j,_,h=>by simp only[bornAt] at h;cases h
 | _::_,[],_,_,_,q,_=>q.elim
 | e::l,x::es,b,i,j,q,h=>by
  simp only[bornAt] at h
  split at h
  ·rename_i hb
   cases h
   exact⟨Nat.le_refl _,⟨e,x,by simp,by simp,q.1,Nat.eq_of_beq_eq_true hb⟩,fun p y hp=>by omega⟩
  ·rename_i hb
   obtain⟨h1,⟨e',x',h2,h3,h4⟩,h5⟩:=bornAt_ok l es b (i+1) j q.2 h
   have e1:j-i=(j-(i+1))+1:=by omega
   refine⟨by omega,⟨e',x',by rw[e1,List.getElem?_cons_succ];exact h2,by rw[e1,List.getElem?_cons_succ];exact h3,h4⟩,fun p y hp hy=>?_⟩
   cases p with
   | zero =>
    simp at hy;subst hy
    rw[← q.1.2.2]
    exact Nat.ne_of_beq_eq_false hb
   | succ p=>exact h5 p y (by omega) (by simpa using hy)
theorem entryStore_ok {t:TypeId} {m st x:Operand} {v:AV} (o:Oper) (ho:o.op=.entryStore t m st x) (h:eEntryStore t m st x P call env s=.ok v s') (c:Cx K L s w env a s'):Ok K L s w v s' ((execOp a.eval o).run P w):=by
 unfold eEntryStore at h
 split at h
 case h_2=>cases h
 rename_i b q bn va hm hst hva
 have hvv:=opd_ok c.env hva
 have hsv:=toV_int (opd_ok c.env hst)
 obtain⟨lc,hl,hxe⟩:=toV_map (opd_ok c.env hm)
 split at h
 case h_2=>cases h
 rename_i l cl hb
 split at h
 case h_2=>cases h
 rename_i i hi
 cases h
 have hk0:K b 0:=c.cov.get ⟨true,b,0,1⟩ (by simp[St.put]) 0 (Nat.le_refl _) (by show 0<0+1;omega)
 obtain⟨_,ob,ho2,hrel⟩:=obj_at c.heap hb rfl hk0 hl
 obtain⟨es,rfl,hes⟩:=omap hrel
 obtain⟨_,⟨e0,x0,q1,q2,q3,q4⟩,q5⟩:=bornAt_ok l es.toList bn 0 i hes hi
 simp only[Nat.sub_zero] at q1 q2 q5
 obtain⟨r1,r2,r3⟩:=setMap_ok (P:=P) (cl':=cl) (es':=es.modify i fun e=>{ e with val:=a.eval x }) c.heap hb hl hk0 ho2 hes (l':=modE l i va) (by
  rw[Array.toList_modify]
  exact entsRel.mod hes fun e x h1 h2 h3=>⟨h3.1,hvv,h3.2.2⟩)
 refine⟨_,L,_,undef,rfl,r2,r3,.inr ⟨?_,rfl⟩⟩
 have hfi:es.findIdx? (fun e=>(e.born:Int)==Int.ofNat bn)=some i:=by
  rw[Array.findIdx?_eq_some_iff_getElem]
  have hlt:i<es.size:=by
   rcases Nat.lt_or_ge i es.toList.length with p|p
   ·simpa using p
   ·rw[List.getElem?_eq_none p] at q2;cases q2
  refine⟨hlt,?_,fun j hj=>?_⟩
  ·have:es[i]=x0:=by
    have:=q2
    rw[Array.getElem?_toList,Array.getElem?_eq_getElem hlt] at this
    exact Option.some.inj this
   rw[this,← q3.2.2,q4];simp
  ·have hj2:j<es.size:=by omega
   have:=q5 j es[j] hj (by rw[Array.getElem?_toList,Array.getElem?_eq_getElem hj2])
   simp only[Bool.not_eq_true,beq_eq_false_iff_ne,ne_eq]
   intro e
   apply this
   have e2:((es[j]).born:Int)=(bn:Int):=e
   omega
 simp only[execOp,ho,Instr.entryStore,hxe,hsv,asInt,asIntOf,Sem.run_bind,MapKept.run_getObj_map ho2,Result.andThen_ok,Sem.run_pure,hfi,r1]
theorem range_ok {t:TypeId} {x:Operand} {v:AV} (o:Oper) (ho:o.op=.range t x) (h:eRange t x P call env s=.ok v s') (c:Cx K L s w env a s'):Ok K L s w v s' ((execOp a.eval o).run P w):=by
 have ptr:∀ (L':Map),L'=L.put s.n ⟨w.heap.size,0,0⟩→toV L' (.ptr s.n 0)=some (.pointer (some ⟨w.heap.size,0,none⟩)):=fun L' e=>by
  subst e;simp only[toV];rw[Map.put_same];rfl
 unfold eRange at h
 split at h
 ·rename_i l hx hu
  cases h
  have hxe:=toV_str (opd_ok c.env hx)
  obtain⟨h2,h3⟩:=newObj_ok c.heap c.here (.striter l 0) (.stringIter ⟨⟨l⟩⟩ 0) rfl ⟨rfl,rfl⟩
  refine⟨_,_,_,_,ptr _ rfl,h2,h3,.inl ?_⟩
  simp only[execOp,ho,Instr.range,hxe,Sem.run_bind,run_underlying hu,Sem.run_pure,run_newObj,Result.andThen_ok]
 ·rename_i kt e hx hu
  cases h
  have hxe:a.eval x=.map none:=by have:=opd_ok c.env hx;simp only[toV] at this;exact(Option.some.inj this).symm
  obtain⟨h2,h3⟩:=newObj_ok c.heap c.here (.mapiter none 0 [] 0) (.mapIter none 0 #[] 0) rfl ⟨rfl,rfl,rfl⟩
  refine⟨_,_,_,_,ptr _ rfl,h2,h3,.inl ?_⟩
  simp only[execOp,ho,Instr.range,hxe,Sem.run_bind,run_underlying hu,Sem.run_pure,run_newObj,Result.andThen_ok]
 ·rename_i m kt e hx hu
  split at h
  case h_2=>cases h
  rename_i l cl hb
  cases h
  obtain⟨lc,hl,hxe⟩:=toV_map (opd_ok c.env hx)
  have hk0:K m 0:=c.cov.get ⟨false,m,0,1⟩ (by simp[St.rd,St.new]) 0 (Nat.le_refl _) (by show 0<0+1;omega)
  obtain⟨_,ob,ho2,hrel⟩:=obj_at c.heap hb rfl hk0 hl
  obtain⟨es,rfl,hes⟩:=omap hrel
  have hle:=Map.le_put L (⟨w.heap.size,0,0⟩:Loc) (c.fresh s.n (Nat.le_refl _) (Nat.lt_succ_self _))
  obtain⟨h2,h3⟩:=newObj_ok (s:=s.rd m 0 1) c.heap (c.fresh s.n (Nat.le_refl _) (Nat.lt_succ_self _)) (.mapiter (some m) cl [] cl) (.mapIter (some lc.blk) cl #[] cl) rfl ⟨⟨lc,hle m lc hl,rfl⟩,rfl,rfl,rfl⟩
  refine⟨_,_,_,_,ptr _ rfl,(Step.rd L s w m 0 1).trans h2,h3,.inl ?_⟩
  simp only[execOp,ho,Instr.range,hxe,Sem.run_bind,run_underlying hu,Sem.run_pure,MapKept.run_getObj_map ho2,run_newObj,Result.andThen_ok]
 ·cases h
theorem oiter_none {s0 st:Nat} {seen:List Nat} {o:Obj} (h:oRel L (.mapiter none s0 seen st) o):o=.mapIter none s0 ⟨seen⟩ st:=by
 cases o<;>first|exact h.elim|skip
 rename_i m a b c
 cases m with
 | none=>obtain⟨rfl,rfl,rfl⟩:=h;rfl
 | some q=>exact h.elim
theorem oiter_some {m0 s0 st:Nat} {seen:List Nat} {o:Obj} (h:oRel L (.mapiter (some m0) s0 seen st) o):∃ l,L m0=some l∧o=.mapIter (some l.blk) s0 ⟨seen⟩ st:=by
 cases o<;>first|exact h.elim|skip
 rename_i m a b c
 cases m with
 | none=>exact h.elim
 | some q=>obtain⟨⟨l,hl,rfl⟩,rfl,rfl,rfl⟩:=h;exact⟨l,hl,rfl⟩
theorem ostr {s0:List UInt8} {p:Nat} {o:Obj} (h:oRel L (.striter s0 p) o):o=.stringIter ⟨⟨s0⟩⟩ p:=by
 cases o<;>first|exact h.elim|skip
 obtain⟨rfl,rfl⟩:=h;rfl
theorem seen_has (seen:List Nat) (n:Nat):(⟨seen⟩:Array Nat).contains n=seen.any (Nat.beq n):=by
 rw[Bool.eq_iff_iff,Array.contains_iff_mem,List.any_eq_true]
 constructor
 ·intro h;exact⟨n,by simpa using h,Nat.beq_refl n⟩
 ·rintro⟨x,hx,hb⟩
  have:=Nat.eq_of_beq_eq_true hb
  subst this
  simpa using hx
theorem leftOf_rel (seen:List Nat):∀ {l:List AEntry} {es:List MapEntry},entsRel L l es→entsRel L (leftOf seen l) (es.filter fun e=>!(⟨seen⟩:Array Nat).contains e.born)
 | [],[],_=>trivial
 | e::l,x::es,q=>by
  have ih:=leftOf_rel seen q.2
  simp only[leftOf,List.filter_cons]
  rw[seen_has,← q.1.2.2]
  cases hs:seen.any (Nat.beq e.born) with
  | true=>exact ih
  | false=>exact⟨q.1,ih⟩
 | [],_::_,q=>q.elim
 | _::_,[],q=>q.elim
theorem nextOk_ok {seen:List Nat} {st:Nat} {l:List AEntry} {es:Array MapEntry} (h:nextOk seen st l=true) (q:entsRel L l es.toList):(!(⟨seen⟩:Array Nat).isEmpty&&!es.isEmpty&&es.all (·.born≥st))=false:=by
 cases seen with
 | nil=>rfl
 | cons y seen =>
  cases l with
  | nil =>
   have hl:=q.len
   have:es=#[]:=by
    cases es with|mk r=>cases r with|nil=>rfl|cons _ _=>simp at hl
   subst this;simp
  | cons e l =>
   simp only[nextOk] at h
   rw[List.any_eq_true] at h
   obtain⟨e1,he,hlt⟩:=h
   obtain⟨i,hi⟩:=List.mem_iff_getElem?.1 he
   obtain⟨x,hx,hr⟩:=q.get i e1 hi
   have hmem:x∈es:=by
    have:=List.mem_of_getElem? hx
    simpa using this
   have hl2:=blt_lt hlt
   have:es.all (·.born≥st)=false:=by
    rw[Bool.eq_false_iff]
    intro hall
    rw[Array.all_eq_true_iff_forall_mem] at hall
    have:=hall x hmem
    simp only[decide_eq_true_eq] at this
    have:=hr.2.2
    omega
   rw[this];simp
theorem bornFind:∀ {l:List AEntry} {es:List MapEntry} {b i j:Nat},entsRel L l es→bornAt b l i=some j→i≤j∧∃ e x,l[j-i]?=some e∧entRel L e x∧es.find? (fun e=>e.born==b)=some x
 | [],_,b,i,j,_,h=>by simp only[bornAt] at h;cases h
 | _::_,[],_,_,_,q,_=>q.elim
 | e::l,x::es,b,i,j,q,h=>by
  simp only[bornAt] at h
  split at h
  ·rename_i hb
   cases h
   refine⟨Nat.le_refl _,e,x,by simp,q.1,?_⟩
   have:=Nat.eq_of_beq_eq_true hb
   rw[List.find?_cons_of_pos]
   rw[← q.1.2.2,this];simp
  ·rename_i hb
   obtain⟨h1,e',x',h2,h3,h4⟩:=bornFind (l:=l) (es:=es) q.2 h
   have e1:j-i=(j-(i+1))+1:=by omega
   refine⟨by omega,e',x',by rw[e1,List.getElem?_cons_succ];exact h2,h3,?_⟩
   rw[List.find?_cons_of_neg]
   ·exact h4
   ·rw[← q.1.2.2]
    simp only[beq_iff_eq]
    exact Nat.ne_of_beq_eq_false hb
theorem next_ok {x:Operand} {isS:Bool} {v:AV} (o:Oper) (ho:o.op=.next x isS) (h:eNext x isS P call env s=.ok v s') (c:Cx K L s w env a s'):Ok K L s w v s' ((execOp a.eval o).run P w):=by
 unfold eNext at h
 split at h
 case h_2=>cases h
 rename_i b hx
 obtain⟨lc,hl,hxe⟩:=toV_ptr (opd_ok c.env hx)
 have at0:lc.off=0→a.eval x=.pointer (some ⟨lc.blk,0,none⟩):=fun h0=>by rw[hxe];simp[locAddr,h0]
 split at h
 ·rename_i _ _ _ _ _ hb
  cases h
  have hk0:K b 0:=c.cov.get ⟨false,b,0,1⟩ (by simp[St.rd]) 0 (Nat.le_refl _) (by show 0<0+1;omega)
  obtain⟨hoff,ob,ho2,hrel⟩:=obj_at c.heap hb rfl hk0 hl
  obtain rfl:=oiter_none hrel
  refine Ok.rd (v':=.tuple #[.bool false]) c.heap rfl ?_
  simp only[execOp,ho,Instr.next,at0 hoff,Sem.run_bind,run_getObj ho2 (by intro c e fz;simp),Result.andThen_ok,Sem.run_pure]
 ·rename_i _ _ m since seen st hb
  split at h
  case h_2=>cases h
  rename_i l cl hm
  have fin:∀ (s2:St),Cov K s2.lg→⟨false,m,0,1⟩∈s2.lg→(⟨false,b,0,1⟩∈s2.lg∨⟨true,b,0,1⟩∈s2.lg)→nextOk seen st l=true →
    lc.off=0∧K b 0∧K m 0∧∃ lm es,L m=some lm∧w.heap[lc.blk]?=some (.mapIter (some lm.blk) since ⟨seen⟩ st)∧w.heap[lm.blk]?=some (.map es cl)∧entsRel L l es.toList∧entsRel L (leftOf seen l) (es.filter fun e=>!(⟨seen⟩:Array Nat).contains e.born).toList ∧
     (!(⟨seen⟩:Array Nat).isEmpty&&!es.isEmpty&&es.all (·.born≥st))=false:=fun s2 hc h1 h2 hok=>by
   have hkm:K m 0:=hc.get _ h1 0 (Nat.le_refl _) (by show 0<0+1;omega)
   have hkb:K b 0:=by
    rcases h2 with h2|h2
    ·exact hc.get _ h2 0 (Nat.le_refl _) (by show 0<0+1;omega)
    ·exact hc.get _ h2 0 (Nat.le_refl _) (by show 0<0+1;omega)
   obtain⟨hoff,ob,ho2,hrel⟩:=obj_at c.heap hb rfl hkb hl
   obtain⟨lm,hlm,rfl⟩:=oiter_some hrel
   obtain⟨_,om,ho3,hrel3⟩:=obj_at c.heap hm rfl hkm hlm
   obtain⟨es,rfl,hes⟩:=omap hrel3
   exact⟨hoff,hkb,hkm,lm,es,hlm,ho2,ho3,hes,by rw[Array.toList_filter];exact leftOf_rel seen hes,nextOk_ok hok hes⟩
  split at h
  ·rename_i hok hleft
   cases h
   obtain⟨hoff,hkb,hkm,lm,es,hlm,ho2,ho3,hes,hle,hno⟩:=fin _ c.cov (by simp[St.rd]) (by simp[St.rd]) hok
   rw[hleft] at hle
   have hempty:(es.filter fun e=>!(⟨seen⟩:Array Nat).contains e.born)=#[]:=by
    have:=hle.len
    cases hq:(es.filter fun e=>!(⟨seen⟩:Array Nat).contains e.born) with|mk r=>rw[hq] at this;cases r with|nil=>rfl|cons _ _=>simp at this
   refine⟨_,L,w,.tuple #[.bool false],rfl,(Step.rd L s w b 0 1).trans (Step.rd L (s.rd b 0 1) w m 0 1),c.heap,.inl ?_⟩
   simp only[execOp,ho,Instr.next,at0 hoff,Sem.run_bind,run_getObj ho2 (by intro c e fz;simp),Result.andThen_ok,MapKept.run_getObj_map ho3,hno,Bool.false_eq_true,if_false,hempty]
   simp[Question.forced]
  ·rename_i e hok hleft
   split at h
   case h_2=>cases h
   rename_i hlt
   cases h
   obtain⟨hoff,hkb,hkm,lm,es,hlm,ho2,ho3,hes,hle,hno⟩:=fin _ c.cov (by simp[St.rd,St.put]) (by simp[St.rd,St.put]) hok
   rw[hleft] at hle
   have hone:∃ x,(es.filter fun e=>!(⟨seen⟩:Array Nat).contains e.born)=#[x]∧entRel L e x:=by
    cases hq:(es.filter fun e=>!(⟨seen⟩:Array Nat).contains e.born) with|mk r =>
     rw[hq] at hle
     match r,hle with
     | [x],q=>exact⟨x,rfl,q.1⟩
     | x::y::r,q=>exact q.2.elim
   obtain⟨x0,hone,hex⟩:=hone
   have hlt2:x0.born<since:=by rw[← hex.2.2];exact blt_lt hlt
   have hb1:(#[x0].filter fun e=>decide (e.born<since))=#[x0]:=by simp[hlt2]
   have hb2:(#[x0].filter fun e=>decide (e.born≥since))=#[]:=by simp[hlt2]
   obtain⟨r1,r2,r3⟩:=setObj_ok (P:=P) (s:=s.rd m 0 1) (x':=.mapiter (some m) since (seen++[e.born]) cl) (o':=.mapIter (some lm.blk) since ⟨seen++[x0.born]⟩ cl) c.heap hb hl hkb ho2 (⟨⟨lm,hlm,rfl⟩,rfl,rfl,rfl⟩:oRel L (.mapiter (some m) since seen st) (.mapIter (some lm.blk) since ⟨seen⟩ st)) ⟨⟨lm,hlm,rfl⟩,rfl,by rw[← hex.2.2],rfl⟩ hoff
   refine⟨_,L,_,.tuple #[.bool true,x0.key,x0.val],?_,(Step.rd L s w m 0 1).trans r2,r3,.inl ?_⟩
   ·simp only[toV,toVs]
    rw[hex.1,hex.2.1]
   ·simp only[execOp,ho,Instr.next,at0 hoff,Sem.run_bind,run_getObj ho2 (by intro c e fz;simp),Result.andThen_ok,MapKept.run_getObj_map ho3,hno,Bool.false_eq_true,if_false,hone,hb1,hb2]
    simp[Question.forced,r1]
  ·cases h
 ·rename_i _ _ l p hb
  split at h
  ·rename_i hlt
   cases h
   have hk0:K b 0:=c.cov.get ⟨true,b,0,1⟩ (by simp[St.put]) 0 (Nat.le_refl _) (by show 0<0+1;omega)
   obtain⟨hoff,ob,ho2,hrel⟩:=obj_at c.heap hb rfl hk0 hl
   obtain rfl:=ostr hrel
   have hlt2:p<(⟨⟨l⟩⟩:ByteArray).size:=by rw[bytes_size];exact blt_lt hlt
   obtain⟨r1,r2,r3⟩:=setObj_ok (P:=P) (x':=.striter l (p+(Utf8.decode ⟨l.toArray⟩ p).2)) (o':=.stringIter ⟨⟨l⟩⟩ (p+(Utf8.decode ⟨⟨l⟩⟩ p).2)) c.heap hb hl hk0 ho2 hrel ⟨rfl,rfl⟩ hoff
   refine⟨_,L,_,.tuple #[.bool true,goInt p,.int .i32 (Utf8.decode ⟨⟨l⟩⟩ p).1],rfl,r2,r3,.inl ?_⟩
   simp only[execOp,ho,Instr.next,at0 hoff,Sem.run_bind,run_getObj ho2 (by intro c e fz;simp),Result.andThen_ok,if_pos hlt2,r1,Sem.run_pure]
  ·rename_i hlt
   cases h
   have hk0:K b 0:=c.cov.get ⟨false,b,0,1⟩ (by simp[St.rd]) 0 (Nat.le_refl _) (by show 0<0+1;omega)
   obtain⟨hoff,ob,ho2,hrel⟩:=obj_at c.heap hb rfl hk0 hl
   obtain rfl:=ostr hrel
   have hlt2:¬ p<(⟨⟨l⟩⟩:ByteArray).size:=by
    rw[bytes_size]
    intro hp
    have:Nat.blt p l.length=true:=Nat.ble_eq_true_of_le hp
    rw[this] at hlt;cases hlt
   refine Ok.rd (v':=.tuple #[.bool false]) c.heap rfl ?_
   simp only[execOp,ho,Instr.next,at0 hoff,Sem.run_bind,run_getObj ho2 (by intro c e fz;simp),Result.andThen_ok,if_neg hlt2,Sem.run_pure]
 ·cases h
theorem entry_ok {x:Operand} {v:AV} (o:Oper) (ho:o.op=.entry x) (h:eEntry x P call env s=.ok v s') (c:Cx K L s w env a s'):Ok K L s w v s' ((execOp a.eval o).run P w):=by
 unfold eEntry at h
 split at h
 case h_2=>cases h
 rename_i b hx
 obtain⟨lc,hl,hxe⟩:=toV_ptr (opd_ok c.env hx)
 split at h
 case h_2=>cases h
 rename_i m since seen st hb
 split at h
 case h_2=>cases h
 rename_i l cl k hm hk
 split at h
 case h_2=>cases h
 rename_i i hbe hi
 split at h
 case h_2=>cases h
 rename_i e he
 cases h
 have hkb:K b 0:=c.cov.get ⟨false,b,0,1⟩ (by simp[St.rd]) 0 (Nat.le_refl _) (by show 0<0+1;omega)
 have hkm:K m 0:=c.cov.get ⟨false,m,0,1⟩ (by simp[St.rd]) 0 (Nat.le_refl _) (by show 0<0+1;omega)
 obtain⟨hoff,ob,ho2,hrel⟩:=obj_at c.heap hb rfl hkb hl
 obtain⟨lm,hlm,rfl⟩:=oiter_some hrel
 obtain⟨_,om,ho3,hrel3⟩:=obj_at c.heap hm rfl hkm hlm
 obtain⟨es,rfl,hes⟩:=omap hrel3
 have at0:a.eval x=.pointer (some ⟨lc.blk,0,none⟩):=by rw[hxe];simp[locAddr,hoff]
 obtain⟨_,e1,x1,q1,q2,q3⟩:=bornFind hes hi
 simp only[Nat.sub_zero] at q1
 rw[he] at q1;cases q1
 have hce:¬ (cl !=st)=true:=by
  have:=Nat.eq_of_beq_eq_true hbe
  subst this;simp
 have hback:(⟨seen⟩:Array Nat).back?=some k:=by simpa [Array.back?,List.getLast?_eq_getElem?] using hk
 have hfind:es.find? (fun e=>e.born==k)=some x1:=by rw[← q3];cases es;simp
 refine⟨_,L,w,.tuple #[x1.key,x1.val],?_,(Step.rd L s w b 0 1).trans (Step.rd L (s.rd b 0 1) w m 0 1),c.heap,.inl ?_⟩
 ·simp only[toV,toVs]
  rw[q2.1,q2.2.1]
 ·simp only[execOp,ho,Instr.entry,at0,Sem.run_bind,run_getObj ho2 (by intro c e fz;simp),Result.andThen_ok,hback,MapKept.run_getObj_map ho3,if_neg hce,hfind,Sem.run_pure]
end Go.Ev

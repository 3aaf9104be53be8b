/- Parts of this proof, one behind the other: EvE. -/
import Derived.Test.YtmfcmpnlipnopaaGreatTw5
import Derived.Laws.StructEq
set_option maxRecDepth 1000000
set_option maxHeartbeats 40000000
namespace Go.Ev
def EnvRel (L:Map) (env:Env) (a:Act):Prop:=∀ t x,env t=some x→∃ v,a.tmps[t]?=some v∧toV L x=some v
def Ok (K:Known) (L:Map) (s:St) (w:World) (x:AV) (s':St) (r:Result Next):Prop :=
 ∃ d L' w' v',toV L' x=some v'∧Step L s w d L' s' w'∧HRel K L' (look s'.h.get) w'∧(r=.ok (.value v') w'∨(r=.ok .skip w'∧v'=undef))
variable {P:Program} {K:Known} {L:Map} {s s':St} {w:World} {env:Env} {a:Act} {call:CallF}
theorem Ok.pure {x:AV} {v':Value} {r:Result Next} (hH:HRel K L (look s.h.get) w) (hv:toV L x=some v') (hr:r=.ok (.value v') w):Ok K L s w x s r :=
 ⟨[],L,w,v',hv,Step.refl L s w,hH,.inl hr⟩
theorem Ok.rd {x:AV} {v':Value} {r:Result Next} {b o n:Nat} (hH:HRel K L (look s.h.get) w) (hv:toV L x=some v') (hr:r=.ok (.value v') w):Ok K L s w x (s.rd b o n) r :=
 ⟨_,L,w,v',hv,Step.rd L s w b o n,hH,.inl hr⟩
theorem opd_ok (hE:EnvRel L env a) {x:Operand} {v:AV} (h:opd x env=some v):toV L v=some (a.eval x):=by
 cases x with
 | tmp t =>
  obtain⟨v',h1,h2⟩:=hE t v h
  rw[h2]
  show some v'=some (a.tmps.getD t undef)
  simp[h1]
 | const c=>exact toV_ofV L c v h
 | global g=>cases h
 | func f=>cases h;rfl
theorem opds_ok (hE:EnvRel L env a):∀ {l:List Operand} {vs:List AV},opds env l=some vs→toVs L vs=some (l.map a.eval)
 | [],vs,h=>by simp only[opds] at h;cases h;rfl
 | x::l,vs,h=>by
  simp only[opds] at h
  cases hx:opd x env with
  | none=>rw[hx] at h;cases h
  | some v =>
   cases hl:opds env l with
   | none=>rw[hx,hl] at h;cases h
   | some r =>
    rw[hx,hl] at h;cases h
    simp only[toVs,List.map_cons]
    rw[opd_ok hE hx,opds_ok hE hl]
theorem of_ok {x:Option AV} {v:AV} (h:R.of s x=.ok v s'):x=some v∧s'=s:=by
 cases x with
 | none=>cases h
 | some y=>cases h;exact⟨rfl,rfl⟩
theorem toV_int {k:IntKind} {n:Int} {v:Value} (h:toV L (.int k n)=some v):v=.int k n:=by simp only[toV] at h;cases h;rfl
theorem toV_bool {b:Bool} {v:Value} (h:toV L (.bool b)=some v):v=.bool b:=by simp only[toV] at h;cases h;rfl
theorem toV_str {l:List UInt8} {v:Value} (h:toV L (.str l)=some v):v=.string ⟨⟨l⟩⟩:=by simp only[toV] at h;cases h;rfl
theorem toV_ptr {b o:Nat} {v:Value} (h:toV L (.ptr b o)=some v):∃ l,L b=some l∧v=.pointer (some (locAddr l o)):=by
 simp only[toV] at h
 cases hb:L b with
 | none=>rw[hb] at h;cases h
 | some l=>rw[hb] at h;cases h;exact⟨l,rfl,rfl⟩
theorem toV_sl {b o n c:Nat} {v:Value} (h:toV L (.sl b o n c)=some v):∃ l,L b=some l∧v=.slice (some (locAddr l o)) n c:=by
 simp only[toV] at h
 cases hb:L b with
 | none=>rw[hb] at h;cases h
 | some l=>rw[hb] at h;cases h;exact⟨l,rfl,rfl⟩
theorem toV_su {b o n z:Nat} {v:Value} (h:toV L (.su b o n z)=some v):∃ l,L b=some l∧0<z∧o+n*z≤l.cc∧v=.slice (some (locAddr l o)) n ((l.cc-o) / z):=by
 simp only[toV] at h
 cases hb:L b with
 | none=>rw[hb] at h;cases h
 | some l =>
  rw[hb] at h
  simp only[] at h
  split at h
  ·rename_i hc;cases h;exact⟨l,rfl,hc.1,hc.2.1,rfl⟩
  ·cases h
theorem toV_su_cap {b o n z:Nat} {v:Value} (h:toV L (.su b o n z)=some v) {l:Loc} (hl:L b=some l):(l.cc-o) / z≤9223372036854775807:=by
 simp only[toV] at h
 rw[hl] at h
 simp only[] at h
 split at h
 ·rename_i hc;exact hc.2.2
 ·cases h
theorem toV_map {b:Nat} {v:Value} (h:toV L (.map b)=some v):∃ l,L b=some l∧v=.map (some l.blk):=by
 simp only[toV] at h
 cases hb:L b with
 | none=>rw[hb] at h;cases h
 | some l=>rw[hb] at h;cases h;exact⟨l,rfl,rfl⟩
theorem toV_agg {l:List AV} {v:Value} (h:toV L (.agg l)=some v):∃ r,toVs L l=some r∧v=.agg ⟨r⟩:=by
 simp only[toV] at h
 cases hb:toVs L l with
 | none=>rw[hb] at h;cases h
 | some l=>rw[hb] at h;cases h;exact⟨l,rfl,rfl⟩
theorem toV_tup {l:List AV} {v:Value} (h:toV L (.tup l)=some v):∃ r,toVs L l=some r∧v=.tuple ⟨r⟩:=by
 simp only[toV] at h
 cases hb:toVs L l with
 | none=>rw[hb] at h;cases h
 | some l=>rw[hb] at h;cases h;exact⟨l,rfl,rfl⟩
theorem toV_iface {t:TypeId} {x:AV} {v:Value} (h:toV L (.iface t x)=some v):∃ r,toV L x=some r∧v=.iface t r:=by
 simp only[toV] at h
 cases hb:toV L x with
 | none=>rw[hb] at h;cases h
 | some l=>rw[hb] at h;cases h;exact⟨l,rfl,rfl⟩
theorem toV_fn {f:Fn} {x y:List AV} {v:Value} (h:toV L (.fn f x y)=some v):∃ p q,toVs L x=some p∧toVs L y=some q∧v=.func f ⟨p⟩ ⟨q⟩:=by
 simp only[toV] at h
 cases hx:toVs L x with
 | none=>rw[hx] at h;cases h
 | some p =>
  cases hy:toVs L y with
  | none=>rw[hx,hy] at h;cases h
  | some q=>rw[hx,hy] at h;cases h;exact⟨p,q,rfl,rfl,rfl⟩
structure Cx (K:Known) (L:Map) (s:St) (w:World) (env:Env) (a:Act) (s':St):Prop where
 env:EnvRel L env a
 heap:HRel K L (look s.h.get) w
 cov:Cov K s'.lg
 fresh:∀ b,s.n≤b→b<s'.n→L b=none
theorem move_ok {x:Operand} {v:AV} (o:Oper) (ho:o.op=.move x∨o.op=.assign x) (h:eMove x P call env s=.ok v s') (c:Cx K L s w env a s'):Ok K L s w v s' ((execOp a.eval o).run P w):=by
 obtain⟨h1,rfl⟩:=of_ok h
 refine Ok.pure c.heap (opd_ok c.env h1) ?_
 rcases ho with ho|ho<;>simp only[execOp,ho,Sem.run_pure]
theorem pick_ok {x y z:Operand} {v:AV} (o:Oper) (ho:o.op=.pick x y z) (h:ePick x y z P call env s=.ok v s') (c:Cx K L s w env a s'):Ok K L s w v s' ((execOp a.eval o).run P w):=by
 unfold ePick at h
 split at h
 ·rename_i hc
  obtain⟨h1,rfl⟩:=of_ok h
  refine Ok.pure c.heap (opd_ok c.env h1) ?_
  have:=toV_bool (opd_ok c.env hc)
  simp only[execOp,ho,this,asBool,Sem.run_bind,Sem.run_pure,Result.andThen_ok,if_true]
 ·rename_i hc
  obtain⟨h1,rfl⟩:=of_ok h
  refine Ok.pure c.heap (opd_ok c.env h1) ?_
  have:=toV_bool (opd_ok c.env hc)
  simp only[execOp,ho,this,asBool,Sem.run_bind,Sem.run_pure,Result.andThen_ok,Bool.false_eq_true,if_false]
 ·cases h
theorem loadOp_ok {t:TypeId} {x:Operand} {v:AV} (o:Oper) (ho:o.op=.load t x) (h:eLoad t x P call env s=.ok v s') (c:Cx K L s w env a s'):Ok K L s w v s' ((execOp a.eval o).run P w):=by
 unfold eLoad at h
 split at h
 ·rename_i b k hc
  obtain⟨l,hl,hx⟩:=toV_ptr (opd_ok c.env hc)
  obtain⟨n,rfl,v',hv,hr⟩:=load_ok (P:=P) c.heap h c.cov hl
  refine Ok.rd c.heap hv ?_
  simp only[execOp,ho,Instr.loadAt,hx,Instr.sureAddr,Sem.run_bind,Sem.run_pure,Result.andThen_ok,hr]
 ·cases h
theorem nilCheck_ok {x:Operand} {v:AV} (o:Oper) (ho:o.op=.nilCheck x) (h:eNilCheck x P call env s=.ok v s') (c:Cx K L s w env a s'):Ok K L s w v s' ((execOp a.eval o).run P w):=by
 unfold eNilCheck at h
 split at h
 ·rename_i b k hc
  cases h
  have hv:=opd_ok c.env hc
  obtain⟨l,hl,hx⟩:=toV_ptr hv
  refine Ok.pure c.heap hv ?_
  simp only[execOp,ho,hx,Sem.run_pure]
 ·rename_i f p q hc
  cases h
  have hv:=opd_ok c.env hc
  obtain⟨_,_,_,_,hx⟩:=toV_fn hv
  refine Ok.pure c.heap hv ?_
  simp only[execOp,ho,hx,Sem.run_pure]
 ·cases h
theorem toVs_cut {l q:List AV} {r:List Value} {o n:Nat} (h:toVs L l=some r) (hc:cut l o n=some q):toVs L q=some ((r.drop o).take n):=by
 obtain⟨h1,h2⟩:=toVs_get h
 obtain⟨h3,h4⟩:=cut_spec hc
 have hle:n=0∨o+n≤r.length:=by
  by_cases hn:n=0
  ·exact .inl hn
  ·refine .inr ?_
   have:=h4 (n-1)
   rw[if_pos (by omega),List.getElem?_eq_getElem (by omega)] at this
   have h5:o+(n-1)<l.length:=by
    rcases Nat.lt_or_ge (o+(n-1)) l.length with q|q
    ·exact q
    ·rw[List.getElem?_eq_none q] at this;cases this
   omega
 refine toVs_of _ _ (by rw[h3];simp;omega) (fun j v hv=>?_)
 rw[h4 j] at hv
 split at hv
 ·rename_i hj
  obtain⟨v',k1,k2⟩:=h2 _ _ hv
  exact⟨v',k1,by rw[List.getElem?_take,if_pos hj,List.getElem?_drop];exact k2⟩
 ·cases hv
theorem part_ok {t:TypeId} {l:List AV} {r:List Value} {o:Nat} {v:AV} (hl:toVs L l=some r) (h:Ev.part P t l o=some v):∃ v',toV L v=some v'∧(Go.part t ⟨r⟩ o).run P w=.ok v' w:=by
 unfold Ev.part at h
 split at h
 ·rename_i n ht
  obtain⟨k1,k2⟩:=tshape_run ht w
  split at h
  ·rename_i q hq
   cases h
   refine⟨.agg ⟨(r.drop o).take n⟩,by simp only[toV];rw[toVs_cut hl hq],?_⟩
   simp only[Go.part,Sem.run_bind,k1,k2,Result.andThen_ok,if_true,Sem.run_pure]
   congr 2
   apply Array.ext'
   simp
  ·cases h
 ·rename_i n ht
  obtain⟨k1,k2⟩:=tshape_run ht w
  obtain⟨v',m1,m2⟩:=(toVs_get hl).2 _ _ h
  refine⟨v',m1,?_⟩
  have:(⟨r⟩:Array Value)[o]?=some v':=by simpa using m2
  simp only[Go.part,Sem.run_bind,k1,Result.andThen_ok,Bool.false_eq_true,if_false,this,Sem.run_pure]
 ·cases h
theorem tfield_spec {t:TypeId} {i:Nat} {f:Field} (h:tfield P t i=some f):∃ fs,P.underlying t=some (.struct fs)∧fs[i]?=some f:=by
 unfold tfield at h
 split at h
 ·rename_i fs hu;exact⟨fs,hu,h⟩
 ·cases h
theorem field_ok {t:TypeId} {x:Operand} {i:Nat} {v:AV} (o:Oper) (ho:o.op=.field t x i) (h:eField t x i P call env s=.ok v s') (c:Cx K L s w env a s'):Ok K L s w v s' ((execOp a.eval o).run P w):=by
 unfold eField at h
 split at h
 ·rename_i l f hx hf
  obtain⟨h1,rfl⟩:=of_ok h
  obtain⟨fs,hu,hfi⟩:=tfield_spec hf
  obtain⟨r,hr,hxe⟩:=toV_agg (opd_ok c.env hx)
  obtain⟨v',hv,hp⟩:=part_ok (P:=P) (w:=w) hr h1
  refine Ok.pure c.heap hv ?_
  simp only[execOp,ho,Instr.field,hxe,Sem.run_bind,run_underlying hu,Result.andThen_ok,hfi,asAgg,Sem.run_pure,hp]
 ·cases h
theorem fieldAddr_ok {t:TypeId} {x:Operand} {i:Nat} {v:AV} (o:Oper) (ho:o.op=.fieldAddr t x i) (h:eFieldAddr t x i P call env s=.ok v s') (c:Cx K L s w env a s'):Ok K L s w v s' ((execOp a.eval o).run P w):=by
 unfold eFieldAddr at h
 split at h
 ·rename_i b k n hx hf
  cases h
  unfold tfplace at hf
  split at hf
  ·rename_i f hff
   obtain⟨fs,hu,hfi⟩:=tfield_spec hff
   obtain⟨l,hl,hxe⟩:=toV_ptr (opd_ok c.env hx)
   cases hne:tsize P f.type with
   | none=>rw[hne] at hf;cases hf
   | some z =>
    rw[hne] at hf
    cases z with
    | zero=>cases hf
    | succ z =>
     cases hf
     refine Ok.pure (v':=.pointer (some (locAddr l (k+f.offset)))) c.heap (by simp only[toV];rw[hl]) ?_
     simp only[execOp,ho,Instr.fieldAt,hxe,Sem.run_bind,run_underlying hu,Result.andThen_ok,hfi,Instr.sureAddr,Sem.run_pure,fieldPlace,tsize_run hne,Nat.add_one_ne_zero,if_false,addr_add]
  ·cases hf
 ·cases h
theorem tel_spec {t:TypeId} {e:TypeId} {z:Nat} (h:tel P t=some (e,z)):P.underlying t=some (.slice e)∧0<z∧∃ i zv,P.info? e=some i∧i.size=z∧tzero P e=some zv∧zv.cells.length=z∧i.bytes≤1048576:=by
 unfold tel at h
 split at h
 ·rename_i e' hu
  split at h
  ·rename_i i zv hi hz
   split at h
   ·rename_i b1 b2 b3
    cases h
    refine⟨hu,?_,i,zv,hi,rfl,hz,Nat.eq_of_beq_eq_true b2,Nat.le_of_ble_eq_true b3⟩
    exact Nat.le_of_ble_eq_true b1
   ·cases h
  ·cases h
 ·cases h
theorem tel_size {t:TypeId} {e:TypeId} {z:Nat} (h:tel P t=some (e,z)) (w:World):(sizeOf e).run P w=.ok z w:=by
 obtain⟨_,_,i,_,hi,rfl,_⟩:=tel_spec h
 simp[sizeOf,typeInfo,hi]
theorem blt_lt {a b:Nat} (h:Nat.blt a b=true):a<b:=Nat.le_of_ble_eq_true h
theorem indexAddr_ok {t:TypeId} {x i:Operand} {v:AV} (o:Oper) (ho:o.op=.indexAddr t x i) (h:eIndexAddr t x i P call env s=.ok v s') (c:Cx K L s w env a s'):Ok K L s w v s' ((execOp a.eval o).run P w):=by
 have key:∀ (A:Addr) (n k:Nat) (e:TypeId) (z cp:Nat) (q:IntKind),k<n→(sizeOf e).run P w=.ok z w→P.underlying t=some (.slice e)→a.eval x=.slice (some A) n cp→a.eval i=.int q (k:Nat) →
   (execOp a.eval o).run P w=.ok (.value (.pointer (some (A.add (k*z))))) w:=fun A n k e z cp q hk hs hu hx hi=>by
  have hk2:(0:Int)≤(k:Int)∧(k:Int)<(n:Int):=by omega
  simp only[execOp,ho,Instr.indexAt,hx,hi,asIntOf,Sem.run_bind,Sem.run_pure,Result.andThen_ok,run_underlying hu,if_pos hk2,hs,Int.toNat_natCast]
 unfold eIndexAddr at h
 split at h
 ·rename_i b k n cp q j hx hi
  unfold idx at h
  split at h
  ·rename_i e z hlt ht
   cases h
   obtain⟨l,hl,hxe⟩:=toV_sl (opd_ok c.env hx)
   have hie:=toV_int (opd_ok c.env hi)
   refine Ok.pure (v':=.pointer (some (locAddr l (k+j*z)))) c.heap (by simp only[toV];rw[hl]) ?_
   rw[key (locAddr l k) n j e z cp q (blt_lt hlt) (tel_size ht w) (tel_spec ht).1 hxe hie,addr_add]
  ·cases h
 ·rename_i b k n z0 q j hx hi
  unfold idx at h
  split at h
  ·rename_i e z hlt ht
   cases h
   obtain⟨l,hl,_,_,hxe⟩:=toV_su (opd_ok c.env hx)
   have hie:=toV_int (opd_ok c.env hi)
   refine Ok.pure (v':=.pointer (some (locAddr l (k+j*z)))) c.heap (by simp only[toV];rw[hl]) ?_
   rw[key (locAddr l k) n j e z _ q (blt_lt hlt) (tel_size ht w) (tel_spec ht).1 hxe hie,addr_add]
  ·cases h
 ·rename_i b k q j hx hi
  split at h
  ·rename_i n z ht
   unfold idx at h
   split at h
   ·rename_i e z' hlt hz
    cases hz
    cases h
    unfold tarr at ht
    split at ht
    ·rename_i n' e' hu
     cases hz2:tsize P e' with
     | none=>rw[hz2] at ht;cases ht
     | some z2 =>
      rw[hz2] at ht
      cases z2 with
      | zero=>cases ht
      | succ z2 =>
       cases ht
       obtain⟨l,hl,hxe⟩:=toV_ptr (opd_ok c.env hx)
       have hie:=toV_int (opd_ok c.env hi)
       refine Ok.pure (v':=.pointer (some (locAddr l (k+j*(z2+1))))) c.heap (by simp only[toV];rw[hl]) ?_
       have hjn:=blt_lt hlt
       have hk2:(0:Int)≤(j:Int)∧(j:Int)<(n:Int):=by omega
       simp only[execOp,ho,Instr.indexAt,hxe,hie,asIntOf,Sem.run_bind,Sem.run_pure,Result.andThen_ok,run_underlying hu,Instr.sureAddr]
       simp only[Int.ofNat_eq_natCast,if_pos hk2,Sem.run_bind,Sem.run_pure,tsize_run hz2,Result.andThen_ok,Int.toNat_natCast,addr_add]
    ·cases ht
   ·cases h
  ·cases h
 ·cases h
theorem extract_ok {x:Operand} {i:Nat} {v:AV} (o:Oper) (ho:o.op=.extract x i) (h:eExtract x i P call env s=.ok v s') (c:Cx K L s w env a s'):Ok K L s w v s' ((execOp a.eval o).run P w):=by
 unfold eExtract at h
 split at h
 ·rename_i l hx
  obtain⟨h1,rfl⟩:=of_ok h
  obtain⟨r,hr,hxe⟩:=toV_tup (opd_ok c.env hx)
  obtain⟨v',k1,k2⟩:=(toVs_get hr).2 _ _ h1
  refine Ok.pure c.heap k1 ?_
  have:(⟨r⟩:Array Value)[i]?=some v':=by simpa using k2
  simp only[execOp,ho,hxe,Instr.extract,this,Sem.run_bind,Sem.run_pure,Result.andThen_ok]
 ·cases h
theorem makeI_ok {t:TypeId} {x:Operand} {v:AV} (o:Oper) (ho:o.op=.makeInterface t x) (h:eMakeI t x P call env s=.ok v s') (c:Cx K L s w env a s'):Ok K L s w v s' ((execOp a.eval o).run P w):=by
 unfold eMakeI at h
 split at h
 ·cases h
 ·rename_i y d hn hx hd
  cases h
  have hv:=opd_ok c.env hx
  refine Ok.pure (v':=.iface t (a.eval x)) c.heap (by simp only[toV];rw[hv]) ?_
  simp only[execOp,ho,Instr.makeInterface,Sem.run_bind,run_underlying hd,Result.andThen_ok]
  cases d<;>first|rfl|exact(hn _ rfl).elim
 ·cases h
theorem makeF_ok {f:Fn} {x y:Array Operand} {v:AV} (o:Oper) (ho:o.op=.makeFunc f x y) (h:eMakeF f x y P call env s=.ok v s') (c:Cx K L s w env a s'):Ok K L s w v s' ((execOp a.eval o).run P w):=by
 unfold eMakeF at h
 split at h
 ·rename_i p q hp hq
  cases h
  have h1:=opds_ok c.env hp
  have h2:=opds_ok c.env hq
  refine Ok.pure (v':=.func f (x.map a.eval) (y.map a.eval)) c.heap ?_ (by simp only[execOp,ho,Instr.makeFunc,Sem.run_bind,Sem.run_pure,Result.andThen_ok])
  simp only[toV];rw[h1,h2]
  simp only[]
  congr 2<;>(apply Array.ext';simp)
 ·cases h
/-! equality, arithmetic -/
theorem teqF_ok {L:Map} {f:TypeId→AV→AV→Option Bool} {D:Nat} (hf:∀ t x y b x' y',f t x y=some b→toV L x=some x'→toV L y=some y'→(Op.equalIn D t x' y').run P w=.ok b w)
  {xs ys:List AV} {xs' ys':List Value} (hx:toVs L xs=some xs') (hy:toVs L ys=some ys') :
  ∀ (fs:List Field) (b:Bool),teqF P f xs ys fs=some b→(Op.eqFields D ⟨xs'⟩ ⟨ys'⟩ fs).run P w=.ok b w
 | [],b,h=>by simp only[teqF] at h;cases h;rfl
 | g :: fs,b,h=>by
  simp only[teqF] at h
  split at h
  ·rename_i hn
   have hn' : ¬ (g.name ≠ "_") := by simpa using hn
   simp only[Op.eqFields,if_neg hn']
   exact teqF_ok hf hx hy fs b h
  ·rename_i hn
   have hn' : g.name ≠ "_" := by simpa using hn
   split at h
   ·rename_i u v hu hv
    obtain⟨u',ku,pu⟩:=part_ok (P:=P) (w:=w) hx hu
    obtain⟨v',kv,pv⟩:=part_ok (P:=P) (w:=w) hy hv
    simp only[Op.eqFields,if_pos hn',Sem.run_bind,pu,pv,Result.andThen_ok]
    split at h
    ·rename_i hb
     rw[hf _ _ _ _ _ _ hb ku kv]
     simp only[Result.andThen_ok,Bool.not_true,Bool.false_eq_true,if_false]
     exact teqF_ok hf hx hy fs b h
    ·rename_i hb
     cases h
     rw[hf _ _ _ _ _ _ hb ku kv]
     simp only[Result.andThen_ok,Bool.not_false,if_true,Sem.run_pure]
    ·cases h
   ·cases h
theorem bytes_beq (a b:List UInt8):((⟨⟨a⟩⟩:ByteArray).toList==(⟨⟨b⟩⟩:ByteArray).toList)=(a==b):=by
 rw[ByteArray.toList_eq,ByteArray.toList_eq]
theorem teq_ok {L:Map}:∀ (d D:Nat),d≤D→∀ (t:TypeId) (x y:AV) (b:Bool) (x' y':Value),teq P d t x y=some b→toV L x=some x'→toV L y=some y'→(Op.equalIn D t x' y').run P w=.ok b w
 | 0,_,_,t,x,y,b,x',y',h,_,_=>by simp only[teq] at h;cases h
 | d+1,0,hD,_,_,_,_,_,_,_,_,_=>by omega
 | d + 1,D+1,hD,t,x,y,b,x',y',h,hx,hy=>by
  unfold teq at h
  split at h
  ·rename_i a c hu;cases h;rw[toV_bool hx,toV_bool hy];exact run_equalIn_bool' w D t a c hu
  ·rename_i k k1 a k2 c hu
   split at h
   ·rename_i hk;subst hk;cases h;rw[toV_int hx,toV_int hy];exact run_equalIn_int w D t _ k a c hu
   ·cases h
  ·rename_i a c hu;cases h;rw[toV_str hx,toV_str hy,run_equalIn_string w D t _ _ hu,bytes_beq]
  ·rename_i e hu;cases h;cases hx;cases hy;simp[Op.equalIn,run_underlying hu]
  ·rename_i e p q hu;cases h;cases hx;obtain⟨l,_,rfl⟩:=toV_ptr hy;simp[Op.equalIn,run_underlying hu]
  ·rename_i e p q hu;cases h;cases hy;obtain⟨l,_,rfl⟩:=toV_ptr hx;simp[Op.equalIn,run_underlying hu]
  ·rename_i e p q p2 q2 hu
   split at h
   ·rename_i n hbe hs
    cases h
    obtain⟨l,hl,rfl⟩:=toV_ptr hx
    obtain⟨l2,hl2,rfl⟩:=toV_ptr hy
    have:=Nat.eq_of_beq_eq_true hbe
    subst this
    rw[hl] at hl2;cases hl2
    have hne:n+1≠0:=by omega
    simp only[Op.equalIn,Sem.run_bind,run_underlying hu,Result.andThen_ok,tsize_run hs,if_pos hne,sameAddr,locAddr,beq_self_eq_true,if_true,Sem.run_pure]
    congr 1
    cases hq:Nat.beq q q2 with
    | true=>have:=Nat.eq_of_beq_eq_true hq;subst this;simp
    | false =>
     have:q≠q2:=Nat.ne_of_beq_eq_false hq
     simp<;>omega
   ·cases h
  ·rename_i e hu;cases h;cases hx;cases hy;simp[Op.equalIn,run_underlying hu]
  ·rename_i e p q n m hu;cases h;cases hx;obtain⟨l,_,rfl⟩:=toV_sl hy;simp[Op.equalIn,run_underlying hu]
  ·rename_i e p q n m hu;cases h;cases hy;obtain⟨l,_,rfl⟩:=toV_sl hx;simp[Op.equalIn,run_underlying hu]
  ·rename_i e p q n m hu;cases h;cases hx;obtain⟨l,_,_,_,rfl⟩:=toV_su hy;simp[Op.equalIn,run_underlying hu]
  ·rename_i e p q n m hu;cases h;cases hy;obtain⟨l,_,_,_,rfl⟩:=toV_su hx;simp[Op.equalIn,run_underlying hu]
  ·rename_i e g hu;cases h;cases hx;cases hy;simp[Op.equalIn,run_underlying hu]
  ·rename_i e g q hu;cases h;cases hx;obtain⟨l,_,rfl⟩:=toV_map hy;simp[Op.equalIn,run_underlying hu]
  ·rename_i e g q hu;cases h;cases hy;obtain⟨l,_,rfl⟩:=toV_map hx;simp[Op.equalIn,run_underlying hu]
  ·rename_i p q r hu;cases h;cases hx;cases hy;simp[Op.equalIn,run_underlying hu]
  ·rename_i p q r f g m hu;cases h;cases hx;obtain⟨_,_,_,_,rfl⟩:=toV_fn hy;simp[Op.equalIn,run_underlying hu]
  ·rename_i p q r f g m hu;cases h;cases hy;obtain⟨_,_,_,_,rfl⟩:=toV_fn hx;simp[Op.equalIn,run_underlying hu]
  ·rename_i m hu;cases h;cases hx;cases hy;simp[Op.equalIn,run_underlying hu]
  ·rename_i m q r hu;cases h;cases hx;obtain⟨_,_,rfl⟩:=toV_iface hy;simp[Op.equalIn,run_underlying hu]
  ·rename_i m q r hu;cases h;cases hy;obtain⟨_,_,rfl⟩:=toV_iface hx;simp[Op.equalIn,run_underlying hu]
  ·rename_i fs p q hu
   split at h
   ·rename_i hst
    obtain⟨p',hp,rfl⟩:=toV_agg hx
    obtain⟨q',hq,rfl⟩:=toV_agg hy
    have hfo:P.fieldsOf t=fs:=by simp[Program.fieldsOf,hu]
    rw[run_equalIn_struct w D t ⟨p'⟩ ⟨q'⟩ (by rw[hfo];exact hu) hst,hfo]
    exact teqF_ok (fun t x y b x' y' h1 h2 h3=>teq_ok d D (by omega) t x y b x' y' h1 h2 h3) hp hq fs.toList b h
   ·cases h
  ·cases h
theorem teq_nili {d:Nat} {t:TypeId} {y:AV} {b:Bool} (h:teq P (d+1) t .nili y=some b):y=.nili∨∃ u v,y=.iface u v:=by
 unfold teq at h
 split at h<;>first
  | (rename_i h1 h2;cases h1;done)
  | (rename_i h1;cases h1;done)
  | exact .inl rfl
  | exact .inr ⟨_,_,rfl⟩
  | (cases h;done)
  | (rename_i h1 _;cases h1;done)
  | (rename_i h1 _ _;cases h1;done)
theorem teq_agg {d:Nat} {t:TypeId} {l:List AV} {y:AV} {b:Bool} (h:teq P (d+1) t (.agg l) y=some b):∃ q,y=.agg q:=by
 unfold teq at h
 split at h<;>first
  | (rename_i h1 h2;cases h1;done)
  | (rename_i h1;cases h1;done)
  | exact⟨_,rfl⟩
  | (cases h;done)
  | (rename_i h1 _;cases h1;done)
  | (rename_i h1 _ _;cases h1;done)
theorem teqG_ok {L:Map} {t:TypeId} {ox oy:Operand} {op:BinOp} (hop:op=.eql∨op=.neq) {x y:AV} {b:Bool} {x' y':Value} (h:teqG P t (isC ox||isC oy) x y=some b) (hx:toV L x=some x') (hy:toV L y=some y') :
  (eqGuard op t ox oy x' y').run P w=.ok () w∧(Op.equal t x' y').run P w=.ok b w:=by
 unfold teqG at h
 split at h
 ·split at h
  ·rename_i hc
   cases hx;cases hy
   refine⟨?_,teq_ok (L:=L) 5 10000 (by omega) t _ _ b _ _ h rfl rfl⟩
   cases ox<;>cases oy<;>first|(simp[isC] at hc;done)|skip
   all_goals (rcases hop with rfl|rfl<;>rfl)
  ·cases h
 ·split at h
  ·rename_i p q hg
   obtain⟨p',hp,rfl⟩:=toV_agg hx
   obtain⟨q',hq,rfl⟩:=toV_agg hy
   exact⟨run_eqGuard_agg w op t ox oy _ _ hg,teq_ok 5 10000 (by omega) t _ _ b _ _ h hx hy⟩
  ·cases h
 ·rename_i h1 h2
  refine⟨?_,teq_ok 5 10000 (by omega) t _ _ b _ _ h hx hy⟩
  have:eqGuard op t ox oy x' y'=pure ():=by
   cases x with
   | nili =>
    cases hx
    cases y with
    | nili=>exact(h1 rfl rfl).elim
    | iface _ _=>obtain⟨_,_,rfl⟩:=toV_iface hy;exact eqGuard_nil_iface op t ox oy _ _
    | _=>rcases teq_nili h with h3|⟨_,_,h3⟩<;>cases h3
   | agg p =>
    obtain⟨p',hp,rfl⟩:=toV_agg hx
    cases y with
    | agg q=>exact(h2 _ _ rfl rfl).elim
    | _=>obtain⟨_,h3⟩:=teq_agg h;cases h3
   | bool b=>rw[toV_bool hx];exact eqGuard_at_bool op t ox oy _ _
   | int k n=>rw[toV_int hx];exact eqGuard_at_int op t ox oy _ _ _
   | str l=>rw[toV_str hx];exact eqGuard_at_string op t ox oy _ _
   | nilp=>cases hx;exact eqGuard_at_pointer op t ox oy _ _
   | ptr b o=>obtain⟨_,_,rfl⟩:=toV_ptr hx;exact eqGuard_at_pointer op t ox oy _ _
   | nils=>cases hx;exact eqGuard_at_slice op t ox oy _ _ _ _
   | sl b o n c=>obtain⟨_,_,rfl⟩:=toV_sl hx;exact eqGuard_at_slice op t ox oy _ _ _ _
   | su b o n z=>obtain⟨_,_,_,_,rfl⟩:=toV_su hx;exact eqGuard_at_slice op t ox oy _ _ _ _
   | nilm=>cases hx;exact eqGuard_at_map op t ox oy _ _
   | map b=>obtain⟨_,_,rfl⟩:=toV_map hx;exact eqGuard_at_map op t ox oy _ _
   | fn f p q=>obtain⟨_,_,_,_,rfl⟩:=toV_fn hx;exact eqGuard_at_func op t ox oy _ _ _ _
   | nilf=>cases hx;exact eqGuard_at_nilFunc op t ox oy _
   | iface d u=>obtain⟨_,_,rfl⟩:=toV_iface hx;exact eqGuard_at_iface op t ox oy _ _ _
   | tup l=>obtain⟨_,_,rfl⟩:=toV_tup hx;exact eqGuard_at_tuple op t ox oy _ _
  rw[this,Sem.run_pure]
end Go.Ev

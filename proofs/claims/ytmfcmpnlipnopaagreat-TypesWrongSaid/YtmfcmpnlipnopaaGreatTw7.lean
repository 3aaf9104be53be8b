/- Parts of this proof, one behind the other: EvF, EvH. -/
import Derived.Test.YtmfcmpnlipnopaaGreatTw6
set_option maxRecDepth 1000000
set_option maxHeartbeats 40000000
namespace Go.Ev
variable {P:Program} {K:Known} {L:Map} {s s':St} {w:World} {env:Env} {a:Act} {call:CallF}
def Wl (d:List Acc) (b c:Nat):Prop:=∃ a,a∈d∧a.w=true∧a.b=b∧a.o≤c∧(a.n=big∨c<a.o+a.n)
theorem Wl.left {d e:List Acc} {b c:Nat} (h:Wl d b c):Wl (d++e) b c:=by obtain⟨a,ha,q⟩:=h;exact⟨a,List.mem_append_left _ ha,q⟩
theorem Wl.right {d e:List Acc} {b c:Nat} (h:Wl e b c):Wl (d++e) b c:=by obtain⟨a,ha,q⟩:=h;exact⟨a,List.mem_append_right _ ha,q⟩
def Tl (d:List Acc) (b c:Nat):Prop:=∃ a,a∈d∧a.b=b∧a.o≤c∧(a.n=big∨c<a.o+a.n)
theorem Tl.left {d e:List Acc} {b c:Nat} (h:Tl d b c):Tl (d++e) b c:=by obtain⟨a,ha,q⟩:=h;exact⟨a,List.mem_append_left _ ha,q⟩
theorem Tl.right {d e:List Acc} {b c:Nat} (h:Tl e b c):Tl (d++e) b c:=by obtain⟨a,ha,q⟩:=h;exact⟨a,List.mem_append_right _ ha,q⟩
theorem Wl.tl {d:List Acc} {b c:Nat} (h:Wl d b c):Tl d b c:=by obtain⟨a,ha,_,q⟩:=h;exact⟨a,ha,q⟩
def Hits (s:St) (d:List Acc):Prop:=∀ a,a∈d→a.w=true→a.b<s.n→0<a.n→∃ k x,look s.h.get a.b k=some x∧Tl d a.b k
structure Mono (s s':St):Prop where
 n:s.n≤s'.n
 ex:∃ d,s'.lg=d++s.lg∧(∀ b c,¬ Wl d b c→(b<s.n∨s'.n≤b)→look s'.h.get b c=look s.h.get b c)∧Hits s d
theorem Mono.lg {s s':St} (h:Mono s s'):∃ d,s'.lg=d++s.lg:=by obtain⟨d,h,_⟩:=h.ex;exact⟨d,h⟩
theorem Hits.nil (s:St):Hits s []:=fun a ha=>by cases ha
theorem Mono.refl (s:St):Mono s s:=⟨Nat.le_refl _,[],rfl,fun _ _ _ _=>rfl,Hits.nil s⟩
theorem Mono.trans {s s' s'':St} (h:Mono s s') (h':Mono s' s''):Mono s s'':=by
 obtain⟨h1,d,h2,h5,h7⟩:=h
 obtain⟨h3,e,h4,h6,h8⟩:=h'
 refine⟨Nat.le_trans h1 h3,e++d,by rw[h4,h2,List.append_assoc],fun b c hw hb=>?_,fun a ha hw hb hn=>?_⟩
 ·rw[h6 b c (fun q=>hw q.left) (by omega),h5 b c (fun q=>hw q.right) (by omega)]
 ·rcases List.mem_append.1 ha with ha|ha
  ·obtain⟨k,x,hx,ht⟩:=h8 a ha hw (by omega) hn
   rcases Classical.em (Wl d a.b k) with hwl|hwl
   ·obtain⟨a1,ha1,hw1,hb1,ho1,hn1⟩:=hwl
    have hpos:0<a1.n:=by
     rcases hn1 with q|q
     ·rw[q];decide
     ·omega
    obtain⟨k1,x1,hx1,ht1⟩:=h7 a1 ha1 hw1 (by omega) hpos
    exact⟨k1,x1,hb1▸hx1,hb1▸ht1.right⟩
   ·exact⟨k,x,by rw[← h5 a.b k hwl (.inl hb)];exact hx,ht.left⟩
  ·obtain⟨k,x,hx,ht⟩:=h7 a ha hw hb hn
   exact⟨k,x,hx,ht.right⟩
theorem Mono.rd (s:St) (b o n:Nat):Mono s (s.rd b o n):=⟨Nat.le_refl _,[_],rfl,fun _ _ _ _=>rfl,fun a ha hw=>by rw[List.mem_singleton.1 ha] at hw;cases hw⟩
theorem Mono.drop {s:St} {b:Nat} {e:TypeId} {cs:List AV} (hb:s.h.get b=some (.cells e cs)) (hne:cs≠[]):Mono s (s.put b 0 big none):=⟨Nat.le_refl _,[_],rfl,fun b2 c hw _=>by
 have hne:b2≠b:=by rintro rfl;exact hw ⟨_,List.mem_singleton_self _,rfl,rfl,Nat.zero_le _,.inl rfl⟩
 exact look_congr (Tr.get_set_ne _ _ _ _ hne) c,fun a ha _ _ _=>by
 rw[List.mem_singleton.1 ha]
 cases cs with
 | nil=>exact absurd rfl hne
 | cons v cs=>exact⟨0,_,look_cells hb rfl,_,List.mem_singleton_self _,rfl,Nat.le_refl _,.inl rfl⟩⟩
theorem Mono.store {s:St} {b o:Nat} {e:TypeId} {cs cs' vs:List AV} (hb:s.h.get b=some (.cells e cs)) (hov:over cs o vs=some cs'):Mono s (s.put b o vs.length (some (.cells e cs'))):=⟨Nat.le_refl _,[_],rfl,fun b2 c hw _=>by
 by_cases hne:b2=b
 ·subst hne
  obtain⟨h1,h2,h3⟩:=over_spec _ _ _ _ hov
  have hnew:(s.put b2 o vs.length (some (.cells e cs'))).h.get b2=some (.cells e cs'):=Tr.get_set_old _ _ _ _ hb
  have hout:¬ (o≤c∧c<o+vs.length):=fun q=>hw ⟨_,List.mem_singleton_self _,rfl,rfl,q.1,.inr q.2⟩
  have hc:=h3 c
  rw[if_neg hout] at hc
  simp only[look,hnew,hb,hc,h1]
 ·exact look_congr (Tr.get_set_ne _ _ _ _ hne) c,fun a ha _ _ hn=>by
 obtain⟨h1,h2,h3⟩:=over_spec _ _ _ _ hov
 have ha':=List.mem_singleton.1 ha
 subst ha'
 have hn':0<vs.length:=hn
 exact⟨o,_,look_cells hb (List.getElem?_eq_getElem (by omega)),_,List.mem_singleton_self _,rfl,Nat.le_refl _,.inr (by show o<o+vs.length;omega)⟩⟩
theorem Mono.new (s:St) (x:Blk):Mono s (s.new x):=⟨Nat.le_succ _,[],rfl,fun b c _ hb=>by
 have hne:b≠s.n:=by
  have:(s.new x).n=s.n+1:=rfl
  omega
 exact look_congr (Tr.get_set_ne _ _ _ _ hne) c,Hits.nil s⟩
theorem newRow_ok {e:TypeId} {cs:List AV} (hH:HRel K L (look s.h.get) w) (hn:L s.n=none) {cs':List Value} (h:toVs L cs=some cs') (arr:Array Value) (harr:∀ (j:Nat) (v:Value),cs'[j]?=some v→arr[j]?=some v) (hlen:cs'.length≤arr.size) (cc:Nat) (hcc:cc≤arr.size) :
  (newRow e arr).run P w=.ok ⟨w.heap.size,0,none⟩ { w with heap:=w.heap.push (Obj.cells arr e (0,0)) } ∧
  Step L s w [] (L.put s.n ⟨w.heap.size,0,cc⟩) (s.new (.cells e cs)) { w with heap:=w.heap.push (Obj.cells arr e (0,0)) } ∧
  HRel K (L.put s.n ⟨w.heap.size,0,cc⟩) (look (s.new (.cells e cs)).h.get) { w with heap:=w.heap.push (Obj.cells arr e (0,0)) }:=by
 obtain⟨h1,h2⟩:=toVs_get h
 have hx:∀ k y,look (fun _=>some (.cells e cs)) s.n k=some y→kRel (L.put s.n ⟨w.heap.size,0,cc⟩) k y ⟨w.heap.size,0,cc⟩ { w with heap:=w.heap.push (Obj.cells arr e (0,0)) }:=fun k y hy=>by
  obtain⟨v,hv,rfl⟩:=look_cells_inv rfl hy
  obtain⟨v',k1,k2⟩:=h2 k v hv
  refine⟨arr,(0,0),by simp,by simp;omega,by simpa using hcc,fun j _ hj=>by simp at hj,v',toV_mono (Map.le_put L _ hn) _ _ k1,?_⟩
  simp only[Nat.zero_add]
  exact harr _ _ k2
 obtain⟨q1,q2⟩:=new_ok hH hn (.cells e cs) (Obj.cells arr e (0,0)) cc hx
 exact⟨by simp[newRow],q1,q2⟩
theorem newRow_plain {e:TypeId} {cs:List AV} (hH:HRel K L (look s.h.get) w) (hn:L s.n=none) {cs':List Value} (h:toVs L cs=some cs') :
  (newRow e ⟨cs'⟩).run P w=.ok ⟨w.heap.size,0,none⟩ { w with heap:=w.heap.push (Obj.cells ⟨cs'⟩ e (0,0)) } ∧
  Step L s w [] (L.put s.n ⟨w.heap.size,0,0⟩) (s.new (.cells e cs)) { w with heap:=w.heap.push (Obj.cells ⟨cs'⟩ e (0,0)) } ∧
  HRel K (L.put s.n ⟨w.heap.size,0,0⟩) (look (s.new (.cells e cs)).h.get) { w with heap:=w.heap.push (Obj.cells ⟨cs'⟩ e (0,0)) } :=
 newRow_ok hH hn h ⟨cs'⟩ (fun j v hj=>by simpa using hj) (by simp) 0 (Nat.zero_le _)
theorem Cx.here {x:Blk} (c:Cx K L s w env a (s.new x)):L s.n=none:=c.fresh s.n (Nat.le_refl _) (Nat.lt_succ_self _)
theorem toV_cells {x:AV} {v:Value} (h:toV L x=some v):∃ r,toVs L x.cells=some r∧v.cells=⟨r⟩:=by
 have key:x.cells=[x]→v.cells=#[v]→∃ r,toVs L x.cells=some r∧v.cells=⟨r⟩:=fun h1 h2=>⟨[v],by rw[h1];simp only[toVs];rw[h],by rw[h2]⟩
 cases x with
 | agg l=>obtain⟨r,hr,rfl⟩:=toV_agg h;exact⟨r,hr,rfl⟩
 | bool b=>exact key rfl (by rw[toV_bool h];rfl)
 | int k n=>exact key rfl (by rw[toV_int h];rfl)
 | str l=>exact key rfl (by rw[toV_str h];rfl)
 | nilp=>exact key rfl (by cases h;rfl)
 | ptr b o=>exact key rfl (by obtain⟨_,_,rfl⟩:=toV_ptr h;rfl)
 | nils=>exact key rfl (by cases h;rfl)
 | sl b o n c=>exact key rfl (by obtain⟨_,_,rfl⟩:=toV_sl h;rfl)
 | su b o n z=>exact key rfl (by obtain⟨_,_,_,_,rfl⟩:=toV_su h;rfl)
 | nilm=>exact key rfl (by cases h;rfl)
 | map b=>exact key rfl (by obtain⟨_,_,rfl⟩:=toV_map h;rfl)
 | fn f p q=>exact key rfl (by obtain⟨_,_,_,_,rfl⟩:=toV_fn h;rfl)
 | nilf=>exact key rfl (by cases h;rfl)
 | iface d u=>exact key rfl (by obtain⟨_,_,rfl⟩:=toV_iface h;rfl)
 | nili=>exact key rfl (by cases h;rfl)
 | tup l=>exact key rfl (by obtain⟨_,_,rfl⟩:=toV_tup h;rfl)
theorem tzero_spec {t:TypeId} {z:AV} (h:tzero P t=some z):∃ zv,(∀ L,toV L z=some zv)∧(∀ w,(zeroValue t).run P w=.ok zv w)∧∃ i,P.info? t=some i∧i.zero=some zv:=by
 unfold tzero at h
 split at h
 ·rename_i i hi
  split at h
  ·rename_i zv hz
   exact⟨zv,fun L=>toV_ofV L zv z h,fun w=>by simp[zeroValue,typeInfo,hi,hz],i,hi,hz⟩
  ·cases h
 ·cases h
theorem box_ok {e:TypeId} {x:Operand} {v:AV} (o:Oper) (ho:o.op=.box e x) (h:eBox e x P call env s=.ok v s') (c:Cx K L s w env a s'):Ok K L s w v s' ((execOp a.eval o).run P w):=by
 unfold eBox at h
 split at h
 ·rename_i y hx
  cases h
  obtain⟨r,hr,hvr⟩:=toV_cells (opd_ok c.env hx)
  obtain⟨h1,h2,h3⟩:=newRow_plain (P:=P) (e:=e) c.heap c.here hr
  refine⟨_,_,_,.pointer (some ⟨w.heap.size,0,none⟩),?_,h2,h3,.inl ?_⟩
  ·simp only[toV];rw[Map.put_same];rfl
  ·simp only[execOp,ho,Instr.box,newVar,hvr,Sem.run_bind,h1,Result.andThen_ok,Sem.run_pure]
 ·cases h
theorem alloc_ok {e:TypeId} {v:AV} (o:Oper) (ho:o.op=.alloc e) (h:eAlloc e P call env s=.ok v s') (c:Cx K L s w env a s'):Ok K L s w v s' ((execOp a.eval o).run P w):=by
 unfold eAlloc at h
 split at h
 ·rename_i z hz
  cases h
  obtain⟨zv,hzv,hzr,_⟩:=tzero_spec hz
  obtain⟨r,hr,hvr⟩:=toV_cells (hzv L)
  obtain⟨h1,h2,h3⟩:=newRow_plain (P:=P) (e:=e) c.heap c.here hr
  refine⟨_,_,_,.pointer (some ⟨w.heap.size,0,none⟩),?_,h2,h3,.inl ?_⟩
  ·simp only[toV];rw[Map.put_same];rfl
  ·simp only[execOp,ho,Instr.alloc,newVar,hvr,Sem.run_bind,hzr,h1,Result.andThen_ok,Sem.run_pure]
 ·cases h
theorem storeOp_ok {t:TypeId} {x y:Operand} {v:AV} (o:Oper) (ho:o.op=.store t x y) (h:eStore t x y P call env s=.ok v s') (c:Cx K L s w env a s'):Ok K L s w v s' ((execOp a.eval o).run P w):=by
 unfold eStore at h
 split at h
 ·rename_i b k u n hx hy hn
  split at h
  ·rename_i hb
   obtain⟨l,hl,hxe⟩:=toV_ptr (opd_ok c.env hx)
   obtain⟨r,hr,hyc⟩:=toV_cells (opd_ok c.env hy)
   obtain⟨rfl,d,w',hrun,hs,hH⟩:=store_ok (P:=P) c.heap h c.cov hl hr
   refine⟨d,L,w',undef,rfl,hs,hH,.inr ⟨?_,rfl⟩⟩
   have hsz:¬ ((a.eval y).cells.size≠n):=by
    rw[hyc]
    have:=(toVs_get hr).1
    have:=Nat.eq_of_beq_eq_true hb
    simp;omega
   have hcl:(a.eval y).cells.toList=r:=by rw[hyc]
   simp only[execOp,ho,Instr.storeAt,hxe,Instr.sureAddr,storeVar,Sem.run_bind,Sem.run_pure,Result.andThen_ok,tsize_run hn,if_neg hsz,hcl,hrun]
  ·cases h
 ·cases h
theorem unOp_ok {p:UnOp} {t:TypeId} {x:Operand} {v:AV} (o:Oper) (ho:o.op=.unOp p t x) (h:eUnOp p t x P call env s=.ok v s') (c:Cx K L s w env a s'):Ok K L s w v s' ((execOp a.eval o).run P w):=by
 unfold eUnOp at h
 split at h
 ·rename_i u hx
  obtain⟨h1,rfl⟩:=of_ok h
  have hv:=opd_ok c.env hx
  unfold evUn at h1
  split at h1
  ·rename_i k n
   cases h1
   refine Ok.pure (v':=.int k (k.wrap (0-n))) c.heap rfl ?_
   simp only[execOp,ho,toV_int hv,Op.unary,Op.intArith,Sem.run_bind,Sem.run_pure,Result.andThen_ok]
  ·rename_i k n
   split at h1
   ·rename_i k2 n2 hb
    cases h1
    refine Ok.pure (v':=.int k2 n2) c.heap rfl ?_
    simp only[execOp,ho,toV_int hv,Op.unary,hb,Sem.run_bind,Sem.run_pure',Sem.run_pure,Result.andThen_ok]
   ·cases h1
  ·rename_i b
   cases h1
   refine Ok.pure (v':=.bool (!b)) c.heap rfl ?_
   simp only[execOp,ho,toV_bool hv,Op.unary,Sem.run_bind,Sem.run_pure,Result.andThen_ok]
  ·cases h1
 ·cases h
theorem bytes_toList (a:List UInt8):(⟨⟨a⟩⟩:ByteArray).toList=a:=by rw[ByteArray.toList_eq]
theorem bytes_app (a b:List UInt8):(⟨⟨a⟩⟩:ByteArray)++⟨⟨b⟩⟩=⟨⟨a++b⟩⟩:=by
 apply ByteArray.ext
 simp
theorem bytes_size (a:List UInt8):(⟨⟨a⟩⟩:ByteArray).size=a.length:=rfl
theorem teq_int {d:Nat} {t:TypeId} {k:IntKind} {n:Int} {y:AV} {b:Bool} (h:teq P (d+1) t (.int k n) y=some b):∃ k' n',y=.int k' n':=by
 unfold teq at h
 split at h<;>first
  | (rename_i h1 h2;cases h1;done)
  | (rename_i h1;cases h1;done)
  | exact⟨_,_,rfl⟩
  | (cases h;done)
  | (rename_i h1 _;cases h1;done)
  | (rename_i h1 _ _;cases h1;done)
theorem teq_str {d:Nat} {t:TypeId} {l:List UInt8} {y:AV} {b:Bool} (h:teq P (d+1) t (.str l) y=some b):∃ l',y=.str l':=by
 unfold teq at h
 split at h<;>first
  | (rename_i h1 h2;cases h1;done)
  | (rename_i h1;cases h1;done)
  | exact⟨_,rfl⟩
  | (cases h;done)
  | (rename_i h1 _;cases h1;done)
  | (rename_i h1 _ _;cases h1;done)
theorem teqG_teq {t:TypeId} {c:Bool} {x y:AV} {b:Bool} (h:teqG P t c x y=some b):teq P 5 t x y=some b:=by
 unfold teqG at h
 split at h
 ·split at h<;>first|exact h|cases h
 ·split at h<;>first|exact h|cases h
 ·exact h
theorem binEq {t:TypeId} {x y:AV} {x' y':Value} {b:Bool} (h:teq P 5 t x y=some b) (hx:toV L x=some x') (h1:∀ k a k' c,x=.int k a→y=.int k' c→False) (h2:∀ a c,x=.str a→y=.str c→False) :
  binOp .eql t x' y'=(do Pure.pure (.bool (← Op.equal t x' y')))∧binOp .neq t x' y'=(do Pure.pure (.bool (!(← Op.equal t x' y')))):=by
 cases x with
 | int k n=>obtain⟨k',n',rfl⟩:=teq_int h;exact(h1 _ _ _ _ rfl rfl).elim
 | str l=>obtain⟨l',rfl⟩:=teq_str h;exact(h2 _ _ rfl rfl).elim
 | bool b=>rw[toV_bool hx];exact⟨by cases y'<;>rfl,by cases y'<;>rfl⟩
 | nilp=>cases hx;exact⟨by cases y'<;>rfl,by cases y'<;>rfl⟩
 | ptr b o=>obtain⟨_,_,rfl⟩:=toV_ptr hx;exact⟨by cases y'<;>rfl,by cases y'<;>rfl⟩
 | nils=>cases hx;exact⟨by cases y'<;>rfl,by cases y'<;>rfl⟩
 | sl b o n c=>obtain⟨_,_,rfl⟩:=toV_sl hx;exact⟨by cases y'<;>rfl,by cases y'<;>rfl⟩
 | su b o n z=>obtain⟨_,_,_,_,rfl⟩:=toV_su hx;exact⟨by cases y'<;>rfl,by cases y'<;>rfl⟩
 | nilm=>cases hx;exact⟨by cases y'<;>rfl,by cases y'<;>rfl⟩
 | map b=>obtain⟨_,_,rfl⟩:=toV_map hx;exact⟨by cases y'<;>rfl,by cases y'<;>rfl⟩
 | fn f p q=>obtain⟨_,_,_,_,rfl⟩:=toV_fn hx;exact⟨by cases y'<;>rfl,by cases y'<;>rfl⟩
 | nilf=>cases hx;exact⟨by cases y'<;>rfl,by cases y'<;>rfl⟩
 | iface d u=>obtain⟨_,_,rfl⟩:=toV_iface hx;exact⟨by cases y'<;>rfl,by cases y'<;>rfl⟩
 | nili=>cases hx;exact⟨by cases y'<;>rfl,by cases y'<;>rfl⟩
 | agg l=>obtain⟨_,_,rfl⟩:=toV_agg hx;exact⟨by cases y'<;>rfl,by cases y'<;>rfl⟩
 | tup l=>obtain⟨_,_,rfl⟩:=toV_tup hx;exact⟨by cases y'<;>rfl,by cases y'<;>rfl⟩
theorem bin_ok {op:BinOp} {t:TypeId} {ox oy:Operand} {x y v:AV} {x' y':Value} (h:evBin op P t (isC ox||isC oy) x y=some v) (hx:toV L x=some x') (hy:toV L y=some y') :
  ∃ v',toV L v=some v'∧(do eqGuard op t ox oy x' y';binOp op t x' y':Sem Value).run P w=.ok v' w:=by
 have arith:∀ (f:IntKind→Int→Int→Option AV),onInts f x y=some v→∃ k a b,x'=.int k a∧y'=.int k b∧f k a b=some v:=fun f hf=>by
  unfold onInts at hf
  split at hf
  ·rename_i k a k' b
   split at hf
   ·rename_i hk;subst hk;exact⟨k,a,b,toV_int hx,toV_int hy,hf⟩
   ·cases hf
  ·cases hf
 have two:∀ (f:IntKind→Int→Int→Option AV) (g:List UInt8→List UInt8→Option AV),both f g x y=some v→(∃ k a b,x'=.int k a∧y'=.int k b∧f k a b=some v)∨(∃ a b,x'=.string ⟨⟨a⟩⟩∧y'=.string ⟨⟨b⟩⟩∧g a b=some v):=fun f g hf=>by
  unfold both at hf
  split at hf
  ·rename_i k a k' b
   split at hf
   ·rename_i hk;subst hk;exact .inl ⟨k,a,b,toV_int hx,toV_int hy,hf⟩
   ·cases hf
  ·rename_i a b;exact .inr ⟨a,b,toV_str hx,toV_str hy,hf⟩
  ·cases hf
 have hbits:∀ q:BinOp,(∀ (t:TypeId) (k:IntKind) (a b:Int),binOp q t (.int k a) (.int k b)=Op.intBits q k a b)→bits q x y=some v→∃ v',toV L v=some v'∧(do eqGuard q t ox oy x' y';binOp q t x' y':Sem Value).run P w=.ok v' w:=fun q hq hb=>by
  obtain⟨k,a,b,rfl,rfl,h1⟩:=arith _ hb
  split at h1
  ·rename_i k2 n2 he
   cases h1
   exact⟨.int k2 n2,rfl,by simp only[eqGuard_at_int,hq,he,Sem.run_bind,Sem.run_pure,Sem.run_pure',Result.andThen_ok]⟩
  ·cases h1
 have heq:∀ {b:Bool},(op=.eql∨op=.neq)→teqG P t (isC ox||isC oy) x y=some b→(eqGuard op t ox oy x' y').run P w=.ok () w∧(Op.equal t x' y').run P w=.ok b w:=fun ho ht=>teqG_ok ho ht hx hy
 cases op with
 | add =>
  rcases two _ _ h with ⟨k,a,b,rfl,rfl,h1⟩|⟨a,b,rfl,rfl,h1⟩
  ·cases h1;exact⟨_,rfl,by simp only[eqGuard_at_int,binOp_add,Op.intArith,Sem.run_bind,Sem.run_pure,Result.andThen_ok]⟩
  ·split at h1
   ·rename_i hb
    cases h1
    have hle:=Nat.le_of_ble_eq_true hb
    have hn:¬ (((⟨⟨a⟩⟩:ByteArray).size+(⟨⟨b⟩⟩:ByteArray).size:Nat):Int) > IntKind.i64.max:=by rw[bytes_size,bytes_size,IntKind.max_i64];omega
    refine⟨.string ⟨⟨a++b⟩⟩,rfl,?_⟩
    simp only[eqGuard_at_string,binOp,Op.stringOp,if_neg hn,bytes_app,Sem.run_bind,Sem.run_pure,Result.andThen_ok]
   ·cases h1
 | sub=>obtain⟨k,a,b,rfl,rfl,h1⟩:=arith _ h;cases h1;exact⟨_,rfl,by simp only[eqGuard_at_int,binOp_sub,Op.intArith,Sem.run_bind,Sem.run_pure,Result.andThen_ok]⟩
 | mul=>obtain⟨k,a,b,rfl,rfl,h1⟩:=arith _ h;cases h1;exact⟨_,rfl,by simp only[eqGuard_at_int,binOp_mul,Op.intArith,Sem.run_bind,Sem.run_pure,Result.andThen_ok]⟩
 | quo =>
  obtain⟨k,a,b,rfl,rfl,h1⟩:=arith _ h
  split at h1
  ·cases h1
  ·rename_i hb;cases h1;exact⟨_,rfl,by simp only[eqGuard_at_int,binOp_quo,Op.intDiv,if_neg hb,Sem.run_bind,Sem.run_pure,Result.andThen_ok]⟩
 | rem =>
  obtain⟨k,a,b,rfl,rfl,h1⟩:=arith _ h
  split at h1
  ·cases h1
  ·rename_i hb;cases h1;exact⟨_,rfl,by simp only[eqGuard_at_int,binOp_rem,Op.intDiv,if_neg hb,Sem.run_bind,Sem.run_pure,Result.andThen_ok]⟩
 | and=>exact hbits .and (fun t k a b=>binOp_and t k a b) h
 | or=>exact hbits .or (fun t k a b=>binOp_or t k a b) h
 | xor=>exact hbits .xor (fun t k a b=>binOp_xor t k a b) h
 | andNot=>exact hbits .andNot (fun t k a b=>binOp_andNot t k a b) h
 | shl =>
  change bShl x y=some v at h
  unfold bShl at h
  split at h
  ·rename_i k a yk n
   cases h
   rw[toV_int hx,toV_int hy]
   refine⟨_,rfl,?_⟩
   have hn:¬ ((Int.ofNat n)<0):=by simp
   simp only[eqGuard_at_int,binOp_shl,Op.shift,if_neg hn,Sem.run_bind,Sem.run_pure,Result.andThen_ok]
   rfl
  ·cases h
 | shr =>
  change bShr x y=some v at h
  unfold bShr at h
  split at h
  ·rename_i k a yk n
   cases h
   rw[toV_int hx,toV_int hy]
   refine⟨_,rfl,?_⟩
   have hn:¬ ((Int.ofNat n)<0):=by simp
   simp only[eqGuard_at_int,binOp_shr,Op.shift,if_neg hn,Sem.run_bind,Sem.run_pure,Result.andThen_ok]
   rfl
  ·cases h
 | lss =>
  rcases two _ _ h with ⟨k,a,b,rfl,rfl,h1⟩|⟨a,b,rfl,rfl,h1⟩
  ·cases h1;exact⟨_,rfl,by simp only[eqGuard_at_int,binOp_lss,Sem.run_bind,Sem.run_pure,Result.andThen_ok]⟩
  ·cases h1;exact⟨_,rfl,by simp only[eqGuard_at_string,binOp,Op.stringOp,bytes_toList,Sem.run_bind,Sem.run_pure,Result.andThen_ok]⟩
 | leq =>
  rcases two _ _ h with ⟨k,a,b,rfl,rfl,h1⟩|⟨a,b,rfl,rfl,h1⟩
  ·cases h1;exact⟨_,rfl,by simp only[eqGuard_at_int,binOp_leq,Sem.run_bind,Sem.run_pure,Result.andThen_ok]⟩
  ·cases h1;exact⟨_,rfl,by simp only[eqGuard_at_string,binOp,Op.stringOp,bytes_toList,Sem.run_bind,Sem.run_pure,Result.andThen_ok]⟩
 | gtr =>
  rcases two _ _ h with ⟨k,a,b,rfl,rfl,h1⟩|⟨a,b,rfl,rfl,h1⟩
  ·cases h1;exact⟨_,rfl,by simp only[eqGuard_at_int,binOp_gtr,Sem.run_bind,Sem.run_pure,Result.andThen_ok]⟩
  ·cases h1;exact⟨_,rfl,by simp only[eqGuard_at_string,binOp,Op.stringOp,bytes_toList,Sem.run_bind,Sem.run_pure,Result.andThen_ok]⟩
 | geq =>
  rcases two _ _ h with ⟨k,a,b,rfl,rfl,h1⟩|⟨a,b,rfl,rfl,h1⟩
  ·cases h1;exact⟨_,rfl,by simp only[eqGuard_at_int,binOp_geq,Sem.run_bind,Sem.run_pure,Result.andThen_ok]⟩
  ·cases h1;exact⟨_,rfl,by simp only[eqGuard_at_string,binOp,Op.stringOp,bytes_toList,Sem.run_bind,Sem.run_pure,Result.andThen_ok]⟩
 | eql =>
  change bEql P t (isC ox||isC oy) x y=some v at h
  unfold bEql at h
  split at h
  ·rename_i k a k' b
   split at h
   ·rename_i hk;subst hk;cases h;rw[toV_int hx,toV_int hy]
    exact⟨_,rfl,by simp only[eqGuard_at_int,binOp_eql,Sem.run_bind,Sem.run_pure,Result.andThen_ok]⟩
   ·cases h
  ·rename_i a b;cases h;rw[toV_str hx,toV_str hy]
   exact⟨_,rfl,by simp only[eqGuard_at_string,binOp,Op.stringOp,bytes_toList,Sem.run_bind,Sem.run_pure,Result.andThen_ok]⟩
  ·rename_i n1 n2
   split at h
   ·rename_i b hb
    cases h
    obtain⟨h1,h2⟩:=heq (.inl rfl) hb
    refine⟨.bool b,rfl,?_⟩
    have hb2:=(binEq (y':=y') (teqG_teq hb) hx (fun k a k' c e1 e2=>n1 k a k' c e1 e2) (fun a c e1 e2=>n2 a c e1 e2)).1
    rw[Sem.run_bind,h1,Result.andThen_ok,hb2,Sem.run_bind,h2,Result.andThen_ok,Sem.run_pure]
   ·cases h
 | neq =>
  change bNeq P t (isC ox||isC oy) x y=some v at h
  unfold bNeq at h
  split at h
  ·rename_i k a k' b
   split at h
   ·rename_i hk;subst hk;cases h;rw[toV_int hx,toV_int hy]
    exact⟨_,rfl,by simp only[eqGuard_at_int,binOp_neq,Sem.run_bind,Sem.run_pure,Result.andThen_ok]⟩
   ·cases h
  ·rename_i a b;cases h;rw[toV_str hx,toV_str hy]
   exact⟨_,rfl,by simp only[eqGuard_at_string,binOp,Op.stringOp,bytes_toList,Sem.run_bind,Sem.run_pure,Result.andThen_ok]⟩
  ·rename_i n1 n2
   split at h
   ·rename_i b hb
    cases h
    obtain⟨h1,h2⟩:=heq (.inr rfl) hb
    refine⟨.bool (!b),rfl,?_⟩
    have hb2:=(binEq (y':=y') (teqG_teq hb) hx (fun k a k' c e1 e2=>n1 k a k' c e1 e2) (fun a c e1 e2=>n2 a c e1 e2)).2
    rw[Sem.run_bind,h1,Result.andThen_ok,hb2,Sem.run_bind,h2,Result.andThen_ok,Sem.run_pure]
   ·cases h
theorem binOp_ok {p:BinOp} {t u:TypeId} {x y:Operand} {v:AV} (o:Oper) (ho:o.op=.binOp p t x y u) (h:eBinOp p t x y u P call env s=.ok v s') (c:Cx K L s w env a s'):Ok K L s w v s' ((execOp a.eval o).run P w):=by
 unfold eBinOp at h
 cases hx:opd x env with
 | none=>rw[hx] at h;cases h
 | some x1 =>
  cases hy:opd y env with
  | none=>rw[hx,hy] at h;cases h
  | some y1 =>
   rw[hx,hy] at h
   obtain⟨h1,rfl⟩:=of_ok h
   obtain⟨v',hv,hr⟩:=bin_ok (P:=P) (w:=w) h1 (opd_ok c.env hx) (opd_ok c.env hy)
   refine Ok.pure c.heap hv ?_
   simp only[execOp,ho]
   rw[Sem.run_bind,hr,Result.andThen_ok,Sem.run_pure]
end Go.Ev
namespace Go.Ev
variable {P:Program} {K:Known} {L:Map} {s s':St} {w:World} {env:Env} {a:Act} {call:CallF}
theorem bytes_get (l:List UInt8) (k:Nat):(⟨⟨l⟩⟩:ByteArray)[k]?=l[k]?:=by
 by_cases h:k<l.length
 ·rw[List.getElem?_eq_getElem h,getElem?_pos (⟨⟨l⟩⟩:ByteArray) k (by simpa [bytes_size] using h)];rfl
 ·rw[List.getElem?_eq_none (by omega),getElem?_neg (⟨⟨l⟩⟩:ByteArray) k (by simpa [bytes_size] using h)]
theorem index_ok {t:TypeId} {x i:Operand} {v:AV} (o:Oper) (ho:o.op=.index t x i) (h:eIndex t x i P call env s=.ok v s') (c:Cx K L s w env a s'):Ok K L s w v s' ((execOp a.eval o).run P w):=by
 unfold eIndex at h
 split at h
 ·rename_i l q k hx hi
  split at h
  ·rename_i b hu hk
   cases h
   have hie:=toV_int (opd_ok c.env hi)
   have hxe:=toV_str (opd_ok c.env hx)
   refine Ok.pure (v':=.int .u8 b.toNat) c.heap rfl ?_
   have h0:(0:Int)≤Int.ofNat k:=by simp
   simp only[execOp,ho,Instr.index,hxe,hie,asIntOf,Sem.run_bind,Sem.run_pure,Result.andThen_ok,run_underlying hu,if_pos h0]
   have:(⟨⟨l⟩⟩:ByteArray)[(Int.ofNat k).toNat]?=some b:=by rw[bytes_get];exact hk
   rw[this]
   rfl
  ·cases h
 ·rename_i l q k hx hi
  split at h
  ·rename_i n e hu
   split at h
   ·rename_i z hz hlt
    obtain⟨h1,rfl⟩:=of_ok h
    have hie:=toV_int (opd_ok c.env hi)
    obtain⟨r,hr,hxe⟩:=toV_agg (opd_ok c.env hx)
    obtain⟨v',hv,hp⟩:=part_ok (P:=P) (w:=w) hr h1
    refine Ok.pure c.heap hv ?_
    have:=blt_lt hlt
    have h0:(0:Int)≤Int.ofNat k∧Int.ofNat k<(n:Int):=by simp;omega
    simp only[execOp,ho,Instr.index,hxe,hie,asIntOf,Sem.run_bind,Sem.run_pure,Result.andThen_ok,run_underlying hu,if_pos h0,tsize_run hz]
    have h2:(Int.ofNat k).toNat=k:=rfl
    rw[h2,hp]
    rfl
   ·cases h
  ·cases h
 ·cases h
theorem asNat_ok {v:AV} {n:Nat} {v':Value} (h:asNat v=some n) (hv:toV L v=some v'):∃ k,v'=.int k (n:Int):=by
 unfold asNat at h
 split at h
 ·rename_i k m;cases h;exact⟨k,toV_int hv⟩
 ·cases h
theorem sbounds_ok (hE:EnvRel L env a) {len cap l h m:Nat} {lo hi mx:Option Operand} (hs:sbounds env len cap lo hi mx=some (l,h,m)) (capR:Nat) (hcap:cap≤capR) (isS:Bool) :
  l≤h∧h≤m∧m≤cap∧(mx=none→m=cap)∧(Instr.sliceBounds isS len capR (lo.map a.eval) (hi.map a.eval) (mx.map a.eval)).run P w=.ok (l,h,match mx with|none=>capR|some _=>m) w:=by
 unfold sbounds at hs
 split at hs
 ·rename_i m1 h1 l1 hm1 hh1 hl1
  split at hs
  ·rename_i b1 b2 b3 b4
   cases hs
   have c1:=Nat.le_of_ble_eq_true b1
   have c2:=Nat.le_of_ble_eq_true b2
   have c3:=Nat.le_of_ble_eq_true b3
   have key:∀ (x:Operand) (n y:Nat) (cd:BoundsCode),onat env 0 (some x)=some n→n≤y→(Instr.sliceBound (a.eval x) y cd).run P w=.ok n w:=fun x n y cd hx hy=>by
    unfold onat at hx
    split at hx
    ·rename_i hq;cases hq
    ·rename_i x' hq
     cases hq
     split at hx
     ·rename_i v hv
      obtain⟨k,hk⟩:=asNat_ok hx (opd_ok hE hv)
      have h0:(0:Int)≤(n:Int)∧(n:Int)≤(y:Int):=by omega
      simp only[Instr.sliceBound,hk,asIntOf,Sem.run_bind,Sem.run_pure,Result.andThen_ok,if_pos h0,Int.toNat_natCast]
     ·cases hx
   have kz:∀ (x:Operand) (d:Nat),onat env d (some x)=onat env 0 (some x):=fun x d=>rfl
   refine⟨c3,c2,c1,fun e=>by subst e;simp only[onat] at hm1;exact(Option.some.inj hm1).symm,?_⟩
   cases mx with
   | none =>
    simp only[onat] at hm1
    cases hm1
    cases hi with
    | none =>
     simp only[onat] at hh1
     cases hh1
     cases lo with
     | none =>
      simp only[onat] at hl1
      cases hl1
      simp only[Instr.sliceBounds,Option.map_none,Sem.run_bind,Sem.run_pure,Result.andThen_ok]
     | some x =>
      simp only[Instr.sliceBounds,Option.map_none,Option.map_some,Sem.run_bind,Sem.run_pure,Result.andThen_ok]
      rw[key x l _ _ hl1 c3]
      rfl
    | some y =>
     cases lo with
     | none =>
      simp only[onat] at hl1
      cases hl1
      simp only[Instr.sliceBounds,Option.map_none,Option.map_some,Sem.run_bind,Sem.run_pure,Result.andThen_ok]
      rw[key y h _ _ hh1 (by omega)]
      rfl
     | some x =>
      simp only[Instr.sliceBounds,Option.map_none,Option.map_some,Sem.run_bind,Sem.run_pure,Result.andThen_ok]
      rw[key y h _ _ hh1 (by omega)]
      simp only[Result.andThen_ok]
      rw[key x l _ _ hl1 c3]
      rfl
   | some z =>
    cases hi with
    | none=>simp at b4
    | some y =>
     cases lo with
     | none =>
      simp only[onat] at hl1
      cases hl1
      simp only[Instr.sliceBounds,Option.map_none,Option.map_some,Sem.run_bind,Sem.run_pure,Result.andThen_ok]
      rw[key z m _ _ hm1 (by omega)]
      simp only[Result.andThen_ok]
      rw[key y h _ _ hh1 c2]
      rfl
     | some x =>
      simp only[Instr.sliceBounds,Option.map_some,Sem.run_bind,Sem.run_pure]
      rw[key z m _ _ hm1 (by omega)]
      simp only[Result.andThen_ok]
      rw[key y h _ _ hh1 c2]
      simp only[Result.andThen_ok]
      rw[key x l _ _ hl1 c3]
      rfl
  ·cases hs
 ·cases hs
theorem bytes_extract (l:List UInt8) (i j:Nat):(⟨⟨l⟩⟩:ByteArray).extract i j=⟨⟨(l.take j).drop i⟩⟩:=by
 apply ByteArray.ext
 apply Array.ext'
 simp[List.drop_take]
theorem slice_ok {t:TypeId} {x:Operand} {lo hi mx:Option Operand} {v:AV} (o:Oper) (ho:o.op=.slice t x lo hi mx) (h:eSlice t x lo hi mx P call env s=.ok v s') (c:Cx K L s w env a s'):Ok K L s w v s' ((execOp a.eval o).run P w):=by
  have addOpt:∀ (A:Addr) (n:Nat),(some A).map (·.add n)=some (A.add n):=fun _ _=>rfl
  have cut:∀ (e:TypeId) (A:Option Addr) (n cp l h m z:Nat),P.underlying t=some (.slice e)→(sizeOf e).run P w=.ok z w→a.eval x=.slice A n cp→(Instr.sliceBounds true n cp (lo.map a.eval) (hi.map a.eval) (mx.map a.eval)).run P w=.ok (l,h,m) w →
      (execOp a.eval o).run P w=.ok (.value (.slice (if m=l then A else A.map (·.add (l*z))) (h-l) (m-l))) w:=fun e A n cp l h m z hu hz hx hb=>by
    simp only[execOp,ho,Instr.sliceAt,hx,Sem.run_bind,run_underlying hu,Result.andThen_ok,Instr.slice,hb,hz,Sem.run_pure]
  unfold eSlice at h
  split at h
  · rename_i l hx
    split at h
    · rename_i hu
      split at h
      · rename_i i j m hs
        cases h
        have hxe:=toV_str (opd_ok c.env hx)
        obtain⟨_,_,_,_,hr⟩:=sbounds_ok (P:=P) (w:=w) c.env hs l.length (Nat.le_refl _) false
        refine Ok.pure (v':=.string ⟨⟨(l.take j).drop i⟩⟩) c.heap rfl ?_
        simp only[Option.map_none] at hr
        simp only[execOp,ho,Instr.sliceAt,hxe,Sem.run_bind,run_underlying hu,Result.andThen_ok,Instr.slice,Option.map_none,Option.isSome_none,Bool.false_eq_true,if_false,bytes_size,hr,Sem.run_pure,bytes_extract]
      · cases h
    · cases h
  · rename_i hx
    split at h
    · rename_i b e hs ht
      obtain⟨l,j,m⟩:=b
      obtain⟨e,z⟩:=e
      cases h
      have hxe:a.eval x=.slice none 0 0:=by have:=opd_ok c.env hx;simp only[toV] at this;exact(Option.some.inj this).symm
      obtain⟨h1,h2,h3,h4,hr⟩:=sbounds_ok (P:=P) (w:=w) c.env hs 0 (Nat.le_refl _) true
      have hl0:l=0:=by omega
      have hj0:j=0:=by omega
      have hm0:m=0:=by omega
      subst hl0 hj0 hm0
      refine Ok.pure (v':=.slice none 0 0) c.heap rfl ?_
      have hr':(Instr.sliceBounds true 0 0 (lo.map a.eval) (hi.map a.eval) (mx.map a.eval)).run P w=.ok (0,0,0) w:=by rw[hr];cases mx<;>rfl
      rw[cut e none 0 0 0 0 0 z (tel_spec ht).1 (tel_size ht w) hxe hr']
      rfl
    · cases h
  · rename_i b k n cp hx
    split at h
    · rename_i l j m e z hs ht
      cases h
      obtain⟨lc,hl,hxe⟩:=toV_sl (opd_ok c.env hx)
      obtain⟨h1,h2,h3,h4,hr⟩:=sbounds_ok (P:=P) (w:=w) c.env hs cp (Nat.le_refl _) true
      have hr':(Instr.sliceBounds true n cp (lo.map a.eval) (hi.map a.eval) (mx.map a.eval)).run P w=.ok (l,j,m) w:=by
        rw[hr];cases mx with
        | none=>simp only[h4 rfl]
        | some _=>rfl
      refine Ok.pure (v':=.slice (some (locAddr lc (match Nat.beq m l with|true=>k|false=>k+l*z))) (j-l) (m-l)) c.heap (by simp only[toV,hl];cases Nat.beq m l<;>rfl) ?_
      rw[cut e _ n cp l j m z (tel_spec ht).1 (tel_size ht w) hxe hr']
      congr 4
      by_cases hml:m=l
      · subst hml;simp
      · have hb:Nat.beq m l=false:=by cases hq:Nat.beq m l with
                                             | false=>rfl
                                             | true=>exact absurd (Nat.eq_of_beq_eq_true hq) hml
        rw[if_neg hml,hb,addOpt,addr_add]
    · cases h
  · rename_i b k n y hx
    obtain⟨lc,hl,hz0,hle,hxe⟩:=toV_su (opd_ok c.env hx)
    have hcapM:=toV_su_cap (opd_ok c.env hx) hl
    have hroom:n≤(lc.cc-k) / y:=by rw[Nat.le_div_iff_mul_le hz0];omega
    split at h
    · rename_i l j m e z ht hs
      split at h
      · rename_i b1 b2
        cases h
        have hyz:=Nat.eq_of_beq_eq_true b1
        subst hyz
        obtain⟨h1,h2,h3,h4,hr⟩:=sbounds_ok (P:=P) (w:=w) c.env hs ((lc.cc-k) / y) hroom true
        have hln:l=0∨l<n:=by
          simp only[Bool.or_eq_true] at b2
          rcases b2 with q|q
          · exact .inl (Nat.eq_of_beq_eq_true q)
          · exact .inr (blt_lt q)
        have hmn:=h4 rfl
        have hlz:l*y≤n*y:=Nat.mul_le_mul_right _ (by omega)
        have hjz:j*y≤n*y:=Nat.mul_le_mul_right _ (by omega)
        have hsub:l*y+(j-l)*y=j*y:=by rw[← Nat.add_mul];congr 1;omega
        refine Ok.pure (v':=.slice (some (locAddr lc (k+l*y))) (j-l) ((lc.cc-(k+l*y)) / y)) c.heap ?_ ?_
        · simp only[toV];rw[hl];simp only[];rw[if_pos ⟨hz0,by omega,Nat.le_trans (Nat.div_le_div_right (by omega)) hcapM⟩]
        · rw[cut e _ n _ l j _ y (tel_spec ht).1 (tel_size ht w) hxe hr]
          have hdiv:(lc.cc-(k+l*y)) / y=(lc.cc-k) / y-l:=by
            rw[← Nat.sub_sub,Nat.mul_comm l y,Nat.sub_mul_div_of_le]
            rw[Nat.mul_comm];omega
          rw[hdiv]
          congr 4
          by_cases hcl:(lc.cc-k) / y=l
          · have:l=0:=by omega
            subst this
            rw[if_pos hcl];simp
          · rw[if_neg hcl,addOpt,addr_add]
      · cases h
    · rename_i l j m e z w2 ht hs
      cases h
      obtain⟨h1,h2,h3,h4,hr⟩:=sbounds_ok (P:=P) (w:=w) c.env hs ((lc.cc-k) / y) hroom true
      refine Ok.pure (v':=.slice (some (locAddr lc (match Nat.beq m l with|true=>k|false=>k+l*z))) (j-l) (m-l)) c.heap (by simp only[toV,hl];cases Nat.beq m l<;>rfl) ?_
      rw[cut e _ n _ l j m z (tel_spec ht).1 (tel_size ht w) hxe hr]
      congr 4
      by_cases hml:m=l
      · subst hml;simp
      · have hb:Nat.beq m l=false:=by cases hq:Nat.beq m l with
                                             | false=>rfl
                                             | true=>exact absurd (Nat.eq_of_beq_eq_true hq) hml
        rw[if_neg hml,hb,addOpt,addr_add]
    · cases h
  · cases h
end Go.Ev

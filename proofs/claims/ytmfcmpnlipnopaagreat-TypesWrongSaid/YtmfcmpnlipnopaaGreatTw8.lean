/- Parts of this proof, one behind the other: EvI. -/
import Derived.Test.YtmfcmpnlipnopaaGreatTw7
set_option maxRecDepth 1000000
set_option maxHeartbeats 40000000
namespace Go.Ev
variable {P:Program} {K:Known} {L:Map} {s s':St} {w:World} {env:Env} {a:Act} {call:CallF}
theorem foldl_set (off:Nat):∀ (vs:List Value) (n:Nat) (arr:Array Value),((vs.zipIdx n).foldl (fun cs (p:Value×Nat)=>cs.setIfInBounds (off+p.2) p.1) arr).size=arr.size ∧
  ∀ k,((vs.zipIdx n).foldl (fun cs (p:Value×Nat)=>cs.setIfInBounds (off+p.2) p.1) arr)[k]?=if off+n≤k∧k<off+n+vs.length∧k<arr.size then vs[k-(off+n)]? else arr[k]?
 | [],n,arr=>⟨rfl,fun k=>by rw[if_neg (by simp;omega)];rfl⟩
 | v::vs,n,arr=>by
  obtain⟨h1,h2⟩:=foldl_set off vs (n+1) (arr.setIfInBounds (off+n) v)
  have hsz:(arr.setIfInBounds (off+n) v).size=arr.size:=Array.size_setIfInBounds
  have hl1:(v::vs).length=vs.length+1:=rfl
  simp only[List.zipIdx_cons,List.foldl_cons]
  refine⟨h1.trans hsz,fun k=>?_⟩
  rw[h2 k]
  by_cases hk:off+(n+1)≤k∧k<off+(n+1)+vs.length∧k<arr.size
  ·rw[if_pos (by omega),if_pos (by omega)]
   have:k-(off+n)=(k-(off+(n+1)))+1:=by omega
   rw[this,List.getElem?_cons_succ]
  ·rw[if_neg (by omega)]
   by_cases hko:off+n=k
   ·subst hko
    by_cases hlt:off+n<arr.size
    ·rw[if_pos (by omega)];simp[hlt]
    ·rw[if_neg (by omega)];simp[hlt]
   ·rw[if_neg (by omega),Array.getElem?_setIfInBounds_ne hko]
theorem over_set {l vs r:List AV} {l' vs':List Value} {off:Nat} (hl:toVs L l=some l') (hv:toVs L vs=some vs') (h:over l off vs=some r) :
  toVs L r=some ((vs'.zipIdx 0).foldl (fun cs (p:Value×Nat)=>cs.setIfInBounds (off+p.2) p.1) (⟨l'⟩:Array Value)).toList∧off+vs'.length≤l'.length:=by
 obtain⟨h1,h2,h3⟩:=over_spec _ _ _ _ h
 obtain⟨a1,a2⟩:=toVs_get hl
 obtain⟨b1,b2⟩:=toVs_get hv
 obtain⟨c1,c2⟩:=foldl_set off vs' 0 ⟨l'⟩
 have c1':((vs'.zipIdx 0).foldl (fun cs (p:Value×Nat)=>cs.setIfInBounds (off+p.2) p.1) (⟨l'⟩:Array Value)).size=l'.length:=c1
 refine⟨toVs_of _ _ ((h1.trans a1).trans (c1'.symm.trans Array.length_toList.symm)) (fun j v hj=>?_),by omega⟩
 rw[h3 j] at hj
 rw[Array.getElem?_toList,c2 j]
 have hsz:(⟨l'⟩:Array Value).size=l'.length:=rfl
 split at hj
 ·rename_i hin
  obtain⟨v',k1,k2⟩:=b2 _ _ hj
  refine⟨v',k1,?_⟩
  rw[if_pos (by omega)];exact k2
 ·rename_i hout
  obtain⟨v',k1,k2⟩:=a2 _ _ hj
  refine⟨v',k1,?_⟩
  rw[if_neg (by omega)];simpa using k2
def partsRel (L:Map):List (Nat×AV)→List (Nat×Value)→Prop
 | [],[]=>True
 | (i,v)::l,(j,v')::r=>i=j∧toV L v=some v'∧partsRel L l r
 | _,_=>False
theorem parts_ok (hE:EnvRel L env a):∀ (pl:List (Nat×Operand)) (vs:List AV),opds env (pl.map (·.2))=some vs→partsRel L ((pl.map (·.1)).zip vs) (pl.map fun p=>(p.1,a.eval p.2))
 | [],vs,h=>by simp only[List.map_nil,opds] at h;cases h;trivial
 | (i,x)::pl,vs,h=>by
  simp only[List.map_cons,opds] at h
  cases hx:opd x env with
  | none=>rw[hx] at h;cases h
  | some v =>
   cases hl:opds env (pl.map (·.2)) with
   | none=>rw[hx,hl] at h;cases h
   | some r=>rw[hx,hl] at h;cases h;exact⟨rfl,opd_ok hE hx,parts_ok hE pl r hl⟩
theorem fill_ok {place:Nat→Option (Nat×Nat)}:∀ (q:List (Nat×AV)) (q':List (Nat×Value)) (l r:List AV) (l':List Value),partsRel L q q'→toVs L l=some l'→fills place l q=some r →
  ∃ arr,Instr.fill place ⟨l'⟩ q'=some arr∧toVs L r=some arr.toList
 | [],[],l,r,l',_,hl,h=>by
  simp only[fills] at h
  have e:=Option.some.inj h
  subst e
  exact⟨⟨l'⟩,rfl,hl⟩
 | [],_::_,_,_,_,hq,_,_=>hq.elim
 | (_,_)::_,[],_,_,_,hq,_,_=>hq.elim
 | (i,v)::q,(j,v')::q',l,r,l',hq,hl,h=>by
  obtain⟨rfl,hv,hq⟩:=hq
  simp only[fills] at h
  split at h
  ·rename_i o n hp
   split at h
   ·rename_i hb
    split at h
    ·rename_i l2 hov
     obtain⟨c,hc,hcv⟩:=toV_cells hv
     obtain⟨k1,k2⟩:=over_set hl hc hov
     have hlen:=(toVs_get hc).1
     have hbn:=Nat.eq_of_beq_eq_true hb
     obtain⟨arr,m1,m2⟩:=fill_ok q q' l2 r _ hq k1 h
     refine⟨arr,?_,m2⟩
     have hcs:v'.cells.size=n:=by rw[hcv];simp;omega
     have hfo:v'.cells.zipIdx.foldl (fun cs (p:Value×Nat)=>cs.setIfInBounds (o+p.2) p.1) (⟨l'⟩:Array Value)=(c.zipIdx 0).foldl (fun cs (p:Value×Nat)=>cs.setIfInBounds (o+p.2) p.1) (⟨l'⟩:Array Value):=by
      rw[hcv,← Array.foldl_toList];simp
     have hne:¬ (v'.cells.size≠n||o+v'.cells.size > (⟨l'⟩:Array Value).size)=true:=by
      rw[hcv];simp;omega
     rw[Instr.fill,hp]
     simp only[]
     rw[if_neg hne]
     have:(⟨((c.zipIdx 0).foldl (fun cs (p:Value×Nat)=>cs.setIfInBounds (o+p.2) p.1) (⟨l'⟩:Array Value)).toList⟩:Array Value)=v'.cells.zipIdx.foldl (fun cs (p:Value×Nat)=>cs.setIfInBounds (o+p.2) p.1) (⟨l'⟩:Array Value):=by rw[hfo]
     rw[this] at m1
     exact m1
    ·cases h
   ·cases h
  ·cases h
theorem places_ok:∀ (fs:List Field) (ps:List (Nat×Nat)),placesOf P fs=some ps→(fs.mapM (fun f=>do Pure.pure (f.offset,← sizeOf f.type)):Sem (List (Nat×Nat))).run P w=.ok ps w
 | [],ps,h=>by simp only[placesOf] at h;cases h;rfl
 | f::fs,ps,h=>by
  simp only[placesOf] at h
  cases hn:tsize P f.type with
  | none=>rw[hn] at h;cases h
  | some n =>
   cases hr:placesOf P fs with
   | none=>rw[hn,hr] at h;cases h
   | some r =>
    rw[hn,hr] at h;cases h
    rw[List.mapM_cons]
    simp only[Sem.run_bind,tsize_run hn,Result.andThen_ok,Sem.run_pure,places_ok fs r hr]
theorem build_ok {t:TypeId} {parts:Array (Nat×Operand)} {v:AV} (o:Oper) (ho:o.op=.build t parts) (h:eBuild t parts P call env s=.ok v s') (c:Cx K L s w env a s'):Ok K L s w v s' ((execOp a.eval o).run P w):=by
 have hparts:(parts.map fun (p:Nat×Operand)=>(p.1,a.eval p.2)).toList=parts.toList.map fun p=>(p.1,a.eval p.2):=by simp
 unfold eBuild at h
 split at h
 ·rename_i vs fs z hvs hu hz
  split at h
  ·rename_i ps hps
   split at h
   ·rename_i r hr
    cases h
    obtain⟨zv,hzv,hzr,_⟩:=tzero_spec hz
    obtain⟨zc,hzc,hzcv⟩:=toV_cells (hzv L)
    obtain⟨arr,m1,m2⟩:=fill_ok _ _ _ _ _ (parts_ok c.env _ _ hvs) hzc hr
    refine Ok.pure (v':=.agg arr) c.heap (by simp only[toV];rw[m2]) ?_
    have hu':P.underlying t=some (.struct fs):=hu
    have hpl:placesOf P fs.toList=some ps:=by unfold tplaces at hps;rw[hu'] at hps;exact hps
    have hmap:(fs.mapM (fun f=>do Pure.pure (f.offset,← sizeOf f.type)):Sem (Array (Nat×Nat))).run P w=.ok ps.toArray w:=by
     rw[Array.mapM_eq_mapM_toList,Sem.run_map,places_ok _ _ hpl];rfl
    have hfill:Instr.fill (ps.toArray[·]?) zv.cells (parts.map fun (p:Nat×Operand)=>(p.1,a.eval p.2)).toList=some arr:=by
     rw[hparts,hzcv];simpa using m1
    simp only[execOp,ho,Instr.build,Sem.run_bind,hzr,Result.andThen_ok,run_underlying hu,hmap,hfill,Sem.run_pure]
   ·cases h
  ·cases h
 ·rename_i vs n e z hvs hu hz
  split at h
  ·rename_i sz hsz
   split at h
   ·rename_i r hr
    cases h
    obtain⟨zv,hzv,hzr,_⟩:=tzero_spec hz
    obtain⟨zc,hzc,hzcv⟩:=toV_cells (hzv L)
    obtain⟨arr,m1,m2⟩:=fill_ok _ _ _ _ _ (parts_ok c.env _ _ hvs) hzc hr
    refine Ok.pure (v':=.agg arr) c.heap (by simp only[toV];rw[m2]) ?_
    have hfill:Instr.fill (fun i=>some (i*sz,sz)) zv.cells (parts.map fun (p:Nat×Operand)=>(p.1,a.eval p.2)).toList=some arr:=by
     rw[hparts,hzcv];exact m1
    simp only[execOp,ho,Instr.build,Sem.run_bind,hzr,Result.andThen_ok,run_underlying hu,tsize_run hsz,hfill,Sem.run_pure]
   ·cases h
  ·cases h
 ·cases h
theorem rep_length (z:List AV):∀ n,(rep z n).length=n*z.length
 | 0=>by simp[rep]
 | n+1=>by rw[rep,List.length_append,rep_length z n,Nat.succ_mul,Nat.add_comm]
theorem rep_get (z:List AV) (hz:0<z.length):∀ n k,k<n*z.length→(rep z n)[k]?=z[k % z.length]?
 | 0,k,h=>by simp at h
 | n+1,k,h=>by
  rw[rep]
  by_cases hk:k<z.length
  ·rw[List.getElem?_append_left hk,Nat.mod_eq_of_lt hk]
  ·rw[List.getElem?_append_right (by omega),rep_get z hz n _ (by rw[Nat.succ_mul] at h;omega)]
   congr 1
   rw[← Nat.mod_eq_sub_mod (by omega)]
theorem rep_ok {z:List AV} {zc:List Value} (h:toVs L z=some zc) (hz:0<z.length) (n:Nat):toVs L (rep z n)=some ((Array.range (n*z.length)).map (fun i=>(⟨zc⟩:Array Value)[i % (⟨zc⟩:Array Value).size]!)).toList:=by
 obtain⟨h1,h2⟩:=toVs_get h
 refine toVs_of _ _ (by rw[rep_length];simp) (fun j v hj=>?_)
 have hlt:j<n*z.length:=by
  rw[← rep_length]
  rcases Nat.lt_or_ge j (rep z n).length with q|q
  ·exact q
  ·rw[List.getElem?_eq_none q] at hj;cases hj
 rw[rep_get z hz n j hlt] at hj
 obtain⟨v',k1,k2⟩:=h2 _ _ hj
 refine⟨v',k1,?_⟩
 rw[Array.getElem?_toList]
 have hs:(⟨zc⟩:Array Value).size=z.length:=by simp[h1]
 rw[Array.getElem?_map,Array.getElem?_range,if_pos hlt]
 simp only[Option.map_some,hs]
 have:(⟨zc⟩:Array Value)[j % z.length]?=some v':=by simpa using k2
 rw[getElem!_def,this]
theorem buildSlice_ok {t:TypeId} {len:Nat} {parts:Array (Nat×Operand)} {v:AV} (o:Oper) (ho:o.op=.buildSlice t len parts) (h:eBuildSlice t len parts P call env s=.ok v s') (c:Cx K L s w env a s'):Ok K L s w v s' ((execOp a.eval o).run P w):=by
 have hparts:(parts.map fun (p:Nat×Operand)=>(p.1,a.eval p.2)).toList=parts.toList.map fun p=>(p.1,a.eval p.2):=by simp
 unfold eBuildSlice at h
 split at h
 ·rename_i vs e n hvs ht
  split at h
  ·rename_i z hz
   split at h
   ·rename_i r hb hr
    cases h
    obtain⟨hu,hn0,i,z',hi,_,hz',hzl,_⟩:=tel_spec ht
    rw[hz] at hz';cases hz'
    obtain⟨zv,hzv,hzr,_⟩:=tzero_spec hz
    obtain⟨zc,hzc,hzcv⟩:=toV_cells (hzv L)
    have hzlen:=(toVs_get hzc).1
    have hrep:=rep_ok hzc (by omega) len
    obtain⟨arr,m1,m2⟩:=fill_ok _ _ _ _ _ (parts_ok c.env _ _ hvs) hrep hr
    obtain⟨q1,q2,q3⟩:=newRow_plain (P:=P) (e:=e) c.heap c.here m2
    have harr:(⟨arr.toList⟩:Array Value)=arr:=rfl
    rw[harr] at q1 q2 q3
    refine⟨_,_,_,.slice (some ⟨w.heap.size,0,none⟩) len len,?_,q2,q3,.inl ?_⟩
    ·simp only[toV];rw[Map.put_same];rfl
    ·have hle:=Nat.le_of_ble_eq_true hb
     have hbig:¬ (len*n > 2 ^ 24):=by omega
     have hfill:Instr.fill (fun i=>some (i*n,n)) ((Array.range (len*n)).map (zv.cells[· % zv.cells.size]!)) (parts.map fun (p:Nat×Operand)=>(p.1,a.eval p.2)).toList=some arr:=by
      rw[hzl] at m1;rw[hparts,hzcv];exact m1
     simp only[execOp,ho,Instr.buildSlice,Sem.run_bind,run_underlying hu,Result.andThen_ok,tel_size ht,if_neg hbig]
     by_cases h0:len*n=0
     ·have hfill0:Instr.fill (fun i=>some (i*n,n)) ((Array.range (len*n)).map ((#[]:Array Value)[· % (#[]:Array Value).size]!)) (parts.map fun (p:Nat×Operand)=>(p.1,a.eval p.2)).toList=some arr:=by
       have e1:∀ f:Nat→Value,(Array.range 0).map f=#[]:=fun f=>by rw[Array.range_zero'];simp
       rw[h0,e1] at hfill ⊢;exact hfill
      simp only[if_pos h0,Sem.run_pure,Sem.run_bind,Result.andThen_ok,hfill0,q1]
     ·simp only[if_neg h0,Sem.run_bind,hzr,Sem.run_pure,Result.andThen_ok,hfill,q1]
   ·cases h
  ·cases h
 ·cases h
theorem wrap_nat (n:Nat) (h:n≤1048576):IntKind.i64.wrap (n:Int)=(n:Int):=by
 have h64:(2:Int) ^ 64=18446744073709551616:=by decide
 have h63:(2:Int) ^ 63=9223372036854775808:=by decide
 have h1:(n:Int) % (2:Int) ^ 64=(n:Int):=by rw[h64];omega
 unfold IntKind.wrap
 simp only[IntKind.bits,IntKind.signed,h1,Bool.true_and,decide_eq_true_eq,ge_iff_le]
 have h2:¬ ((2:Int) ^ (64-1)≤(n:Int)):=by show ¬ ((2:Int) ^ 63≤(n:Int));rw[h63];omega
 rw[if_neg h2]
theorem makeSlice_ok {t:TypeId} {x y:Operand} {v:AV} (o:Oper) (ho:o.op=.makeSlice t x y) (h:eMakeSlice t x y P call env s=.ok v s') (c:Cx K L s w env a s'):Ok K L s w v s' ((execOp a.eval o).run P w):=by
 unfold eMakeSlice at h
 split at h
 ·rename_i e n k1 l k2 cp ht hx hy
  split at h
  ·rename_i z hz
   split at h
   ·rename_i b1 b2
    cases h
    obtain⟨hu,hn0,i,z',hi,hin,hz',hzl,hby⟩:=tel_spec ht
    rw[hz] at hz';cases hz'
    obtain⟨zv,hzv,hzr,_⟩:=tzero_spec hz
    obtain⟨zc,hzc,hzcv⟩:=toV_cells (hzv L)
    have hzlen:=(toVs_get hzc).1
    have hrep:=rep_ok hzc (by omega) cp
    obtain⟨q1,q2,q3⟩:=newRow_plain (P:=P) (e:=e) c.heap c.here hrep
    have hxe:=toV_int (opd_ok c.env hx)
    have hye:=toV_int (opd_ok c.env hy)
    have hlc:=Nat.le_of_ble_eq_true b1
    have hcb:=Nat.le_of_ble_eq_true b2
    refine⟨_,_,_,.slice (some ⟨w.heap.size,0,none⟩) l cp,?_,q2,q3,.inl ?_⟩
    ·simp only[toV];rw[Map.put_same];rfl
    ·have w1:=wrap_nat l (by omega)
     have w2:=wrap_nat cp hcb
     have hty:(typeInfo e).run P w=.ok i w:=by simp[typeInfo,hi]
     have hprod:i.bytes*cp≤1099511627776:=Nat.le_trans (Nat.mul_le_mul hby hcb) (by decide)
     have hprod':(i.bytes:Int)*(cp:Int)≤1099511627776:=by rw[← Int.natCast_mul];omega
     have hbig:¬ ((((cp:Int)<0||(i.bytes:Int)*(cp:Int) > 2 ^ 48)||(l:Int)<0||(l:Int) > (cp:Int))=true):=by
      have h48:(2:Int) ^ 48=281474976710656:=by decide
      rw[h48]
      simp
      omega
     have hro:=run_askRoom P w (cp*i.bytes)
     have hxe':a.eval x=.int k1 (l:Int):=hxe
     have hye':a.eval y=.int k2 (cp:Int):=hye
     simp only[execOp,ho,Instr.makeSlice,hxe',hye',Sem.run_bind,run_underlying hu,Result.andThen_ok,asInt,asIntOf,Sem.run_pure,hty,w1,w2,Int.toNat_natCast]
     rw[if_neg hbig,Sem.run_bind,hro,Result.andThen_ok,Sem.run_bind,tel_size ht,Result.andThen_ok]
     have harr:(⟨((Array.range (cp*z.cells.length)).map (fun i=>(⟨zc⟩:Array Value)[i % (⟨zc⟩:Array Value).size]!)).toList⟩:Array Value)=(Array.range (cp*z.cells.length)).map (fun i=>(⟨zc⟩:Array Value)[i % (⟨zc⟩:Array Value).size]!):=rfl
     rw[harr,hzl] at q1
     by_cases h0:cp*n=0
     ·have e1:∀ f:Nat→Value,(Array.range 0).map f=#[]:=fun f=>by rw[Array.range_zero'];simp
      rw[h0,e1] at q1
      rw[if_pos h0,h0]
      simp only[Sem.run_bind,Sem.run_pure,Result.andThen_ok,e1,q1]
      rw[hzl,h0,e1]
     ·rw[if_neg h0]
      simp only[Sem.run_bind,Sem.run_pure,hzr,Result.andThen_ok,hzcv,q1]
      rw[hzl]
   ·cases h
  ·cases h
 ·cases h
end Go.Ev

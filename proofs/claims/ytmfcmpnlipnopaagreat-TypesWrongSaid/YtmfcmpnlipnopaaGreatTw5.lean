/- Parts of this proof, one behind the other: EvD. -/
import Derived.Test.YtmfcmpnlipnopaaGreatTw4
import Derived.Laws.IdiomCopy
set_option maxRecDepth 1000000
set_option maxHeartbeats 40000000
namespace Go.Ev
variable {P:Program} {K:Known} {L:Map} {s s':St} {w:World}
theorem toVs_get {L:Map}:∀ {l:List AV} {r:List Value},toVs L l=some r→l.length=r.length∧∀ (j:Nat) (v:AV),l[j]?=some v→∃ v',toV L v=some v'∧r[j]?=some v'
 | [],r,h=>by simp only[toVs] at h;cases h;exact⟨rfl,fun j v hv=>by simp at hv⟩
 | x::l,r,h=>by
  simp only[toVs] at h
  cases hx:toV L x with
  | none=>rw[hx] at h;cases h
  | some x' =>
   cases hl:toVs L l with
   | none=>rw[hx,hl] at h;cases h
   | some l' =>
    rw[hx,hl] at h;cases h
    obtain⟨h1,h2⟩:=toVs_get hl
    refine⟨by simp[h1],fun j v hv=>?_⟩
    cases j with
    | zero=>simp at hv;subst hv;exact⟨x',hx,rfl⟩
    | succ j=>simp at hv;simpa using h2 j v hv
theorem toVs_of {L:Map}:∀ (l:List AV) (r:List Value),l.length=r.length→(∀ (j:Nat) (v:AV),l[j]?=some v→∃ v',toV L v=some v'∧r[j]?=some v')→toVs L l=some r
 | [],[],_,_=>rfl
 | [],_::_,h,_=>by simp at h
 | _::_,[],h,_=>by simp at h
 | x::l,y::r,h,hv=>by
  obtain⟨v',h1,h2⟩:=hv 0 x rfl
  simp at h2;subst h2
  have:=toVs_of l r (by simpa using h) (fun j v hj=>by simpa using hv (j+1) v (by simpa using hj))
  simp only[toVs];rw[h1,this]
theorem toVs_app {L:Map} {a b:List AV} {a' b':List Value} (ha:toVs L a=some a') (hb:toVs L b=some b'):toVs L (a++b)=some (a'++b'):=by
 induction a generalizing a' with
 | nil=>simp only[toVs] at ha;cases ha;exact hb
 | cons x l ih =>
  simp only[toVs] at ha
  cases hx:toV L x with
  | none=>rw[hx] at ha;cases ha
  | some x' =>
   cases hl:toVs L l with
   | none=>rw[hx,hl] at ha;cases ha
   | some l'=>rw[hx,hl] at ha;cases ha;simp only[List.cons_append,toVs];rw[hx,ih hl]
theorem oneOf {L:Map} {a:AV} {v:Value} (h:toV L a=some v) (h1:a.one=true):v.oneCell'=true:=by
 cases a<;>simp only[toV] at h<;>first
  | (cases h;rfl)
  | (split at h<;>first|(cases h;rfl)|(cases h;done)|(split at h<;>first|(cases h;rfl)|(cases h;done)))
  | (simp[AV.one] at h1;done)
theorem addr_add (l:Loc) (o j:Nat):(locAddr l o).add j=locAddr l (o+j):=by
 unfold Addr.add locAddr
 split
 ·subst_vars;rfl
 ·simp[Nat.add_assoc]
theorem HRel.cell {g:Nat→Option Blk} (hH:HRel K L (look g) w) {b:Nat} {e:TypeId} {cs:List AV} (hb:g b=some (.cells e cs)) {j:Nat} {v:AV} (hj:cs[j]?=some v) (hk:K b j) :
  ∃ l v',L b=some l∧toV L v=some v'∧w.cell? (locAddr l j)=some v':=by
 obtain⟨l,hl,c,fz,hc,_,_,_,v',h1,h2⟩:=hH.rel b j _ (look_cells hb hj) hk
 exact⟨l,v',hl,h1,by simp[World.cell?,locAddr,hc,h2]⟩
theorem cut_spec {l r:List AV} {o n:Nat} (h:cut l o n=some r):r.length=n∧∀ j,r[j]?=if j<n then l[o+j]? else none:=by
 unfold cut at h
 split at h
 ·rename_i hb
  cases h
  have hn:=Nat.eq_of_beq_eq_true hb
  refine⟨hn,fun j=>?_⟩
  rw[List.getElem?_take]
  split
  ·rw[List.getElem?_drop]
  ·rfl
 ·cases h
theorem loadCells_ok {g:Nat→Option Blk} (hH:HRel K L (look g) w) {b:Nat} {e:TypeId} {cs r:List AV} (hb:g b=some (.cells e cs)) {o n:Nat} (hc:cut cs o n=some r) (hk:∀ j,o≤j→j<o+n→K b j) {l:Loc} (hl:L b=some l) :
  ∃ r',toVs L r=some r'∧r'.length=n∧(loadCells (locAddr l o) n).run P w=.ok ⟨r'⟩ w:=by
 obtain⟨hlen,hg⟩:=cut_spec hc
 have hex:∀ j,j<n→∃ v v',r[j]?=some v∧toV L v=some v'∧w.cell? (locAddr l (o+j))=some v':=fun j hj=>by
  have hv:j<r.length:=by omega
  have h1:=hg j
  rw[if_pos hj,List.getElem?_eq_getElem hv] at h1
  obtain⟨l2,v',hl2,hv',hcell⟩:=hH.cell hb h1.symm (hk _ (by omega) (by omega))
  rw[hl] at hl2;cases hl2
  exact⟨_,v',List.getElem?_eq_getElem hv,hv',hcell⟩
 have hf:∃ f:Nat→Value,∀ j,j<n→∃ v,r[j]?=some v∧toV L v=some (f j)∧w.cell? (locAddr l (o+j))=some (f j):=by
  refine⟨fun j=>(w.cell? (locAddr l (o+j))).getD undef,fun j hj=>?_⟩
  obtain⟨v,v',h1,h2,h3⟩:=hex j hj
  exact⟨v,h1,by simp only[h3,Option.getD_some];exact h2,by simp only[h3,Option.getD_some]⟩
 obtain⟨f,hf⟩:=hf
 have hrun:=run_loadCells (P:=P) w (locAddr l o) n f (fun j hj=>by obtain⟨v,_,_,h3⟩:=hf j hj;rw[addr_add];exact h3)
 refine⟨(List.range n).map f,?_,by simp,hrun⟩
 refine toVs_of _ _ (by simp[hlen]) (fun j v hv=>?_)
 have hj:j<n:=by
  rcases Nat.lt_or_ge j r.length with q|q
  ·omega
  ·rw[List.getElem?_eq_none q] at hv;cases hv
 obtain⟨v2,h1,h2,_⟩:=hf j hj
 rw[h1] at hv;cases hv
 exact⟨f j,h2,by simp[hj]⟩
theorem tsize_run {t:TypeId} {n:Nat} (h:tsize P t=some n) (w:World):(sizeOf t).run P w=.ok n w:=by
 unfold tsize at h
 cases hi:P.info? t with
 | none=>rw[hi] at h;cases h
 | some i=>rw[hi] at h;cases h;simp[sizeOf,typeInfo,hi]
theorem tshape_run {t:TypeId} {a:Bool} {n:Nat} (h:tshape P t=some (a,n)) (w:World):(isAgg t).run P w=.ok a w∧(sizeOf t).run P w=.ok n w:=by
 unfold tshape at h
 cases hu:P.underlying t with
 | none=>rw[hu] at h;cases h
 | some d =>
  cases hi:P.info? t with
  | none=>rw[hu,hi] at h;cases h
  | some i =>
   rw[hu,hi] at h;cases h
   refine⟨?_,by simp[sizeOf,typeInfo,hi]⟩
   simp only[isAgg,Sem.run_bind,run_underlying hu,Result.andThen_ok]
   cases d<;>rfl
theorem load_ok (hH:HRel K L (look s.h.get) w) {t:TypeId} {b o:Nat} {v:AV} (h:loadC P s t b o=.ok v s') (hC:Cov K s'.lg) {l:Loc} (hl:L b=some l) :
  ∃ n,s'=s.rd b o n∧∃ v',toV L v=some v'∧(loadVar t (locAddr l o)).run P w=.ok v' w:=by
 unfold loadC at h
 split at h
 ·rename_i e cs n hb ht
  split at h
  ·rename_i r hc
   cases h
   have hk:∀ j,o≤j→j<o+n→K b j:=fun j h1 h2=>hC.get ⟨false,b,o,n⟩ (by simp[St.rd]) j h1 h2
   obtain⟨r',h1,h2,h3⟩:=loadCells_ok (P:=P) hH hb hc hk hl
   refine⟨n,rfl,.agg ⟨r'⟩,by simp only[toV];rw[h1],?_⟩
   obtain⟨k1,k2⟩:=tshape_run ht w
   simp only[loadVar,Sem.run_bind,k1,k2,Result.andThen_ok,if_true,h3,Sem.run_pure]
  ·cases h
 ·rename_i e cs n hb ht
  split at h
  ·rename_i v0 hv0
   cases h
   have hk:K b o:=hC.get ⟨false,b,o,1⟩ (by simp[St.rd]) o (Nat.le_refl _) (by simp)
   obtain⟨l2,v',hl2,hv,hcell⟩:=hH.cell hb hv0 hk
   rw[hl] at hl2;cases hl2
   refine⟨1,rfl,v',hv,?_⟩
   obtain⟨k1,k2⟩:=tshape_run ht w
   simp only[loadVar,Sem.run_bind,k1,Result.andThen_ok,Bool.false_eq_true,if_false,run_load,hcell]
  ·cases h
 ·cases h
theorem over_spec:∀ (l:List AV) (o:Nat) (vs r:List AV),over l o vs=some r→r.length=l.length∧o+vs.length≤l.length∧∀ j,r[j]?=if o≤j∧j<o+vs.length then vs[j-o]? else l[j]?
 | l,0,[],r,h=>by
  have:r=l:=by cases l<;>(simp only[over] at h;cases h;rfl)
  subst this
  refine⟨rfl,by simp,fun j=>?_⟩
  rw[if_neg (by simp)]
 | [],0,_::_,r,h=>by simp only[over] at h;cases h
 | x::l,0,v::vs,r,h=>by
  simp only[over] at h
  cases hq:over l 0 vs with
  | none=>rw[hq] at h;cases h
  | some q =>
   rw[hq] at h;cases h
   obtain⟨h1,h2,h3⟩:=over_spec l 0 vs q hq
   refine⟨by simp[h1],by simp at h2 ⊢;omega,fun j=>?_⟩
   cases j with
   | zero=>simp
   | succ j =>
    simp only[List.getElem?_cons_succ,h3 j,List.length_cons,Nat.zero_add,Nat.zero_le,true_and,Nat.sub_zero]
    by_cases hj:j<vs.length
    ·rw[if_pos hj,if_pos (by omega)]
    ·rw[if_neg hj,if_neg (by omega)]
 | [],_+1,_,r,h=>by simp only[over] at h;cases h
 | x::l,o+1,vs,r,h=>by
  simp only[over] at h
  cases hq:over l o vs with
  | none=>rw[hq] at h;cases h
  | some q =>
   rw[hq] at h;cases h
   obtain⟨h1,h2,h3⟩:=over_spec l o vs q hq
   refine⟨by simp[h1],by simp;omega,fun j=>?_⟩
   cases j with
   | zero=>simp
   | succ j =>
    simp only[List.getElem?_cons_succ,h3 j]
    by_cases hj:o≤j∧j<o+vs.length
    ·rw[if_pos hj,if_pos (by omega)];congr 1;omega
    ·rw[if_neg hj,if_neg (by omega)]
theorem setCell_get (w:World) (b o:Nat) (v:Value) (r:Nat):(w.setCell ⟨b,o,none⟩ v).heap[r]?=if b=r then (w.heap[r]?).map (fun | .cells c e fz=>Obj.cells (c.setIfInBounds o v) e fz|x=>x) else w.heap[r]?:=by
 simp only[World.setCell,Array.getElem?_modify]
 split
 ·cases w.heap[r]? with
  | none=>rfl
  | some x=>cases x<;>rfl
 ·rfl
theorem setCells_rest (b:Nat):∀ (vs:List Value) (o:Nat) (w:World),(w.setCells b o vs).heap.size=w.heap.size∧(w.setCells b o vs).os=w.os∧(w.setCells b o vs).output=w.output∧(w.setCells b o vs).tape=w.tape ∧
  ∀ r,r≠b→(w.setCells b o vs).heap[r]?=w.heap[r]?
 | [],_,_=>⟨rfl,rfl,rfl,rfl,fun _ _=>rfl⟩
 | v::vs,o,w=>by
  obtain⟨h1,h2,h3,h4,h5⟩:=setCells_rest b vs (o+1) (w.setCell ⟨b,o,none⟩ v)
  rw[World.setCells]
  refine⟨h1.trans (by simp[World.setCell]),h2,h3,h4,fun r hr=>?_⟩
  rw[h5 r hr,setCell_get,if_neg (fun e=>hr e.symm)]
theorem setCells_here (b:Nat):∀ (vs:List Value) (o:Nat) (w:World) (c:Array Value) (e:TypeId) (fz:Nat×Nat),w.heap[b]?=some (Obj.cells c e fz) →
  ∃ c',(w.setCells b o vs).heap[b]?=some (Obj.cells c' e fz)∧c'.size=c.size∧∀ k,c'[k]?=if o≤k∧k<o+vs.length∧k<c.size then vs[k-o]? else c[k]?
 | [],o,w,c,e,fz,h=>⟨c,h,rfl,fun k=>by rw[if_neg (by simp;omega)]⟩
 | v::vs,o,w,c,e,fz,h=>by
  have h0:(w.setCell ⟨b,o,none⟩ v).heap[b]?=some (Obj.cells (c.setIfInBounds o v) e fz):=by rw[setCell_get,if_pos rfl,h];rfl
  obtain⟨c',h1,h2,h3⟩:=setCells_here b vs (o+1) _ _ e fz h0
  rw[World.setCells]
  refine⟨c',h1,by simpa using h2,fun k=>?_⟩
  rw[h3 k]
  have hsz:(c.setIfInBounds o v).size=c.size:=Array.size_setIfInBounds
  have hl1:(v::vs).length=vs.length+1:=rfl
  by_cases hk:o+1≤k∧k<o+1+vs.length∧k<c.size
  ·rw[if_pos (by omega),if_pos (by omega)]
   have:k-o=(k-(o+1))+1:=by omega
   rw[this,List.getElem?_cons_succ]
  ·rw[if_neg (by omega)]
   by_cases hko:o=k
   ·subst hko
    by_cases hlt:o<c.size
    ·rw[if_pos (by omega)];simp[hlt]
    ·rw[if_neg (by omega)];simp[hlt]
   ·rw[if_neg (by omega),Array.getElem?_setIfInBounds_ne hko]
theorem put_look {s:St} {b o n:Nat} {x:Blk} {b2 k:Nat} {y:Info} (h:look (s.put b o n (some x)).h.get b2 k=some y):(b2=b∧look (fun _=>some x) b k=some y)∨(b2≠b∧look s.h.get b2 k=some y):=by
 obtain⟨z,hz⟩:=look_some h
 rcases Tr.get_set _ _ _ _ _ hz with ⟨rfl,h2⟩|⟨hne,h2⟩
 ·cases h2
  exact .inl ⟨rfl,by rw[← h];exact look_congr (by exact hz.symm) k⟩
 ·exact .inr ⟨hne,by rw[← h];exact look_congr (h2.trans hz.symm) k⟩
theorem store_ok (hH:HRel K L (look s.h.get) w) {b o:Nat} {vs:List AV} {r v:AV} (h:storeC s b o vs r=.ok v s') (hC:Cov K s'.lg) {l:Loc} (hl:L b=some l) {vs':List Value} (hv:toVs L vs=some vs') :
  v=r∧∃ d w',(storeCells (locAddr l o) vs').run P w=.ok () w'∧Step L s w d L s' w'∧HRel K L (look s'.h.get) w':=by
 unfold storeC at h
 split at h
 ·rename_i e cs hb
  split at h
  ·rename_i cs' h1 hov
   cases h
   refine⟨rfl,[⟨true,b,o,vs.length⟩],w.setCells l.blk (l.off+o) vs',?_⟩
   obtain⟨hlen,hfit,hget⟩:=over_spec _ _ _ _ hov
   obtain⟨hvl,hvg⟩:=toVs_get hv
   have hk:∀ j,o≤j→j<o+vs.length→K b j:=fun j h1 h2=>hC.get ⟨true,b,o,vs.length⟩ (by simp[St.put]) j h1 h2
   obtain⟨q1,q2,q3,q4,q5⟩:=setCells_rest l.blk vs' (l.off+o) w
   have hone:∀ x∈vs',x.oneCell'=true:=fun x hx=>by
    obtain⟨j,hj,rfl⟩:=List.getElem_of_mem hx
    have hj2:j<vs.length:=by omega
    obtain⟨v',k1,k2⟩:=hvg j _ (List.getElem?_eq_getElem hj2)
    rw[List.getElem?_eq_getElem hj] at k2;cases k2
    exact oneOf k1 (List.all_eq_true.1 h1 _ (List.getElem_mem hj2))
   have hinfo:vs≠[]→(∃ x,look s.h.get b o=some x∧K b o)∧∃ c fz,w.heap[l.blk]?=some (Obj.cells c e fz)∧l.off+cs.length≤c.size∧Free fz c.size:=fun hne=>by
    have hpos:0<vs.length:=by cases vs with|nil=>exact absurd rfl hne|cons _ _=>simp
    have:=hfit
    have hlk:=look_cells (k:=o) hb (List.getElem?_eq_getElem (by omega:o<cs.length))
    have hko:=hk o (Nat.le_refl _) (by omega)
    obtain⟨l2,hl2,c,fz,hc,h5,_,h6,_⟩:=hH.rel b o _ hlk hko
    rw[hl] at hl2;cases hl2
    exact⟨⟨_,hlk,hko⟩,c,fz,hc,h5,h6⟩
   have hcell:∀ j,j<vs'.length→∃ c fz,w.heap[l.blk]?=some (Obj.cells c e fz)∧l.off+o+j<c.size∧Free fz c.size:=fun j hj=>by
    have hne:vs≠[]:=by rintro rfl;simp at hvl;omega
    obtain⟨_,c,fz,hc,h5,h6⟩:=hinfo hne
    have:=hfit
    exact⟨c,fz,hc,by omega,h6⟩
   refine⟨?_,⟨rfl,Nat.le_refl _,Map.le_refl L,fun _ _ h=>.inl h,fun b l h h'=>(by rw[h] at h';cases h'),by omega,q2,q3,q4,fun r c e2 fz hr=>?_,fun r x hr hno hw=>?_⟩,⟨fun b2 k2 x hb2 hk2=>?_,fun b2 k2 x b3 k3 y l2 l3 h2 n2 h3 n3 m2 m3 hll=>?_,fun b2 l2 hl2=>by rw[q1];exact hH.old b2 l2 hl2⟩⟩
   ·have:=run_storeCells_cells (P:=P) l.blk (l.off+o) vs' 0 w (fun j hj=>by
      obtain⟨c,fz,hc,hlt,_⟩:=hcell j hj
      simp[World.cell?,hc,hlt]) (fun j hj=>by
      obtain⟨c,fz,hc,hlt,hfr⟩:=hcell j hj
      have:=hfr _ hlt
      simp[World.frozen?,hc];omega) hone
    simpa [locAddr] using this
   ·by_cases hrb:r=l.blk
    ·subst hrb
     obtain⟨c',k1,k2,k3⟩:=setCells_here l.blk vs' (l.off+o) w c e2 fz hr
     refine⟨c',k1,k2,fun k hk=>?_⟩
     rw[k3 k,if_neg]
     rintro⟨n1,n2,n3⟩
     exact hk ⟨_,List.mem_singleton_self _,rfl,l,hl,rfl,n1,.inr (by show k<l.off+o+vs.length;omega)⟩
    ·exact⟨c,by rw[q5 r hrb];exact hr,rfl,fun _ _=>rfl⟩
   ·by_cases hrb:r=l.blk
    ·subst hrb
     by_cases hvn:vs=[]
     ·have:vs'=[]:=by subst hvn;simp only[toVs] at hv;cases hv;rfl
      rw[this];exact hr
     ·obtain⟨_,c,fz,hc,_⟩:=hinfo hvn
      rw[hc] at hr;cases hr
      exact absurd rfl (hno _ _ _)
    ·rw[q5 r hrb];exact hr
   ·rcases put_look hb2 with ⟨rfl,hx⟩|⟨hne,hg⟩
    ·obtain⟨u,hu,rfl⟩:=look_cells_inv rfl hx
     rw[hget k2] at hu
     have hold:∃ u0,cs[k2]?=some u0:=by
      split at hu
      ·rename_i hin
       have hne:vs≠[]:=by rintro rfl;simp at hin;omega
       have:=hfit
       exact⟨_,List.getElem?_eq_getElem (by omega)⟩
      ·exact⟨u,hu⟩
     obtain⟨u0,hu0⟩:=hold
     obtain⟨l2,hl2,c,fz,hc,hr1,hr2,hr3,v0,hr4,hr5⟩:=hH.rel b2 k2 _ (look_cells hb hu0) hk2
     rw[hl] at hl2;cases hl2
     refine⟨l,hl,?_⟩
     obtain⟨c',k1,k2',k3⟩:=setCells_here l.blk vs' (l.off+o) w c e fz hc
     refine⟨c',fz,k1,by rw[hlen,k2'];exact hr1,by rw[k2'];exact hr2,by rw[k2'];exact hr3,?_⟩
     split at hu
     ·rename_i hin
      obtain⟨v',m1,m2⟩:=hvg _ _ hu
      refine⟨v',m1,?_⟩
      have hne:vs≠[]:=by rintro rfl;simp at hin;omega
      have:=hfit
      rw[k3,if_pos (by omega)]
      rw[show l.off+k2-(l.off+o)=k2-o by omega];exact m2
     ·rename_i hout
      rw[hu] at hu0;cases hu0
      exact⟨v0,hr4,by rw[k3,if_neg (by omega)];exact hr5⟩
    ·obtain⟨l2,hl2,hr⟩:=hH.rel b2 k2 x hg hk2
     refine⟨l2,hl2,?_⟩
     by_cases hvn:vs=[]
     ·have:vs'=[]:=by subst hvn;simp only[toVs] at hv;cases hv;rfl
      rw[this];exact hr
     obtain⟨⟨z,hz,hkz⟩,_⟩:=hinfo hvn
     have hnb:l2.blk≠l.blk:=fun e=>hne (hH.inj b2 k2 x b o z l2 l hg hk2 hz hkz hl2 hl e)
     cases x with
     | cell e2 n2 v2=>obtain⟨c,fz,hc,hcr⟩:=hr;exact⟨c,fz,by rw[q5 _ hnb];exact hc,hcr⟩
     | obj x=>obtain⟨h1,q,h2,h3⟩:=hr;exact⟨h1,q,by rw[q5 _ hnb];exact h2,h3⟩
   ·have hA:∀ b2 k y,look (s.put b o vs.length (some (.cells e cs'))).h.get b2 k=some y→∃ y',look s.h.get b2 k=some y':=fun b2 k y hy=>by
     rcases put_look hy with ⟨rfl,hx⟩|⟨_,hg⟩
     ·obtain⟨u,hu,rfl⟩:=look_cells_inv rfl hx
      have:k<cs.length:=by
       rw[← hlen]
       rcases Nat.lt_or_ge k cs'.length with q|q
       ·exact q
       ·rw[List.getElem?_eq_none q] at hu;cases hu
      exact⟨_,look_cells hb (List.getElem?_eq_getElem this)⟩
     ·exact⟨_,hg⟩
    obtain⟨x',hx'⟩:=hA _ _ _ h2
    obtain⟨y',hy'⟩:=hA _ _ _ h3
    exact hH.inj b2 k2 x' b3 k3 y' l2 l3 hx' n2 hy' n3 m2 m3 hll
  ·cases h
 ·cases h
theorem oRel.isObj {x:Blk} {o:Obj} (r:oRel L x o):x.isObj=true:=by
 cases x with
 | cells e l=>exact r.elim
 | map l c=>rfl
 | striter s p=>rfl
 | mapiter m s seen st=>rfl
theorem setObj_ok (hH:HRel K L (look s.h.get) w) {b:Nat} {x x':Blk} {l:Loc} {o o':Obj} (hb:s.h.get b=some x) (hl:L b=some l) (hk:K b 0) (ho:w.heap[l.blk]?=some o) (hr:oRel L x o) (hr':oRel L x' o') (hoff:l.off=0) :
  (setObj l.blk o').run P w=.ok () { w with heap:=w.heap.setIfInBounds l.blk o' }∧Step L s w [⟨true,b,0,1⟩] L (s.put b 0 1 (some x')) { w with heap:=w.heap.setIfInBounds l.blk o' } ∧
  HRel K L (look (s.put b 0 1 (some x')).h.get) { w with heap:=w.heap.setIfInBounds l.blk o' }:=by
 have hlt:=get_lt ho
 have hset:∀ r,r≠l.blk→(w.heap.setIfInBounds l.blk o')[r]?=w.heap[r]?:=fun r h=>Array.getElem?_setIfInBounds_ne (fun e=>h e.symm)
 have hrun:(setObj l.blk o').run P w=.ok () { w with heap:=w.heap.setIfInBounds l.blk o' }:=by
  simp only[setObj,Sem.run,ho]
  cases o<;>first|rfl|exact(oRel.notCells hr _ _ _ rfl).elim
 have hlk:=look_obj hb hr.isObj
 refine⟨hrun,⟨rfl,Nat.le_refl _,Map.le_refl L,fun _ _ h=>.inl h,fun b l h h'=>(by rw[h] at h';cases h'),by simp,rfl,rfl,rfl,fun r c e fz h=>?_,fun r q h hno hw=>?_⟩,⟨fun b2 k2 y hb2 hk2=>?_,fun b2 k2 y b3 k3 z l2 l3 h2 n2 h3 n3 m2 m3 hll=>?_,fun b2 l2 hl2=>by simpa using hH.old b2 l2 hl2⟩⟩
 ·by_cases hrb:r=l.blk
  ·subst hrb;rw[ho] at h;cases h;exact(oRel.notCells hr _ _ _ rfl).elim
  ·exact⟨c,by rw[hset r hrb];exact h,rfl,fun _ _=>rfl⟩
 ·by_cases hrb:r=l.blk
  ·exact absurd ⟨_,List.mem_singleton_self _,rfl,⟨rfl,.inr Nat.one_pos⟩,l,hl,hrb.symm⟩ hw
  ·rw[hset r hrb];exact h
 ·rcases put_look hb2 with ⟨rfl,hx⟩|⟨hne,hg⟩
  ·obtain⟨_,rfl⟩:=look_obj_inv rfl hr'.isObj hx
   exact⟨l,hl,hoff,o',by simp[hlt],hr'⟩
  ·obtain⟨l2,hl2,hq⟩:=hH.rel b2 k2 y hg hk2
   have hnb:l2.blk≠l.blk:=fun e=>hne (hH.inj b2 k2 y b 0 _ l2 l hg hk2 hlk hk hl2 hl e)
   refine⟨l2,hl2,?_⟩
   cases y with
   | cell e2 n2 v2=>obtain⟨c,fz,hc,hcr⟩:=hq;exact⟨c,fz,by rw[hset _ hnb];exact hc,hcr⟩
   | obj x=>obtain⟨h1,q,h2,h3⟩:=hq;exact⟨h1,q,by rw[hset _ hnb];exact h2,h3⟩
 ·have hA:∀ b2 k y,look (s.put b 0 1 (some x')).h.get b2 k=some y→∃ y',look s.h.get b2 k=some y':=fun b2 k y hy=>by
   rcases put_look hy with ⟨rfl,hx⟩|⟨_,hg⟩
   ·obtain⟨rfl,_⟩:=look_obj_inv rfl hr'.isObj hx
    exact⟨_,hlk⟩
   ·exact⟨_,hg⟩
  obtain⟨y',hy'⟩:=hA _ _ _ h2
  obtain⟨z',hz'⟩:=hA _ _ _ h3
  exact hH.inj b2 k2 y' b3 k3 z' l2 l3 hy' n2 hz' n3 m2 m3 hll
end Go.Ev

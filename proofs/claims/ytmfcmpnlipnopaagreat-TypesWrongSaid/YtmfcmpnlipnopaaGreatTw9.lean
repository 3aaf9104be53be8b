/- Parts of this proof, one behind the other: EvJ. -/
import Derived.Test.YtmfcmpnlipnopaaGreatTw8
import Derived.Deep.AppendSrc
set_option maxRecDepth 1000000
set_option maxHeartbeats 40000000
namespace Go.Ev
variable {P:Program} {K:Known} {L:Map} {s s':St} {w:World} {env:Env} {a:Act} {call:CallF}
def BOk (_:Program) (K:Known) (L:Map) (s:St) (w:World) (x:AV) (s':St) (r:Result Value):Prop :=
 ∃ d L' w' v',toV L' x=some v'∧Step L s w d L' s' w'∧HRel K L' (look s'.h.get) w'∧r=.ok v' w'
theorem BOk.pure {x:AV} {v':Value} {r:Result Value} (hH:HRel K L (look s.h.get) w) (hv:toV L x=some v') (hr:r=.ok v' w):BOk P K L s w x s r :=
 ⟨[],L,w,v',hv,Step.refl L s w,hH,hr⟩
theorem len_ok {ts:List TypeId} {x v:AV} {x':Value} {rt:TypeId} (h:evLen P s ts x=.ok v s') (hx:toV L x=some x') (hH:HRel K L (look s.h.get) w) (hC:Cov K s'.lg):BOk P K L s w v s' ((Builtin.len_ ⟨ts⟩ rt #[x']).run P w):=by
 unfold evLen at h
 split at h
 ·rename_i t ts'
  have ht:(⟨t::ts'⟩:Array TypeId)[0]?=some t:=by simp
  have hx0:(#[x']:Array Value)[0]?=some x':=rfl
  split at h
  ·rename_i l hu
   cases h
   obtain rfl:=toV_str hx
   refine BOk.pure hH rfl ?_
   simp only[Builtin.len_,ht,hx0,Sem.run_bind,run_underlying hu,Result.andThen_ok,Sem.run_pure,goInt,bytes_size]
   rfl
  ·rename_i e hu
   cases h
   cases hx
   refine BOk.pure hH rfl ?_
   simp only[Builtin.len_,ht,hx0,Sem.run_bind,run_underlying hu,Result.andThen_ok,Sem.run_pure,goInt]
   rfl
  ·rename_i b k n c e hu
   cases h
   obtain⟨_,_,rfl⟩:=toV_sl hx
   refine BOk.pure hH rfl ?_
   simp only[Builtin.len_,ht,hx0,Sem.run_bind,run_underlying hu,Result.andThen_ok,Sem.run_pure,goInt]
   rfl
  ·rename_i b k n c e hu
   cases h
   obtain⟨_,_,_,_,rfl⟩:=toV_su hx
   refine BOk.pure hH rfl ?_
   simp only[Builtin.len_,ht,hx0,Sem.run_bind,run_underlying hu,Result.andThen_ok,Sem.run_pure,goInt]
   rfl
  ·rename_i e g hu
   cases h
   cases hx
   refine BOk.pure hH rfl ?_
   simp only[Builtin.len_,ht,hx0,Sem.run_bind,run_underlying hu,Result.andThen_ok,Sem.run_pure,goInt]
   all_goals rfl
  ·rename_i e g m hu
   split at h
   ·rename_i l c hm
    cases h
    obtain⟨lc,hl,rfl⟩:=toV_map hx
    have hk:K m 0:=hC.get ⟨false,m,0,1⟩ (by simp[St.rd]) 0 (Nat.le_refl _) (by simp)
    obtain⟨l2,hl2,h1,ob,h2,h3⟩:=hH.rel m 0 _ (look_obj hm rfl) hk
    rw[hl] at hl2;cases hl2
    cases ob with
    | map es c' =>
     obtain⟨_,h4⟩:=h3
     have hlen:∀ {l:List AEntry} {r:List MapEntry},entsRel L l r→l.length=r.length:=fun {l}=>by
      induction l with
      | nil=>intro r hr;cases r with|nil=>rfl|cons _ _=>exact hr.elim
      | cons x l ih=>intro r hr;cases r with|nil=>exact hr.elim|cons _ _=>simp[ih hr.2]
     have:=hlen h4
     refine⟨_,L,w,.int .i64 (Int.ofNat l.length),rfl,Step.rd L s w m 0 1,hH,?_⟩
     have hg:(getObj lc.blk).run P w=.ok (Obj.map es c') w:=by simp[getObj,Sem.run,h2]
     simp only[Builtin.len_,ht,hx0,Sem.run_bind,run_underlying hu,Result.andThen_ok,hg,Sem.run_pure,goInt]
     rw[this];simp
    | _=>exact h3.elim
   ·cases h
  ·cases h
 ·cases h
theorem minsF_ok {L:Map} {k:IntKind}:∀ (l:List AV) (l':List Value) (n m:Int) (k2:IntKind),toVs L l=some l'→minsF k n l=some (k2,m)→(l'.foldlM Builtin.min2 (.int k n)).run P w=.ok (.int k2 m) w
 | [],l',n,m,k2,hl,h=>by simp only[toVs] at hl;cases hl;simp only[minsF] at h;cases h;rfl
 | x :: l,l',n,m,k2,hl,h=>by
  simp only[toVs] at hl
  cases hx:toV L x with
  | none=>rw[hx] at hl;cases hl
  | some x' =>
   cases hr:toVs L l with
   | none=>rw[hx,hr] at hl;cases hl
   | some r =>
    rw[hx,hr] at hl;cases hl
    cases x with
    | int k3 b =>
     simp only[minsF] at h
     rw[List.foldlM_cons]
     simp only[toV_int hx,Builtin.min2,Sem.run_bind,Sem.run_pure,Result.andThen_ok]
     exact minsF_ok l r _ m k2 hr h
    | _=>simp only[minsF] at h;cases h
theorem maxsF_ok {L:Map} {k:IntKind}:∀ (l:List AV) (l':List Value) (n m:Int) (k2:IntKind),toVs L l=some l'→maxsF k n l=some (k2,m)→(l'.foldlM Builtin.max2 (.int k n)).run P w=.ok (.int k2 m) w
 | [],l',n,m,k2,hl,h=>by simp only[toVs] at hl;cases hl;simp only[maxsF] at h;cases h;rfl
 | x :: l,l',n,m,k2,hl,h=>by
  simp only[toVs] at hl
  cases hx:toV L x with
  | none=>rw[hx] at hl;cases hl
  | some x' =>
   cases hr:toVs L l with
   | none=>rw[hx,hr] at hl;cases hl
   | some r =>
    rw[hx,hr] at hl;cases hl
    cases x with
    | int k3 b =>
     simp only[maxsF] at h
     rw[List.foldlM_cons]
     simp only[toV_int hx,Builtin.max2,Sem.run_bind,Sem.run_pure,Result.andThen_ok]
     exact maxsF_ok l r _ m k2 hr h
    | _=>simp only[maxsF] at h;cases h
theorem sliceCells_ok {x:AV} {x':Value} {z n:Nat} {r:List AV} {s1:St} (h:sliceCells s z n x=some (r,s1)) (hx:toV L x=some x') (hH:HRel K L (look s.h.get) w) (hC:Cov K s1.lg) :
  (s1=s∨∃ b o k,s1=s.rd b o k)∧∃ r',toVs L r=some r'∧(Builtin.firstCells z n x').run P w=.ok ⟨r'⟩ w:=by
 unfold sliceCells at h
 split at h
 ·cases h
  cases hx
  exact⟨.inl rfl,[],rfl,rfl⟩
 ·rename_i b o k c
  obtain⟨l,hl,rfl⟩:=toV_sl hx
  split at h
  ·rename_i e cs hb
   split at h
   ·rename_i q hq
    cases h
    have hk:∀ j,o≤j→j<o+n*z→K b j:=fun j h1 h2=>hC.get ⟨false,b,o,n*z⟩ (by simp[St.rd]) j h1 h2
    obtain⟨r',h1,_,h3⟩:=loadCells_ok (P:=P) hH hb hq hk hl
    exact⟨.inr ⟨_,_,_,rfl⟩,r',h1,by simpa [Builtin.firstCells] using h3⟩
   ·cases h
  ·cases h
 ·rename_i b o k c
  obtain⟨l,hl,_,_,rfl⟩:=toV_su hx
  split at h
  ·rename_i e cs hb
   split at h
   ·rename_i q hq
    cases h
    have hk:∀ j,o≤j→j<o+n*z→K b j:=fun j h1 h2=>hC.get ⟨false,b,o,n*z⟩ (by simp[St.rd]) j h1 h2
    obtain⟨r',h1,_,h3⟩:=loadCells_ok (P:=P) hH hb hq hk hl
    exact⟨.inr ⟨_,_,_,rfl⟩,r',h1,by simpa [Builtin.firstCells] using h3⟩
   ·cases h
  ·cases h
 ·rename_i l
  cases h
  rw[toV_str hx]
  refine⟨.inl rfl,(l.take n).map (fun b=>.int .u8 b.toNat),?_,?_⟩
  ·unfold byteCells
   induction (l.take n) with
   | nil=>rfl
   | cons c q ih=>simp only[List.map_cons,toVs,toV];rw[ih];rfl
  ·simp only[Builtin.firstCells,Sem.run_pure]
   congr 2
   have:(⟨⟨l⟩⟩:ByteArray).extract 0 n=⟨⟨l.take n⟩⟩:=by rw[bytes_extract];simp
   rw[this]
   simp
 ·cases h
theorem sliceLen_ok {x:AV} {x':Value} {n:Nat} (h:sliceLen x=some n) (hx:toV L x=some x'):(Builtin.lenOf x').run P w=.ok n w:=by
 unfold sliceLen at h
 split at h
 ·cases h;cases hx;rfl
 ·cases h;obtain⟨_,_,rfl⟩:=toV_sl hx;rfl
 ·cases h;obtain⟨_,_,_,_,rfl⟩:=toV_su hx;rfl
 ·cases h;rw[toV_str hx];rfl
 ·cases h
theorem nextCap_le (need old:Nat) (h:old<need):Builtin.nextslicecap need old≤2*need+4096:=by
 unfold Builtin.nextslicecap
 split
 ·omega
 ·split
  ·omega
  ·have g:∀ r c,c≤2*need+4096→Builtin.growBy need r c≤2*need+4096:=by
    intro r
    induction r with
    | zero=>intro c hc;exact hc
    | succ r ih =>
     intro c hc
     unfold Builtin.growBy
     split
     ·exact hc
     ·exact ih _ (by omega)
   exact g _ _ (by omega)
theorem rdStep {s1:St} (h:s1=s∨∃ b o k,s1=s.rd b o k):(∃ d,Step L s w d L s1 w)∧s1.h=s.h∧s1.n=s.n∧Mono s s1:=by
 rcases h with rfl|⟨b,o,k,rfl⟩
 ·exact⟨⟨[],Step.refl L _ w⟩,rfl,rfl,Mono.refl _⟩
 ·exact⟨⟨_,Step.rd L s w b o k⟩,rfl,rfl,Mono.rd s b o k⟩
theorem toVs_one {l:List AV} {r:List Value} (h:toVs L l=some r) (h1:l.all AV.one=true):∀ u∈r,u.oneCell'=true:=fun u hu=>by
 obtain⟨a1,a2⟩:=toVs_get h
 obtain⟨j,hj,rfl⟩:=List.getElem_of_mem hu
 have hj2:j<l.length:=by omega
 obtain⟨v',k1,k2⟩:=a2 j _ (List.getElem?_eq_getElem hj2)
 rw[List.getElem?_eq_getElem hj] at k2;cases k2
 exact oneOf k1 (List.all_eq_true.1 h1 _ (List.getElem_mem hj2))
theorem zeroCells_size (zc:Array Value) (n:Nat):(Builtin.zeroCells zc n).size=n*zc.size:=by simp[Builtin.zeroCells]
theorem drop_ok (hH:HRel K L (look s.h.get) w) (b:Nat):Step L s w [⟨true,b,0,big⟩] L (s.put b 0 big none) w∧HRel K L (look (s.put b 0 big none).h.get) w:=by
 have hA:∀ b2 k y,look (s.put b 0 big none).h.get b2 k=some y→look s.h.get b2 k=some y:=fun b2 k y hy=>by
  obtain⟨z,hz⟩:=look_some hy
  rcases Tr.get_set _ _ _ _ _ hz with ⟨rfl,h2⟩|⟨hne,h2⟩
  ·cases h2
  ·rw[← hy];exact look_congr (h2.trans hz.symm) k
 exact⟨⟨rfl,Nat.le_refl _,Map.le_refl L,fun _ _ h=>.inl h,fun b l h h'=>(by rw[h] at h';cases h'),Nat.le_refl _,rfl,rfl,rfl,fun r c e fz h=>⟨c,h,rfl,fun _ _=>rfl⟩,fun r o h _ _=>h⟩,
  ⟨fun b2 k y hy hk=>hH.rel b2 k y (hA b2 k y hy) hk,fun b2 k2 y b3 k3 z l2 l3 h2 n2 h3 n3 m2 m3 hll=>hH.inj b2 k2 y b3 k3 z l2 l3 (hA _ _ _ h2) n2 (hA _ _ _ h3) n3 m2 m3 hll,hH.old⟩⟩
theorem inPlace_ok {b o n m z:Nat} {e e0:TypeId} {cs old new:List AV} {l:Loc} (hH:HRel K L (look s.h.get) w) (hb:s.h.get b=some (.cells e0 cs)) (hl:L b=some l) (hk:∀ j,o≤j→j<o+n*z→K b j) (hn:L s.n=none)
  (hz:0<z) (hn0:0<n) (hc:cut cs o (n*z)=some old) (he:e=e0) (hlen:new.length=m*z) (hroom:n+m≤(l.cc-o) / z) (hone:new.all AV.one=true) {new':List Value} (hv:toVs L new=some new') :
  (storeCells (locAddr l (o+n*z)) new').run P w=.ok () (w.setCells l.blk (l.off+(o+n*z)) new') ∧
  Step L s w [⟨true,b,0,big⟩] (L.put s.n ⟨l.blk,l.off+o,l.cc-o⟩) ((s.put b 0 big none).new (.cells e (old++new))) (w.setCells l.blk (l.off+(o+n*z)) new') ∧
  HRel K (L.put s.n ⟨l.blk,l.off+o,l.cc-o⟩) (look ((s.put b 0 big none).new (.cells e (old++new))).h.get) (w.setCells l.blk (l.off+(o+n*z)) new'):=by
 subst he
 obtain⟨hol,hog⟩:=cut_spec hc
 obtain⟨hvl,hvg⟩:=toVs_get hv
 have hnz:0<n*z:=Nat.mul_pos hn0 hz
 have hfit:(n+m)*z≤l.cc-o:=by
  have:=Nat.mul_le_mul_right z hroom
  exact Nat.le_trans this (Nat.div_mul_le_self _ _)
 have hadd:(n+m)*z=n*z+m*z:=Nat.add_mul _ _ _
 have hlt:∀ j,j<n*z→∃ v,cs[o+j]?=some v∧old[j]?=some v:=fun j hj=>by
  have h1:=hog j
  rw[if_pos hj,List.getElem?_eq_getElem (by omega)] at h1
  exact⟨_,h1.symm,List.getElem?_eq_getElem (by omega)⟩
 obtain⟨v0,hv0,_⟩:=hlt 0 hnz
 have hkey:=look_cells hb hv0
 have hko:K b (o+0):=hk _ (by omega) (by omega)
 obtain⟨l1,hl1,c,fz,hc0,hs1,hs2,hfr,_⟩:=hH.rel b (o+0) _ hkey hko
 rw[hl] at hl1;cases hl1
 have hle:=Map.le_put L (⟨l.blk,l.off+o,l.cc-o⟩:Loc) hn
 obtain⟨q1,q2,q3,q4,q5⟩:=setCells_rest l.blk new' (l.off+(o+n*z)) w
 obtain⟨c',r1,r2,r3⟩:=setCells_here l.blk new' (l.off+(o+n*z)) w c e fz hc0
 have hN:∀ b2 k y,look ((s.put b 0 big none).new (.cells e (old++new))).h.get b2 k=some y→(b2=s.n∧look (fun _=>some (.cells e (old++new))) b2 k=some y)∨(b2≠s.n∧b2≠b∧look s.h.get b2 k=some y):=fun b2 k y hy=>by
  rcases new_look _ _ _ _ _ hy with ⟨h1,h2⟩|⟨h1,h2⟩
  ·exact .inl ⟨h1,by rw[h1];exact h1▸h2⟩
  ·obtain⟨x,hx⟩:=look_some h2
   rcases Tr.get_set _ _ _ _ _ hx with ⟨rfl,h3⟩|⟨h3,h4⟩
   ·cases h3
   ·exact .inr ⟨h1,h3,by rw[← h2];exact look_congr (h4.trans hx.symm) k⟩
 have hoth:∀ b2 k y l2,b2≠b→look s.h.get b2 k=some y→K b2 k→L b2=some l2→l2.blk≠l.blk:=fun b2 k y l2 hne hy hkk hl2 e=>hne (hH.inj b2 k y b (o+0) _ l2 l hy hkk hkey hko hl2 hl e)
 refine⟨?_,⟨rfl,Nat.le_succ _,hle,fun b2 l2 hl2=>?_,fun b2 l2 hl2 hb2=>?_,(by rw[q1];exact Nat.le_refl _),q2,q3,q4,fun r c2 e2 fz2 hr=>?_,fun r x hr hno hw=>?_⟩,⟨fun b2 k y hy hkk=>?_,fun b2 k y b3 k3 y3 l2 l3 hy hkk hy3 hk3 hl2 hl3 hll=>?_,fun b2 l2 hl2=>?_⟩⟩
 ·have:=run_storeCells_cells (P:=P) l.blk (l.off+(o+n*z)) new' 0 w (fun j hj=>by
    have:l.off+(o+n*z)+j<c.size:=by omega
    simp[World.cell?,hc0,this]) (fun j hj=>by
    have:=hfr (l.off+(o+n*z)+j) (by omega)
    simp[World.frozen?,hc0];omega) (toVs_one hv hone)
  simpa [locAddr] using this
 ·by_cases hbn:b2=s.n
  ·subst hbn;exact .inr ⟨hn,Nat.le_refl _,Nat.lt_succ_self _⟩
  ·rw[Map.put_ne L _ hbn] at hl2;exact .inl hl2
 ·by_cases hbn:b2=s.n
  ·subst hbn;rw[Map.put_same] at hl2;cases hl2
   exact .inr ⟨_,List.mem_singleton_self _,rfl,rfl,rfl,l,hl,rfl,by simp⟩
  ·rw[Map.put_ne L _ hbn] at hl2;rw[hb2] at hl2;cases hl2
 ·by_cases hrb:r=l.blk
  ·subst hrb
   rw[hc0] at hr;cases hr
   refine⟨c',r1,r2,fun k hkw=>?_⟩
   rw[r3,if_neg]
   rintro⟨h1,h2,h3⟩
   exact hkw ⟨_,List.mem_singleton_self _,rfl,l,hl,rfl,by show l.off+0≤k;omega,.inl rfl⟩
  ·exact⟨c2,by rw[q5 r hrb];exact hr,rfl,fun _ _=>rfl⟩
 ·by_cases hrb:r=l.blk
  ·exact absurd ⟨_,List.mem_singleton_self _,rfl,⟨rfl,.inl rfl⟩,l,hl,hrb.symm⟩ hw
  ·rw[q5 r hrb];exact hr
 ·rcases hN b2 k y hy with ⟨rfl,h2⟩|⟨hne,hneb,h2⟩
  ·refine⟨_,Map.put_same L _ _,?_⟩
   obtain⟨v,hvk,rfl⟩:=look_cells_inv rfl h2
   have hklt:k<(old++new).length:=by
    rcases Nat.lt_or_ge k (old++new).length with q|q
    ·exact q
    ·rw[List.getElem?_eq_none q] at hvk;cases hvk
   have hlen2:(old++new).length=n*z+m*z:=by rw[List.length_append,hol,hlen]
   refine⟨c',fz,r1,by show l.off+o+(old++new).length≤c'.size;omega,by show l.off+o+(l.cc-o)≤c'.size;omega,by rw[r2];exact hfr,?_⟩
   by_cases hkn:k<n*z
   ·rw[List.getElem?_append_left (by omega)] at hvk
    obtain⟨u,hu1,hu2⟩:=hlt k hkn
    rw[hu2] at hvk;cases hvk
    obtain⟨l2,hl2,c2,fz2,hc2,_,_,_,v',hv1,hv2⟩:=hH.rel b (o+k) _ (look_cells hb hu1) (hk _ (by omega) (by omega))
    rw[hl] at hl2;cases hl2
    rw[hc0] at hc2;cases hc2
    refine⟨v',toV_mono hle _ _ hv1,?_⟩
    show c'[l.off+o+k]?=some v'
    rw[r3,if_neg (by omega),Nat.add_assoc];exact hv2
   ·rw[List.getElem?_append_right (by omega)] at hvk
    obtain⟨v',hv1,hv2⟩:=hvg _ _ hvk
    refine⟨v',toV_mono hle _ _ hv1,?_⟩
    show c'[l.off+o+k]?=some v'
    rw[r3,if_pos (by omega)]
    rw[show l.off+o+k-(l.off+(o+n*z))=k-old.length by omega];exact hv2
  ·obtain⟨l2,hl2,hr⟩:=hH.rel b2 k y h2 hkk
   have hnb:=hoth b2 k y l2 hneb h2 hkk hl2
   refine⟨l2,by rw[Map.put_ne L _ hne];exact hl2,?_⟩
   have hr:=hr.mono hle
   cases y with
   | cell e2 n2 v2=>obtain⟨c2,fz2,h1,h3⟩:=hr;exact⟨c2,fz2,by rw[q5 _ hnb];exact h1,h3⟩
   | obj x=>obtain⟨h1,q,h3,h4⟩:=hr;exact⟨h1,q,by rw[q5 _ hnb];exact h3,h4⟩
 ·rcases hN b2 k y hy with ⟨h1,_⟩|⟨hne,hneb,h2⟩<;>rcases hN b3 k3 y3 hy3 with ⟨h3,_⟩|⟨hne3,hneb3,h4⟩
  ·rw[h1,h3]
  ·exfalso
   subst h1
   rw[Map.put_same] at hl2;cases hl2
   rw[Map.put_ne L _ hne3] at hl3
   exact hoth b3 k3 y3 l3 hneb3 h4 hk3 hl3 hll.symm
  ·exfalso
   subst h3
   rw[Map.put_same] at hl3;cases hl3
   rw[Map.put_ne L _ hne] at hl2
   exact hoth b2 k y l2 hneb h2 hkk hl2 hll
  ·rw[Map.put_ne L _ hne] at hl2
   rw[Map.put_ne L _ hne3] at hl3
   exact hH.inj b2 k y b3 k3 y3 l2 l3 h2 hkk h4 hk3 hl2 hl3 hll
 ·rw[q1]
  by_cases hbn:b2=s.n
  ·subst hbn;rw[Map.put_same] at hl2;cases hl2;exact hH.old b l hl
  ·rw[Map.put_ne L _ hbn] at hl2;exact hH.old _ _ hl2
theorem grownCap_ge (w:World) (need old:Nat) (e:TypeId):need≤grownCap w need old e:=by
 simp only[grownCap,Question.cut];omega
theorem grownCap_le (w:World) (need old:Nat) (e:TypeId) (h:need≤1048576):grownCap w need old e≤9223372036854775807:=by
 simp only[grownCap,Question.cut]
 have h63:(2:Nat) ^ 63=9223372036854775808:=by decide
 rw[h63]
 have:=Nat.mod_lt (w.tape w.drawn (.appendCap need old e)) (by omega:0<9223372036854775808-need)
 omega
theorem grow_ok {st xt rt e:TypeId} {i:TypeInfo} {zv:Value} {zc:List Value} {n m cp:Nat} (hu:P.underlying st=some (.slice e)) (hi:P.info? e=some i) (hiz:i.zero=some zv) (hzc:zv.cells=⟨zc⟩) (hzl:zc.length=i.size) (hz0:0<i.size) (hby:i.bytes≤1048576)
  {old new:List AV} {old' new':List Value} {A:Option Addr} {y':Value} (hH:HRel K L (look s.h.get) w) (hn:L s.n=none) (ho:toVs L old=some old') (hv:toVs L new=some new') (hol:old'.length=n*i.size) (hnm:n+m≤1048576) (hcp:cp<n+m)
  (hold:(Builtin.firstCells i.size n (.slice A n cp)).run P w.drew=.ok old'.toArray w.drew) (hs:Src P i.size xt y' m new' w) :
  BOk P K L s w (.su s.n 0 (n+m) i.size) (s.new (.cells e (old++new))) ((Builtin.append_ #[st,xt] rt #[.slice A n cp,y']).run P w):=by
 have hcap:=nextCap_le (n+m) cp hcp
 have hprod:Builtin.nextslicecap (n+m) cp*i.bytes≤281474976710656:=Nat.le_trans (Nat.mul_le_mul (Nat.le_trans hcap (by omega:2*(n+m)+4096≤4194304)) hby) (by decide)
 have hrun:=run_append_grow_src (P:=P) w st xt rt e i zv hu hi hiz A n cp old' hold y' m new' hs hcp (by omega) hprod
 have hge:=grownCap_ge w (n+m) cp e
 have hle63:=grownCap_le w (n+m) cp e hnm
 generalize grownCap w (n+m) cp e=nc at hrun hge hle63
 have hsz:((old'++new').toArray++Builtin.zeroCells zv.cells (nc-(n+m))).size=nc*i.size:=by
  rw[Array.size_append,zeroCells_size,hzc]
  simp only[List.size_toArray,List.length_append,hol,hs.newsLen,hzl]
  rw[← Nat.add_mul,← Nat.add_mul];congr 1;omega
 obtain⟨q1,q2,q3⟩:=newRow_ok (P:=P) (e:=e) (hH.drew (w.drawn+1)) hn (toVs_app ho hv) ((old'++new').toArray++Builtin.zeroCells zv.cells (nc-(n+m))) (fun j v hj=>by
   have hlt:j<(old'++new').length:=by
    rcases Nat.lt_or_ge j (old'++new').length with q|q
    ·exact q
    ·rw[List.getElem?_eq_none q] at hj;cases hj
   rw[Array.getElem?_append_left (by simpa using hlt)]
   simpa using hj) (by simp) (nc*i.size) (by omega)
 have hmul:(n+m)*i.size≤nc*i.size:=Nat.mul_le_mul_right _ hge
 refine⟨_,_,_,.slice (some ⟨w.heap.size,0,none⟩) (n+m) nc,?_,Step.ofDrew _ q2,q3,hrun⟩
 simp only[toV]
 rw[Map.put_same]
 simp only[]
 rw[if_pos ⟨hz0,by omega,by simp only[Nat.sub_zero,Nat.mul_div_cancel _ hz0];exact hle63⟩]
 simp only[locAddr,Nat.sub_zero,Nat.mul_div_cancel _ hz0]
theorem append_ok {ts:List TypeId} {x y v:AV} {x' y':Value} {rt:TypeId} (h:evAppend P s ts x y=.ok v s') (hx:toV L x=some x') (hy:toV L y=some y') (c:Cx K L s w env a s'):BOk P K L s w v s' ((Builtin.append_ ⟨ts⟩ rt #[x',y']).run P w):=by
  unfold evAppend at h
  split at h
  case h_2=>cases h
  rename_i st xt
  split at h
  case h_2=>cases h
  rename_i e z n m d ht hxl hyl hd
  split at h
  case h_2=>cases h
  rename_i new s1 hkd hnm hnew
  have hnm':=Nat.le_of_ble_eq_true hnm
  obtain⟨hu,hz0,i,zv0,hi,hiz,hzz,hzl,hby⟩:=tel_spec ht
  obtain⟨zv,hzv,hzr,i',hi',hiz'⟩:=tzero_spec hzz
  rw[hi] at hi';cases hi'
  obtain⟨zc,hzc,hzcv⟩:=toV_cells (hzv L)
  have hzlen:=(toVs_get hzc).1
  have hkind:(∃ e',P.underlying xt=some (.slice e'))∨P.underlying xt=some .string:=by
    have hd':P.underlying xt=some d:=hd
    cases d with
    | slice e'=>exact .inl ⟨e',hd'⟩
    | string=>exact .inr hd'
    | _=>cases hkd
  split at h
  case h_4=>cases h
  all_goals (rename_i hone hnl)
  -- what the three have in common
  all_goals
    have hnl':=Nat.eq_of_beq_eq_true hnl
  · -- a slice whose room is known
    rename_i b o n2 cp
    have hn2:n2=n:=by simp only[sliceLen] at hxl;exact Option.some.inj hxl
    subst hn2
    obtain⟨l,hl,rfl⟩:=toV_sl hx
    split at h
    · rename_i hfit
      have hfit':=Nat.le_of_ble_eq_true hfit
      have hm2:Mono s1 s':=by
        unfold storeC at h
        split at h
        · rename_i hb
          split at h
          · rename_i hov;cases h;exact Mono.store hb hov
          · cases h
        · cases h
      have hC1:Cov K s1.lg:=by obtain⟨d,hd⟩:=Mono.lg hm2;have:=c.cov;rw[hd] at this;exact this.app
      obtain⟨hs1,new',hv,hrun⟩:=sliceCells_ok (P:=P) hnew hy c.heap hC1
      obtain⟨⟨d1,hst1⟩,hh,hn1,hm1⟩:=rdStep (L:=L) (w:=w) hs1
      have hH1:HRel K L (look s1.h.get) w:=by rw[hh];exact c.heap
      obtain⟨rfl,d2,w',hst,hstep,hH2⟩:=store_ok (P:=P) hH1 h c.cov hl hv
      refine⟨_,L,w',.slice (some (locAddr l o)) (n2+m) cp,by simp only[toV];rw[hl],hst1.trans hstep,hH2,?_⟩
      have hlen2:=sliceLen_ok (P:=P) (w:=w) hyl hy
      have hadd:(locAddr l o).add (n2*i.size)=locAddr l (o+n2*i.size):=addr_add l o _
      rw[← hiz] at hst hrun
      rcases hkind with ⟨e',hk⟩|hk<;>simp[Builtin.append_,run_underlying hu,run_underlying hk,sizeOf,typeInfo,hi,hlen2,hfit',hrun,hadd,hst]
    · rename_i hfit
      have hlt:cp<n2+m:=by
        rcases Nat.lt_or_ge cp (n2+m) with q|q
        · exact q
        · rw[Nat.ble_eq_true_of_le q] at hfit;cases hfit
      split at h
      · rename_i old s2 hold
        cases h
        have hC2:Cov K s2.lg:=c.cov
        obtain⟨hs2,old',hov,_⟩:=sliceCells_ok (P:=P) (s:=s1) (w:=w) hold hx (by
          have:s1.h=s.h:=by
            unfold sliceCells at hnew
            split at hnew<;>first|(cases hnew;rfl)|(split at hnew<;>first|(split at hnew<;>first|(cases hnew;rfl)|cases hnew)|cases hnew)|cases hnew
          rw[this];exact c.heap) hC2
        obtain⟨⟨d2,hst2⟩,hh2,hn2',hm2⟩:=rdStep (L:=L) (w:=w) hs2
        have hC1:Cov K s1.lg:=by obtain⟨d,hd⟩:=Mono.lg hm2;rw[hd] at hC2;exact hC2.app
        obtain⟨hs1,new',hv,hrun⟩:=sliceCells_ok (P:=P) hnew hy c.heap hC1
        obtain⟨_,newD,hvD,hrunD⟩:=sliceCells_ok (P:=P) hnew hy (c.heap.drew (w.drawn+1)) hC1
        rw[hv] at hvD;cases hvD
        obtain⟨⟨d1,hst1⟩,hh1,hn1,hm1⟩:=rdStep (L:=L) (w:=w) hs1
        have hH2:HRel K L (look s2.h.get) w:=by rw[hh2,hh1];exact c.heap
        obtain⟨_,oldD,hovD,holdD⟩:=sliceCells_ok (P:=P) (s:=s1) hold hx (by rw[hh1];exact c.heap.drew (w.drawn+1)) hC2
        rw[hov] at hovD;cases hovD
        have hlenO:old'.length=n2*z:=by
          unfold sliceCells at hold
          simp only[] at hold
          split at hold
          · split at hold
            · rename_i q hq;cases hold;rw[← (toVs_get hov).1];exact(cut_spec hq).1
            · cases hold
          · cases hold
        subst hiz
        obtain⟨d3,L',w',v',g1,g2,g3,g4⟩:=grow_ok (P:=P) (rt:=rt) hu hi hiz' hzcv (by omega) hz0 hby hH2 (by rw[hn2',hn1];exact c.fresh s.n (Nat.le_refl _) (by show s.n<Nat.succ s2.n;omega)) hov hv hlenO hnm' hlt holdD
          ⟨hkind,fun w'=>sliceLen_ok hyl hy,hrun,hrunD,by rw[← (toVs_get hv).1];exact hnl',toVs_one hv hone⟩
        exact⟨_,L',w',v',g1,(hst1.trans hst2).trans g2,g3,g4⟩
      · cases h
  · -- nil
    have hn0:n=0:=by simp only[sliceLen] at hxl;exact(Option.some.inj hxl).symm
    subst hn0
    have hxe:x'=.slice none 0 0:=by simp only[toV] at hx;exact(Option.some.inj hx).symm
    subst hxe
    split at h
    · cases h
      obtain⟨hs1,new',hv,hrun⟩:=sliceCells_ok (P:=P) hnew hy c.heap c.cov
      obtain⟨⟨d1,hst1⟩,hh1,hn1,hm1⟩:=rdStep (L:=L) (w:=w) hs1
      have hlen2:=sliceLen_ok (P:=P) (w:=w) hyl hy
      refine⟨d1,L,w,.slice none 0 0,rfl,hst1,by rw[hh1];exact c.heap,?_⟩
      rw[← hiz] at hrun
      rcases hkind with ⟨e',hk⟩|hk<;>simp[Builtin.append_,run_underlying hu,run_underlying hk,sizeOf,typeInfo,hi,hlen2,hrun]
    · rename_i hm0
      cases h
      have hmp:0<m:=by
        rcases Nat.eq_zero_or_pos m with q|q
        · exact absurd q (by intro e;exact hm0 e)
        · exact q
      obtain⟨hs1,new',hv,hrun⟩:=sliceCells_ok (P:=P) hnew hy c.heap c.cov
      obtain⟨_,newD,hvD,hrunD⟩:=sliceCells_ok (P:=P) hnew hy (c.heap.drew (w.drawn+1)) c.cov
      rw[hv] at hvD;cases hvD
      obtain⟨⟨d1,hst1⟩,hh1,hn1,hm1⟩:=rdStep (L:=L) (w:=w) hs1
      have hH1:HRel K L (look s1.h.get) w:=by rw[hh1];exact c.heap
      subst hiz
      obtain⟨d3,L',w',v',g1,g2,g3,g4⟩:=grow_ok (P:=P) (rt:=rt) (n:=0) (old:=[]) (old':=[]) (A:=none) (cp:=0) hu hi hiz' hzcv (by omega) hz0 hby hH1 (by rw[hn1];exact c.fresh s.n (Nat.le_refl _) (by show s.n<Nat.succ s1.n;omega)) rfl hv (by simp) hnm' (by omega) rfl
          ⟨hkind,fun w'=>sliceLen_ok hyl hy,hrun,hrunD,by rw[← (toVs_get hv).1];exact hnl',toVs_one hv hone⟩
      exact⟨_,L',w',v',g1,hst1.trans g2,g3,g4⟩
  · -- a slice whose room is not known
    rename_i b o n2 y
    have hn2:n2=n:=by simp only[sliceLen] at hxl;exact Option.some.inj hxl
    subst hn2
    obtain⟨l,hl,hy0,hroom0,rfl⟩:=toV_su hx
    split at h
    · cases h
      obtain⟨hs1,new',hv,hrun⟩:=sliceCells_ok (P:=P) hnew hy c.heap c.cov
      obtain⟨⟨d1,hst1⟩,hh1,hn1,hm1⟩:=rdStep (L:=L) (w:=w) hs1
      have hlen2:=sliceLen_ok (P:=P) (w:=w) hyl hy
      have hnil:new'=[]:=by
        have:=(toVs_get hv).1
        have:new'.length=0:=by omega
        exact List.length_eq_zero_iff.1 this
      subst hnil
      have hcap:n2≤(l.cc-o) / y:=by rw[Nat.le_div_iff_mul_le hy0];omega
      refine⟨d1,L,w,.slice (some (locAddr l o)) n2 ((l.cc-o) / y),hx,hst1,by rw[hh1];exact c.heap,?_⟩
      rw[← hiz] at hrun
      rcases hkind with ⟨e',hk⟩|hk<;>simp[Builtin.append_,run_underlying hu,run_underlying hk,sizeOf,typeInfo,hi,hlen2,hrun,hcap,storeCells]
    · rename_i hm0
      have hmp:0<m:=by
        rcases Nat.eq_zero_or_pos m with q|q
        · exact absurd q (by intro e;exact hm0 e)
        · exact q
      split at h
      · rename_i old s2 hyz hel hold
        cases h
        rw[Bool.and_eq_true] at hyz
        have hyz':=Nat.eq_of_beq_eq_true hyz.1
        have hn0:=blt_lt hyz.2
        subst hyz'
        have hC2':Cov K (s2.put b 0 big none).lg:=c.cov
        have hC2:Cov K s2.lg:=hC2'.tail
        have hs1h:s1.h=s.h:=by
          unfold sliceCells at hnew
          split at hnew<;>first|(cases hnew;rfl)|(split at hnew<;>first|(split at hnew<;>first|(cases hnew;rfl)|cases hnew)|cases hnew)|cases hnew
        obtain⟨hs2,old',hov,_⟩:=sliceCells_ok (P:=P) (s:=s1) (w:=w) hold hx (by rw[hs1h];exact c.heap) hC2
        obtain⟨⟨d2,hst2⟩,hh2,hn2',hm2⟩:=rdStep (L:=L) (w:=w) hs2
        have hC1:Cov K s1.lg:=by obtain⟨d,hd⟩:=Mono.lg hm2;rw[hd] at hC2;exact hC2.app
        obtain⟨hs1,new',hv,hrun⟩:=sliceCells_ok (P:=P) hnew hy c.heap hC1
        obtain⟨_,newD,hvD,hrunD⟩:=sliceCells_ok (P:=P) hnew hy (c.heap.drew (w.drawn+1)) hC1
        rw[hv] at hvD;cases hvD
        obtain⟨⟨d1,hst1⟩,hh1,hn1,hm1⟩:=rdStep (L:=L) (w:=w) hs1
        have hH2:HRel K L (look s2.h.get) w:=by rw[hh2,hh1];exact c.heap
        obtain⟨_,oldD,hovD,holdD⟩:=sliceCells_ok (P:=P) (s:=s1) hold hx (by rw[hh1];exact c.heap.drew (w.drawn+1)) hC2
        rw[hov] at hovD;cases hovD
        have hcutO:∃ cs,s1.h.get b=some (.cells e cs)∧cut cs o (n2*y)=some old∧s2=s1.rd b o (n2*y):=by
          unfold sliceCells at hold
          simp only[] at hold
          unfold elemIs at hel
          split at hold
          · rename_i e0 cs hb
            rw[hb] at hel
            have:=Nat.eq_of_beq_eq_true hel
            subst this
            split at hold
            · rename_i q hq;cases hold;exact⟨cs,hb,hq,rfl⟩
            · cases hold
          · cases hold
        obtain⟨cs,hbs,hcut,hs2e⟩:=hcutO
        have hlenO:old'.length=n2*y:=by rw[← (toVs_get hov).1];exact(cut_spec hcut).1
        have hfr:L s2.n=none:=by rw[hn2',hn1];exact c.fresh s.n (Nat.le_refl _) (by show s.n<Nat.succ s2.n;omega)
        by_cases hfit:n2+m≤(l.cc-o) / y
        · obtain⟨g1,g2,g3⟩:=inPlace_ok (P:=P) (m:=m) (e:=e) (new:=new) hH2 (by rw[hh2];exact hbs) hl (fun j h1 h2=>hC2.get ⟨false,b,o,n2*y⟩ (by rw[hs2e];simp[St.rd]) j h1 h2) hfr hy0 hn0 hcut rfl hnl' hfit hone hv
          refine⟨_,_,_,.slice (some (locAddr l o)) (n2+m) ((l.cc-o) / y),?_,(hst1.trans hst2).trans g2,g3,?_⟩
          · simp only[toV]
            rw[Map.put_same]
            simp only[]
            have hfit2:(n2+m)*y≤l.cc-o:=Nat.le_trans (Nat.mul_le_mul_right y hfit) (Nat.div_mul_le_self _ _)
            rw[if_pos ⟨hy0,by omega,by simpa using toV_su_cap hx hl⟩]
            simp only[locAddr,Nat.add_zero,Nat.sub_zero]
          · have hlen2:=sliceLen_ok (P:=P) (w:=w) hyl hy
            have hadd:(locAddr l o).add (n2*i.size)=locAddr l (o+n2*i.size):=addr_add l o _
            rw[← hiz] at g1 hrun ⊢
            rw[← hiz] at hfit
            rcases hkind with ⟨e',hk⟩|hk<;>simp[Builtin.append_,run_underlying hu,run_underlying hk,sizeOf,typeInfo,hi,hlen2,hfit,hrun,hadd,g1]
        · obtain⟨k1,k2⟩:=drop_ok hH2 b
          subst hiz
          obtain⟨d3,L',w',v',g1,g2,g3,g4⟩:=grow_ok (P:=P) (rt:=rt) (s:=s2.put b 0 big none) hu hi hiz' hzcv (by omega) hz0 hby k2 hfr hov hv hlenO hnm' (by omega) holdD
            ⟨hkind,fun w'=>sliceLen_ok hyl hy,hrun,hrunD,by rw[← (toVs_get hv).1];exact hnl',toVs_one hv hone⟩
          exact⟨_,L',w',v',g1,((hst1.trans hst2).trans k1).trans g2,g3,g4⟩
      · cases h
theorem modify_push {α:Type} (a:Array α) (x:α) (f:α→α):(a.push x).modify a.size f=a.push (f x):=by
 apply Array.ext_getElem?
 intro i
 rw[Array.getElem?_modify,Array.getElem?_push,Array.getElem?_push]
 by_cases h:a.size=i
 ·subst h;simp
 ·rw[if_neg h]
  by_cases h2:i=a.size
  ·exact absurd h2.symm h
  ·rw[if_neg h2,if_neg h2]
theorem strBytes_ok {e:TypeId} {l:List UInt8} (hlen:l.length≤1048576) (hH:HRel K L (look s.h.get) w) (hn:L s.n=none) :
  ∃ d L' w' v',toV L' (.su s.n 0 l.length 1)=some v'∧Step L s w d L' (s.new (.cells e (byteCells l))) w'∧HRel K L' (look (s.new (.cells e (byteCells l))).h.get) w'∧(Conv.stringToBytes e ⟨⟨l⟩⟩).run P w=.ok v' w':=by
 have hge:=grownCap_ge w l.length 0 e
 have hle63:=grownCap_le w l.length 0 e hlen
 have hcap:(choose (.appendCap l.length 0 e)).run P w=.ok (grownCap w l.length 0 e) { w with drawn:=w.drawn+1 }:=by
  rw[run_choose];simp[Question.forced,grownCap]
 generalize grownCap w l.length 0 e=nc at hge hcap hle63
 let arr:Array Value:=(l.map fun b=>Value.int .u8 b.toNat).toArray++Array.replicate (nc-l.length) (.int .u8 0)
 have harr:arr.size=nc:=by simp[arr];omega
 have hx:∀ k y,look (fun _=>some (.cells e (byteCells l))) s.n k=some y→kRel (L.put s.n ⟨w.heap.size,0,nc⟩) k y ⟨w.heap.size,0,nc⟩ { w with drawn:=w.drawn+1,heap:=w.heap.push (Obj.cells arr e (nc,nc+1)) }:=fun k y hy=>by
  obtain⟨v,hv,rfl⟩:=look_cells_inv rfl hy
  have hlb:(byteCells l).length=l.length:=by simp[byteCells]
  refine⟨arr,(nc,nc+1),by simp,by rw[harr,hlb];simp;omega,by rw[harr];simp,fun j hj=>by rw[harr] at hj;simp;omega,?_⟩
  unfold byteCells at hv
  rw[List.getElem?_map] at hv
  obtain⟨c,hc,rfl⟩:=Option.map_eq_some_iff.1 hv
  refine⟨.int .u8 c.toNat,rfl,?_⟩
  have hlt:k<l.length:=by
   rcases Nat.lt_or_ge k l.length with q|q
   ·exact q
   ·rw[List.getElem?_eq_none q] at hc;cases hc
  simp only[arr,Nat.zero_add]
  rw[Array.getElem?_append_left (by simpa using hlt)]
  simp[hc]
 obtain⟨q1,q2⟩:=new_ok (hH.drew (w.drawn+1)) hn (.cells e (byteCells l)) (Obj.cells arr e (nc,nc+1)) nc hx
 refine⟨_,_,_,.slice (some ⟨w.heap.size,0,none⟩) l.length nc,?_,Step.ofDrew _ q1,q2,?_⟩
 ·simp only[toV];rw[Map.put_same];simp only[]
  rw[if_pos ⟨by omega,by omega,by simp only[Nat.sub_zero,Nat.div_one];exact hle63⟩]
  simp only[locAddr,Nat.sub_zero,Nat.div_one]
 ·have hel:((⟨⟨l⟩⟩:ByteArray).data.map fun b=>Value.int .u8 b.toNat)++Array.replicate (nc-(⟨⟨l⟩⟩:ByteArray).size) (.int .u8 0)=arr:=by
   simp[arr,bytes_size]
  simp only[Conv.stringToBytes,bytes_size,Sem.run_bind,hcap,Result.andThen_ok]
  rw[bytes_size] at hel
  simp only[hel,newRow,Sem.run_bind,run_newObj,Result.andThen_ok,Sem.run_pure,markStringish,run_shape,World.shape?]
  have hsh:(w.heap.push (Obj.cells arr e (0,0)))[w.heap.size]?=some (Obj.cells arr e (0,0)):=by simp
  simp only[hsh,run_freeze,World.freeze,harr,Nat.one_ne_zero,if_false]
  rw[modify_push]
  rfl
theorem convert_ok {p q:TypeId} {x:Operand} {v:AV} (o:Oper) (ho:o.op=.convert p q x) (h:eConvert p q x P call env s=.ok v s') (c:Cx K L s w env a s'):Ok K L s w v s' ((execOp a.eval o).run P w):=by
 unfold eConvert at h
 split at h
 ·rename_i u hx
  have hv:=opd_ok c.env hx
  unfold evConv at h
  split at h
  ·rename_i d1 d2 h1 h2
   split at h
   ·rename_i k k2 n
    cases h
    refine Ok.pure (v':=.int k (k.wrap n)) c.heap rfl ?_
    simp only[execOp,ho,toV_int hv,convert,Sem.run_bind,run_underlying h1,run_underlying h2,Result.andThen_ok,Conv.intToInt,Sem.run_pure]
   ·rename_i l
    cases h
    refine Ok.pure (v':=.string ⟨⟨l⟩⟩) c.heap rfl ?_
    simp only[execOp,ho,toV_str hv,convert,Sem.run_bind,run_underlying h1,run_underlying h2,Result.andThen_ok,Sem.run_pure]
   ·rename_i e l
    split at h
    ·rename_i he hsz hln
     cases h
     obtain⟨d2,L',w',v',k1,k2,k3,k4⟩:=strBytes_ok (P:=P) (e:=e) (l:=l) (Nat.le_of_ble_eq_true hln) c.heap c.here
     refine⟨d2,L',w',v',k1,k2,k3,.inl ?_⟩
     simp only[execOp,ho,toV_str hv,convert,Sem.run_bind,run_underlying h1,run_underlying h2,run_underlying he,Result.andThen_ok,k4,Sem.run_pure]
    ·cases h
   ·cases h
  ·cases h
 ·cases h
theorem builtin_ok {b:Builtin} {ts:List TypeId} {args:List AV} {args':List Value} {v:AV} {rt:TypeId} {cs:Array Bool} (h:evBuiltin P s b ts args=.ok v s') (ha:toVs L args=some args') (c:Cx K L s w env a s') :
  Ok K L s w v s' ((builtin b ⟨ts⟩ rt cs ⟨args'⟩).run P w):=by
 have fin:∀ {m:Sem Value},BOk P K L s w v s' (m.run P w)→Ok K L s w v s' ((do Pure.pure (Next.value (← m)):Sem Next).run P w):=fun {m} hb=>by
  obtain⟨d,L',w',v',h1,h2,h3,h4⟩:=hb
  exact⟨d,L',w',v',h1,h2,h3,.inl (by rw[Sem.run_bind,h4,Result.andThen_ok,Sem.run_pure])⟩
 have one:∀ {x:AV},toVs L [x]=some args'→∃ x',toV L x=some x'∧args'=[x']:=fun {x} hq=>by
  simp only[toVs] at hq
  cases hx:toV L x with
  | none=>rw[hx] at hq;cases hq
  | some x'=>rw[hx] at hq;cases hq;exact⟨x',rfl,rfl⟩
 have two:∀ {x y:AV},toVs L [x,y]=some args'→∃ x' y',toV L x=some x'∧toV L y=some y'∧args'=[x',y']:=fun {x y} hq=>by
  simp only[toVs] at hq
  cases hx:toV L x with
  | none=>rw[hx] at hq;cases hq
  | some x' =>
   cases hy:toV L y with
   | none=>rw[hx,hy] at hq;cases hq
   | some y'=>rw[hx,hy] at hq;cases hq;exact⟨x',y',rfl,rfl,rfl⟩
 unfold evBuiltin at h
 split at h
 ·split at h
  ·obtain⟨x',hx,rfl⟩:=one ha
   exact fin (len_ok h hx c.heap c.cov)
  ·cases h
 ·split at h
  ·rename_i k n hm
   cases h
   unfold mins at hm
   split at hm
   ·rename_i k0 n0 l
    simp only[toVs,toV] at ha
    cases hl:toVs L l with
    | none=>rw[hl] at ha;cases ha
    | some l' =>
     rw[hl] at ha;cases ha
     refine fin ⟨[],L,w,.int k n,rfl,Step.refl L s w,c.heap,?_⟩
     exact minsF_ok l l' n0 n k hl hm
   ·cases hm
  ·cases h
 ·split at h
  ·rename_i k n hm
   cases h
   unfold maxs at hm
   split at hm
   ·rename_i k0 n0 l
    simp only[toVs,toV] at ha
    cases hl:toVs L l with
    | none=>rw[hl] at ha;cases ha
    | some l' =>
     rw[hl] at ha;cases ha
     refine fin ⟨[],L,w,.int k n,rfl,Step.refl L s w,c.heap,?_⟩
     exact maxsF_ok l l' n0 n k hl hm
   ·cases hm
  ·cases h
 ·split at h
  ·obtain⟨x',y',hx,hy,rfl⟩:=two ha
   exact fin (append_ok h hx hy c)
  ·cases h
 ·cases h
end Go.Ev

/- Parts of this proof, one behind the other: EvO, EvQ. -/
import Derived.Test.YtmfcmpnlipnopaaGreatTw13
import Derived.Below
set_option maxRecDepth 1000000
set_option maxHeartbeats 40000000
namespace Go.Ev
variable {P:Program} {call:CallF} {ops:Array Oper}
theorem apart_spec (h:apartAll ops=true) {i j:Nat} {x y:Oper} (hij:i<j) (hx:ops[i]?=some x) (hy:ops[j]?=some y) (hn:¬ Ahead ops j i):x.apart ops y=true:=by
 have hj:j<ops.size:=by
  rcases Nat.lt_or_ge j ops.size with q|q
  ·exact q
  ·rw[Array.getElem?_eq_none q] at hy;cases hy
 have h1:=List.all_eq_true.1 h j (List.mem_range.2 hj)
 rw[Bool.and_eq_true] at h1
 have h2:=List.all_eq_true.1 h1.1 i (List.mem_range.2 hij)
 unfold pairOk at h2
 rw[hx,hy] at h2
 simp only[Bool.or_eq_true] at h2
 exact h2.resolve_left hn
theorem edge_lt (h:apartAll ops=true) {j:Nat} {o:Oper} (ho:ops[j]?=some o) {e:Edge} (he:e∈o.after.toList) (hb:Region.binds .any e=true):e.on<j:=by
 have hj:j<ops.size:=by
  rcases Nat.lt_or_ge j ops.size with q|q
  ·exact q
  ·rw[Array.getElem?_eq_none q] at ho;cases ho
 have h1:=List.all_eq_true.1 h j (List.mem_range.2 hj)
 rw[Bool.and_eq_true] at h1
 have h2:=h1.2
 rw[ho] at h2
 have h3:=List.all_eq_true.1 h2 e he
 rw[hb] at h3
 exact blt_lt (by simpa using h3)
theorem renv_get {env:Env} (l:List Tmp) (t:Tmp) (x:AV) (h:renv env l t=some x):t∈l∧env t=some x:=by
 unfold renv at h
 split at h
 ·rename_i hb
  obtain⟨u,hu,he⟩:=List.any_eq_true.1 hb
  have:=Nat.eq_of_beq_eq_true he
  subst this
  exact⟨hu,h⟩
 ·cases h
theorem freshAll_spec {h:Tr Blk} {lo:Nat}:∀ (k:Nat),freshAll h lo k=true→∀ b,lo≤b→b<lo+k→h.get b=none
 | 0,_,b,h1,h2=>by omega
 | k+1,hf,b,h1,h2=>by
  simp only[freshAll,Bool.and_eq_true] at hf
  rcases Nat.lt_or_ge b (lo+k) with q|q
  ·exact freshAll_spec k hf.2 b h1 q
  ·have:b=lo+k:=by omega
   subst this
   have h3:=hf.1
   split at h3
   ·assumption
   ·cases h3
section
variable {H:Nat→Tr Blk} {N:Nat→Nat} {D:Nat→List Acc} {V:Nat→AV} {E:Nat→Env} {m:Nat}
structure Inv (K:Known) (L:Map) (w:World) (a:Act) (ops:Array Oper) (m:Nat) (E0:Env) (H:Nat→Tr Blk) (N:Nat→Nat) (V:Nat→AV) (D:Nat→List Acc) (Dn:Nat→Bool) (L':Map) (d:List Acc) (a':Act) (w':World):Prop where
 core:Core L w d L' w'
 mem:∀ x,x∈d→∃ j,j<m∧Dn j=true∧x∈D j
 dom:∀ b l,L' b=some l→L b=some l∨(L b=none∧∃ j,j<m∧Dn j=true∧N j≤b∧b<N (j+1))
 heap:HRel K L' (lkAt H N D Dn m) w'
 env:∀ t x,envAt E0 ops V Dn m t=some x→∃ v,a'.tmps[t]?=some v∧toV L' x=some v
 size:a'.tmps.size=a.tmps.size
 defers:a'.defers=a.defers
theorem N_mono (tr:Trace P call ops m E H N V D 0) (hc:CallOk P call) (hm:m=ops.size):∀ i j,i≤j→j≤m→N i≤N j:=by
  have one:∀ k,k<m→N k≤N (k+1):=fun k hk=>by
    have ho:ops[k]?=some ops[k]:=Array.getElem?_eq_getElem (by omega)
    obtain⟨m1,_⟩:=evOper_ok oper_ok hc (tr.op k _ (Nat.zero_le _) ho)
    exact m1.n
  intro i j hij hj
  induction j with
  | zero => have:i=0:=by omega
            subst this;exact Nat.le_refl _
  | succ j ih =>
    rcases Nat.lt_or_ge i (j+1) with q|q
    · exact Nat.le_trans (ih (by omega) (by omega)) (one j (by omega))
    · have:i=j+1:=by omega
      subst this;exact Nat.le_refl _
theorem canon_look (tr:Trace P call ops m E H N V D 0) (hc:CallOk P call) (hm:m=ops.size) (b c:Nat):∀ k,k≤m→lkAt H N D (fun _=>true) k b c=look (H k).get b c
 | 0,_=>rfl
 | k + 1,hk=>by
  simp only[lkAt]
  by_cases hw:Wk N D k b c
  ·rw[if_pos ⟨rfl,hw⟩]
  ·rw[if_neg (fun q=>hw q.2),canon_look tr hc hm b c k (by omega)]
   have ho:ops[k]?=some ops[k]:=Array.getElem?_eq_getElem (by omega)
   obtain⟨m1,_⟩:=evOper_ok oper_ok hc (tr.op k _ (Nat.zero_le _) ho)
   obtain⟨_,d,h2,h3,_⟩:=m1
   have hd:D k=d:=by simpa using h2
   subst hd
   refine(h3 b c (fun q=>hw (.inl q)) ?_).symm
   rcases Nat.lt_or_ge b (N k) with q|q
   ·exact .inl q
   ·exact .inr (by
     rcases Nat.lt_or_ge b (N (k+1)) with q2|q2
     ·exact absurd (.inr ⟨q,q2⟩) hw
     ·exact q2)
theorem canon_env (tr:Trace P call ops m E H N V D 0) (hm:m=ops.size) (t:Nat) (x:AV):∀ k,k≤m→E k t=some x→envAt (E 0) ops V (fun _=>true) k t=some x
 | 0,_,h=>h
 | k+1,hk,h=>by
  have ho:ops[k]?=some ops[k]:=Array.getElem?_eq_getElem (by omega)
  rw[tr.env k _ (Nat.zero_le _) ho] at h
  simp only[envAt]
  cases hd:ops[k].dst with
  | none =>
   rw[hd] at h
   rw[if_neg (by rintro⟨_,o,h1,h2⟩;rw[ho] at h1;cases h1;rw[hd] at h2;cases h2)]
   exact canon_env tr hm t x k (by omega) h
  | some u =>
   rw[hd] at h
   rcases upd_get h with ⟨rfl,h2⟩|⟨hne,h2⟩
   ·rw[if_pos ⟨trivial,_,ho,hd⟩,h2]
   ·rw[if_neg (by rintro⟨_,o,h1,h3⟩;rw[ho] at h1;cases h1;rw[hd] at h3;cases h3;exact hne rfl)]
    exact canon_env tr hm t x k (by omega) h2
theorem look_obj_zero {g:Nat→Option Blk} {b c:Nat} {z:Blk} (h:look g b c=some (.obj z)):c=0:=by
 obtain⟨x,hx⟩:=look_some h
 cases x with
 | cells e cs=>obtain⟨v,_,hv⟩:=look_cells_inv hx h;cases hv
 | map l q=>exact(look_obj_inv hx rfl h).1
 | striter l q=>exact(look_obj_inv hx rfl h).1
 | mapiter l q p u=>exact(look_obj_inv hx rfl h).1
theorem lk_obj_zero {Dn:Nat→Bool} {b c:Nat} {z:Blk}:∀ k,lkAt H N D Dn k b c=some (.obj z)→c=0
 | 0,h=>look_obj_zero h
 | k+1,h=>by
  simp only[lkAt] at h
  split at h
  ·exact look_obj_zero h
  ·exact lk_obj_zero k h
theorem inv_step {K : Known} {L : Map} {w:World} {a:Act} (tr:Trace P call ops m E H N V D 0) (hc:CallOk P call) (hm:m=ops.size) (hap:apartAll ops=true) (hcov:∀ k,k<m→Cov K (D k)) (hfr:∀ b,N 0≤b→b<N m→L b=none)
    (hdst:∀ o∈ops.toList,∀ d,o.dst=some d→d<a.tmps.size) {Dn:Nat→Bool} (hcl:∀ j o,ops[j]?=some o→Dn j=true→∀ e,e∈o.after.toList→Region.binds .any e=true→Dn e.on=true) (hin:∀ j,Dn j=true→j<m)
    {L':Map} {d:List Acc} {a':Act} {w':World} (inv:Inv K L w a ops m (E 0) H N V D Dn L' d a' w') {i:Nat} {o:Oper} (hi:i<m) (ho:ops[i]?=some o) (hni:Dn i=false) (hed:∀ e,e∈o.after.toList→Region.binds .any e=true→Dn e.on=true)
    {Q:Exit→Act→World→Prop} {next:Act→World→Prop}
    (hnext:∀ L'' d'' a'' w'',Inv K L w a ops m (E 0) H N V D (fun j=>if j=i then true else Dn j) L'' d'' a'' w''→next a'' w''):wpOp P ops Q i next a' w':=by
  have hNm:=N_mono tr hc hm
  have hdone:∀ k,Ahead ops i k→Dn k=true:=fun k hk=>ahead_done (fun j=>Dn j=true) hcl (fun j hj=>⟨_,Array.getElem?_eq_getElem (by have:=hin j hj;omega)⟩) (i+1) i k o (by omega) ho hed hk
  have hnot:∀ k,Dn k=true→¬ Ahead ops k i:=fun k hk hak=>by
    have hkm:=hin k hk
    have hok:ops[k]?=some (ops[k]'(by omega)):=Array.getElem?_eq_getElem (by omega)
    have:=ahead_done (fun j=>Dn j=true) hcl (fun j hj=>⟨_,Array.getElem?_eq_getElem (by have:=hin j hj;omega)⟩) (k+1) k i _ (by omega) hok (fun e h1 h2=>hcl k _ hok hk e h1 h2) hak
    rw[hni] at this;cases this
  -- what an operation meets is as it was reckoned
  have hmeet:∀ b c,Tl (D i) b c→¬ (N i≤b∧b<N (i+1))→lkAt H N D Dn m b c=look (H i).get b c:=fun b c ht hb=>by
    rw[← canon_look tr hc hm b c i (by omega),lk_skip m (by omega:i≤m) (fun j h1 h2 h3 hw=>by
      rcases Nat.lt_or_ge i j with q|q
      · exact(sep_no tr q h2 (hnot j h3)).2.1 ht hw
      · have:j=i:=by omega
        subst this;rw[hni] at h3;cases h3)]
    refine lk_same i (fun j hj hw=>?_)
    cases hd:Dn j with
    | true=>rfl
    | false=>exact((sep_no tr hj hi (fun hak=>by have:=hdone j hak;rw[hd] at this;cases this)).1 ht hw).elim
  obtain⟨hfa,hbd⟩:=tr.fresh i (Nat.zero_le _) hi
  have hNi:=hNm i (i+1) (by omega) (by omega)
  have hown:∀ b c,N i≤b→b<N (i+1)→look (H i).get b c=none:=fun b c h1 h2=>by
    have:=freshAll_spec _ hfa b h1 (by omega)
    simp only[look,this]
  have hacc:∀ x,x∈D i→x.b<N (i+1)∧(x.w=true→0<x.n):=fun x hx=>by
    have:=List.all_eq_true.1 hbd x hx
    simp only[Bool.and_eq_true,Bool.or_eq_true] at this
    exact ⟨blt_lt this.1, fun hw => by rcases this.2 with q|q;· rw[hw] at q;cases q
                                       · exact blt_lt q⟩
  have hL'own:∀ b,N i≤b→b<N (i+1)→L' b=none:=fun b h1 h2=>by
    cases hb:L' b with
    | none=>rfl
    | some l =>
      have hn0:=hNm 0 i (by omega) (by omega)
      have hn1:=hNm (i+1) m (by omega) (by omega)
      rcases inv.dom b l hb with h3|⟨_,j,hj,hd,h4,h5⟩
      · rw[hfr b (by omega) (by omega)] at h3;cases h3
      · rcases Nat.lt_trichotomy i j with q|q|q
        · have:=hNm (i+1) j (by omega) (by omega);omega
        · subst q;rw[hni] at hd;cases hd
        · have:=hNm (j+1) i (by omega) (by omega);omega
  have hev:=tr.op i o (Nat.zero_le _) ho
  obtain⟨m1,hwp⟩:=evOper_ok oper_ok hc hev
  obtain⟨_,d1,hd1,hframe,hhits⟩:=m1
  have hd1':D i=d1:=by simpa using hd1
  subst hd1'
  let Ki:Known:=fun b c=>Tl (D i) b c∨(N i≤b∧b<N (i+1))
  have hTK:∀ b c,Tl (D i) b c→K b c:=fun b c ht=>by
    obtain⟨x,hx,rfl,h1,h2⟩:=ht
    exact hcov i hi x hx c h1 h2
  have hpre:∀ b c x,look (H i).get b c=some x→Ki b c→lkAt H N D Dn m b c=some x∧K b c:=fun b c x hx hk=>by
    have hnown:¬ (N i≤b∧b<N (i+1)):=fun q=>by rw[hown b c q.1 q.2] at hx;cases hx
    have ht:=hk.resolve_right hnown
    exact⟨by rw[hmeet b c ht hnown];exact hx,hTK b c ht⟩
  have hHi:HRel Ki L' (look (H i).get) w':=⟨fun b c x hx hk=>by obtain⟨h1,h2⟩:=hpre b c x hx hk;exact inv.heap.rel b c x h1 h2,
    fun b k x b' k' x' l l' h1 k1 h2 k2 m1 m2 hll=>by
      obtain⟨g1,g2⟩:=hpre b k x h1 k1
      obtain⟨g3,g4⟩:=hpre b' k' x' h2 k2
      exact inv.heap.inj b k x b' k' x' l l' g1 g2 g3 g4 m1 m2 hll,inv.heap.old⟩
  have hEi:EnvRel L' (renv (E i) (o.looksAt ops)) a':=fun t x hx=>by
    obtain⟨h1,h2⟩:=renv_get _ t x hx
    refine inv.env t x ?_
    rw[← canon_env tr hm t x i (by omega) h2,env_skip m (by omega:i≤m) (fun j o' g1 g2 g3 g4 g5=>by
      rcases Nat.lt_or_ge i j with q|q
      · exact(Oper.apart_spec (apart_spec hap q ho g4 (hnot j g3))).2.2 t g5 h1
      · have:j=i:=by omega
        subst this;rw[hni] at g3;cases g3)]
    refine env_same i (fun j o' hj g4 g5=>?_)
    cases hd:Dn j with
    | true=>rfl
    | false=>exact absurd h1 ((Oper.apart_spec (apart_spec hap hj g4 ho (fun hak=>by have:=hdone j hak;rw[hd] at this;cases this))).1 t g5)
  have cx:Cx Ki L' ⟨H i,N i,[]⟩ w' (renv (E i) (o.looksAt ops)) a' ⟨H (i+1),N (i+1),D i⟩ :=
    ⟨hEi,hHi,fun x hx j h1 h2=>.inl ⟨x,hx,rfl,h1,h2⟩,fun b h1 h2=>hL'own b h1 h2⟩
  refine hwp Ki L' w' a' cx i next Q ho ?_
  rintro v' w'' ⟨d2,L'',hv,hst,hH2⟩
  have hd2:D i=d2:=by have:=hst.lg;simpa using this
  subst hd2
  have hD':∀ j,(fun j=>if j=i then true else Dn j) j=true ↔ j=i∨Dn j=true:=fun j=>by
    by_cases hj:j=i<;>simp[hj]
  -- what an operation writes is what it gives; the rest is as it was
  have hlater:∀ b c,Wk N D i b c→∀ j,i<j→j<m→Dn j=true→¬ Wk N D j b c:=fun b c hw j h1 h2 h3 hwj=>by
    have hsep:=sep_no (b:=b) (c:=c) tr h1 h2 (hnot j h3)
    rcases hw with hw|hw
    · exact hsep.2.1 hw.tl hwj
    · rcases hwj with hwj|hwj
      · exact hsep.2.2 hw hwj
      · have:=hNm (i+1) j (by omega) (by omega);omega
  have hlkw:∀ b c,Wk N D i b c→lkAt H N D (fun j=>if j=i then true else Dn j) m b c=look (H (i+1)).get b c:=fun b c hw=>by
    rw[lk_skip m (by omega:i+1≤m) (fun j h1 h2 h3=>hlater b c hw j (by omega) h2 (((hD' j).1 h3).resolve_left (by omega)))]
    simp only[lkAt]
    rw[if_pos ⟨by simp,hw⟩]
  have hlkn:∀ b c,¬ Wk N D i b c→lkAt H N D (fun j=>if j=i then true else Dn j) m b c=lkAt H N D Dn m b c:=fun b c hw=>by
    refine lk_same m (fun j hj hwj=>?_)
    have:j≠i:=by rintro rfl;exact hw hwj
    simp[this]
  have hKw:∀ b c,Wk N D i b c→Ki b c:=fun b c hw=>hw.imp Wl.tl id
  -- an old block that is written was there
  have hhit:∀ x,x∈D i→x.w=true→∀ l,L' x.b=some l→∃ k y,lkAt H N D Dn m x.b k=some y∧K x.b k:=fun x hx hw l hl=>by
    obtain⟨hb1,hb2⟩:=hacc x hx
    have hlt:x.b<N i:=by
      rcases Nat.lt_or_ge x.b (N i) with q|q
      · exact q
      · rw[hL'own x.b q hb1] at hl;cases hl
    obtain⟨k,y,hy,ht⟩:=hhits x hx hw hlt (hb2 hw)
    exact⟨k,y,hpre x.b k y hy (.inl ht)⟩
  have hLL:∀ b l,L' b=some l→L'' b=some l:=hst.ext
  refine hnext L'' (D i++d) (a'.put o.dst v') w'' ⟨inv.core.trans hst.core,fun x hx=>?_,fun b l hb=>?_,⟨fun b c x hx hk=>?_,fun b k x b' k' x' l l' h1 k1 h2 k2 m1 m2 hll=>?_,hH2.old⟩,fun t x hx=>?_,(put_size _ _ _).trans inv.size,(put_defers _ _ _).trans inv.defers⟩
  · rcases List.mem_append.1 hx with hx|hx
    · exact⟨i,hi,by simp,hx⟩
    · obtain⟨j,h1,h2,h3⟩:=inv.mem x hx
      exact⟨j,h1,(hD' j).2 (.inr h2),h3⟩
  · rcases hst.dom b l hb with h1|⟨h1,h2,h3⟩
    · rcases inv.dom b l h1 with h4|⟨h4,j,h5,h6,h7⟩
      · exact .inl h4
      · exact .inr ⟨h4,j,h5,(hD' j).2 (.inr h6),h7⟩
    · refine .inr ⟨?_,i,hi,by simp,h2,h3⟩
      cases hL:L b with
      | none=>rfl
      | some l0=>rw[inv.core.ext b l0 hL] at h1;cases h1
  · by_cases hw:Wk N D i b c
    · rw[hlkw b c hw] at hx
      exact hH2.rel b c x hx (hKw b c hw)
    · rw[hlkn b c hw] at hx
      obtain⟨l,hl,hr⟩:=inv.heap.rel b c x hx hk
      refine⟨l,hLL b l hl,?_⟩
      have hr:=hr.mono hst.ext
      have hsame:∀ y:Acc,y∈D i→y.w=true→∀ ly,L' y.b=some ly→ly.blk=l.blk→y.b=b:=fun y hy hyw ly hly hlb=>by
        obtain⟨k,z,h1,h2⟩:=hhit y hy hyw ly hly
        exact inv.heap.inj y.b k z b c x ly l h1 h2 hx hk hly hl hlb
      cases x with
      | cell e n u =>
        obtain⟨cc,fz,g1,g2,g3,g4,u',g5,g6⟩:=hr
        obtain⟨cc',k1,k2,k3⟩:=hst.cells l.blk cc e fz g1
        refine⟨cc',fz,k1,by rw[k2];exact g2,by rw[k2];exact g3,by rw[k2];exact g4,u',g5,?_⟩
        rw[k3 (l.off+c) ?_];exact g6
        rintro⟨y,hy,hyw,ly,hly,hlb,p1,p2⟩
        have hyb:=hsame y hy hyw ly hly hlb
        subst hyb
        rw[hl] at hly;cases hly
        exact hw (.inl ⟨y,hy,hyw,rfl,by omega,p2.imp id (fun q=>by omega)⟩)
      | obj z =>
        obtain⟨g1,ob,g2,g3⟩:=hr
        refine⟨g1,ob,hst.objs l.blk ob g2 g3.notCells ?_,g3⟩
        rintro⟨y,hy,hyw,hyz,ly,hly,hlb⟩
        have hyb:=hsame y hy hyw ly hly hlb
        subst hyb
        have hc0:=lk_obj_zero m hx
        exact hw (.inl ⟨y,hy,hyw,rfl,by omega,hyz.2.imp id (fun q=>by omega)⟩)
  · have hold:∀ b k x,lkAt H N D (fun j=>if j=i then true else Dn j) m b k=some x→K b k→∀ l,L'' b=some l→(∃ k0 x0 l0 b0,lkAt H N D Dn m b0 k0=some x0∧K b0 k0∧L' b0=some l0∧l0.blk=l.blk∧(b0=b∨∀ c,Wl (D i) b0 c))∨(w'.heap.size≤l.blk∧Wk N D i b k):=fun b k x hx hk l hl=>by
      by_cases hw:Wk N D i b k
      · cases hLb:L' b with
        | some l0 =>
          have hll0:l0=l:=by have:=hLL b l0 hLb;rw[hl] at this;exact(Option.some.inj this).symm
          subst hll0
          rcases hw with hw|hw
          · obtain⟨y,hy,hyw,rfl,_⟩:=hw
            obtain⟨k0,x0,h1,h2⟩:=hhit y hy hyw l0 hLb
            exact .inl ⟨k0,x0,l0,_,h1,h2,hLb,rfl,.inl rfl⟩
          · rw[hL'own b hw.1 hw.2] at hLb;cases hLb
        | none =>
          rcases hst.ali b l hl hLb with h1|⟨y,hy,hyw,hyo,hyn,l0,hl0,hb0,_⟩
          · exact .inr ⟨h1,hw⟩
          · obtain⟨k0,x0,h1,h2⟩:=hhit y hy hyw l0 hl0
            exact .inl ⟨k0,x0,l0,y.b,h1,h2,hl0,hb0,.inr (fun c=>⟨y,hy,hyw,rfl,by omega,.inl hyn⟩)⟩
      · rw[hlkn b k hw] at hx
        obtain⟨l0,hl0,_⟩:=inv.heap.rel b k x hx hk
        have:=hLL b l0 hl0;rw[hl] at this;cases this
        exact .inl ⟨k,x,l,b,hx,hk,hl0,rfl,.inl rfl⟩
    have mixed:∀ b k x b' k' x' l l',Wk N D i b k→¬ Wk N D i b' k'→lkAt H N D (fun j=>if j=i then true else Dn j) m b k=some x→K b k→lkAt H N D (fun j=>if j=i then true else Dn j) m b' k'=some x'→K b' k'→L'' b=some l→L'' b'=some l'→l.blk=l'.blk→b=b':=fun b k x b' k' x' l l' hw hw' h1 k1 h2 k2 m1 m2 hll=>by
      rw[hlkn b' k' hw'] at h2
      obtain⟨l1,hl1,_⟩:=inv.heap.rel b' k' x' h2 k2
      have:=hLL b' l1 hl1;rw[m2] at this;cases this
      rcases hold b k x h1 k1 l m1 with ⟨k0,x0,l0,b0,g1,g2,g3,g4,g5⟩|⟨g1,_⟩
      · have hbb:=inv.heap.inj b0 k0 x0 b' k' x' l0 l' g1 g2 h2 k2 g3 hl1 (g4.trans hll)
        rcases g5 with g5|g5
        · rw[← g5];exact hbb
        · exact absurd (.inl (hbb▸g5 k')) hw'
      · have:=inv.heap.old b' l' hl1;omega
    by_cases hw:Wk N D i b k<;>by_cases hw':Wk N D i b' k'
    · rw[hlkw b k hw] at h1
      rw[hlkw b' k' hw'] at h2
      exact hH2.inj b k x b' k' x' l l' h1 (hKw b k hw) h2 (hKw b' k' hw') m1 m2 hll
    · exact mixed b k x b' k' x' l l' hw hw' h1 k1 h2 k2 m1 m2 hll
    · exact(mixed b' k' x' b k x l' l hw' hw h2 k2 h1 k1 m2 m1 hll.symm).symm
    · rw[hlkn b k hw] at h1
      rw[hlkn b' k' hw'] at h2
      obtain⟨l1,hl1,_⟩:=inv.heap.rel b k x h1 k1
      obtain⟨l2,hl2,_⟩:=inv.heap.rel b' k' x' h2 k2
      have e1:=hLL b l1 hl1;rw[m1] at e1;cases e1
      have e2:=hLL b' l2 hl2;rw[m2] at e2;cases e2
      exact inv.heap.inj b k x b' k' x' l l' h1 k1 h2 k2 hl1 hl2 hll
  · by_cases hdt:o.dst=some t
    · rw[env_skip m (by omega:i+1≤m) (fun j o' g1 g2 g3 g4 g5=>by
        have hj:Dn j=true:=((hD' j).1 g3).resolve_left (by omega)
        exact(Oper.apart_spec (apart_spec hap (by omega) ho g4 (hnot j hj))).2.1 t hdt g5)] at hx
      simp only[envAt] at hx
      rw[if_pos ⟨by simp,o,ho,hdt⟩] at hx
      cases hx
      have hlt:=hdst o (by rw[Array.mem_toList_iff];exact Array.mem_of_getElem? ho) t hdt
      refine⟨v',?_,hv⟩
      rw[hdt]
      simp[Act.put,inv.size,hlt]
    · rw[env_same m (Dn':=Dn) (fun j o' hj g4 g5=>by
        have:j≠i:=by rintro rfl;rw[ho] at g4;cases g4;exact hdt g5
        simp[this])] at hx
      obtain⟨u,h1,h2⟩:=inv.env t x hx
      refine⟨u,?_,toV_mono hst.ext _ _ h2⟩
      cases hd:o.dst with
      | none=>exact h1
      | some q =>
        have hne:q≠t:=by rintro rfl;exact hdt hd
        simp only[Act.put]
        rw[Array.getElem?_setIfInBounds_ne hne];exact h1
end
end Go.Ev
namespace Go.Ev
open Go.RowKit
variable {P:Program} {call:CallF} {ops:Array Oper}
theorem filter_less {α:Type} (p q:α→Bool) (h:∀ x,q x=true→p x=true) (i:α) (hp:p i=true) (hq:q i=false):∀ l:List α,i∈l→(l.filter q).length<(l.filter p).length
 | [],hi=>by cases hi
 | x :: l,hi=>by
  have hle:∀ l:List α,(l.filter q).length≤(l.filter p).length:=fun l=>by
   induction l with
   | nil=>exact Nat.le_refl _
   | cons y l ih =>
    simp only[List.filter_cons]
    cases hqy:q y with
    | true=>rw[if_pos rfl,if_pos (h y hqy)];simpa using ih
    | false =>
     rw[if_neg (by simp)]
     cases hpy:p y with
     | true=>rw[if_pos rfl];simp;omega
     | false=>rw[if_neg (by simp)];exact ih
  rcases List.mem_cons.1 hi with rfl|hi
  ·simp only[List.filter_cons,hp,hq]
   have:=hle l
   simp;omega
  ·have ih:=filter_less p q h i hp hq l hi
   simp only[List.filter_cons]
   cases hqy:q x with
   | true=>rw[if_pos rfl,if_pos (h x hqy)];simpa using ih
   | false =>
    rw[if_neg (by simp)]
    cases hpy:p x with
    | true=>rw[if_pos rfl];simp;omega
    | false=>rw[if_neg (by simp)];exact ih
section
variable {H:Nat→Tr Blk} {N:Nat→Nat} {D:Nat→List Acc} {V:Nat→AV} {E:Nat→Env} {m:Nat}
theorem any_ok {K:Known} {L:Map} {w:World} {a:Act} (tr:Trace P call ops m E H N V D 0) (hc:CallOk P call) (hm:m=ops.size) (hap:apartAll ops=true) (hcov:∀ k,k<m→Cov K (D k)) (hfr:∀ b,N 0≤b→b<N m→L b=none)
  (hdst:∀ o∈ops.toList,∀ d,o.dst=some d→d<a.tmps.size) {Q:Exit→Act→World→Prop}
  (hend:∀ L' d a' w',Inv K L w a ops m (E 0) H N V D (fun j=>decide (j<m)) L' d a' w'→Q .normal a' w') :
  ∀ (fuel:Nat) (listed:Array Bool) (L':Map) (d:List Acc) (a':Act) (w':World),listed.size=m→(∀ j o,ops[j]?=some o→listed.getD j false=true→∀ e,e∈o.after.toList→Region.binds .any e=true→listed.getD e.on false=true) →
   ((List.range m).filter (fun j=>!listed.getD j true)).length≤fuel→Inv K L w a ops m (E 0) H N V D (fun j=>listed.getD j false) L' d a' w'→wpAny P .any ops Q fuel listed a' w':=by
 have fin:∀ (listed:Array Bool) (L':Map) (d:List Acc) (a':Act) (w':World),listed.size=m→(∀ j o,ops[j]?=some o→listed.getD j false=true→∀ e,e∈o.after.toList→Region.binds .any e=true→listed.getD e.on false=true) →
   Inv K L w a ops m (E 0) H N V D (fun j=>listed.getD j false) L' d a' w'→Region.ready .any ops listed=[]→Q .normal a' w':=fun listed L' d a' w' hs hcl inv hr=>by
  have all:∀ n j,j<n→j<m→listed.getD j false=true:=by
   intro n
   induction n with
   | zero=>intro j hj;omega
   | succ n ih =>
    intro j hj hjm
    cases hd:listed.getD j false with
    | true=>rfl
    | false =>
     exfalso
     have ho:ops[j]?=some (ops[j]'(by omega)):=Array.getElem?_eq_getElem (by omega)
     have hmem:j∈Region.ready .any ops listed:=mem_ready.2 ⟨by
      have:j<listed.size:=by omega
      simp[this] at hd ⊢;exact hd,_,ho,fun e he hb=>by
       have hlt:=edge_lt hap ho (by simpa using he) hb
       exact ih e.on (by omega) (by omega)⟩
     rw[hr] at hmem;cases hmem
  have e:(fun j=>listed.getD j false)=(fun j=>decide (j<m)):=by
   funext j
   by_cases hj:j<m
   ·simp only[hj,decide_true];exact all (j+1) j (by omega) hj
   ·simp[hj,Array.getElem?_eq_none (by omega:listed.size≤j)]
  exact hend L' d a' w' (e▸inv)
 intro fuel
 induction fuel with
 | zero =>
  intro listed L' d a' w' hs hcl hf inv
  have hr:Region.ready .any ops listed=[]:=by
   cases hq:Region.ready .any ops listed with
   | nil=>rfl
   | cons i l =>
    exfalso
    have hi:i∈Region.ready .any ops listed:=by rw[hq];exact List.mem_cons_self
    obtain⟨h1,o,ho,_⟩:=mem_ready.1 hi
    have hlt:i<m:=by
     rcases Nat.lt_or_ge i ops.size with q|q
     ·omega
     ·rw[Array.getElem?_eq_none q] at ho;cases ho
    have:i∈(List.range m).filter (fun j=>!listed.getD j true):=List.mem_filter.2 ⟨List.mem_range.2 hlt,by rw[h1];rfl⟩
    have hl:=List.length_pos_of_mem this
    omega
  exact⟨hr,fin listed L' d a' w' hs hcl inv hr⟩
 | succ fuel ih =>
  intro listed L' d a' w' hs hcl hf inv
  refine⟨fin listed L' d a' w' hs hcl inv,fun i hi=>?_⟩
  obtain⟨h1,o,ho,h2⟩:=mem_ready.1 hi
  have hlt:i<m:=by
   rcases Nat.lt_or_ge i ops.size with q|q
   ·omega
   ·rw[Array.getElem?_eq_none q] at ho;cases ho
  have hilt:i<listed.size:=by omega
  have hni:listed.getD i false=false:=by simp[hilt] at h1 ⊢;exact h1
  have hset:∀ j,(listed.setIfInBounds i true).getD j false=if j=i then true else listed.getD j false:=fun j=>by
   by_cases hj:j=i
   ·subst hj;simp[hilt]
   ·rw[if_neg hj,getD_set_ne false (fun q=>hj q.symm)]
  refine inv_step (Dn:=fun j=>listed.getD j false) tr hc hm hap hcov hfr hdst (fun j o' g1 g2 e g3 g4=>hcl j o' g1 g2 e g3 g4) (fun j hj=>?_) inv hlt ho hni (fun e g3 g4=>h2 e (by simpa using g3) g4) (fun L'' d'' a'' w'' inv'=>?_)
  ·rcases Nat.lt_or_ge j listed.size with q|q
   ·omega
   ·simp[Array.getElem?_eq_none q] at hj
  ·refine ih (listed.setIfInBounds i true) L'' d'' a'' w'' (by simp[hs]) (fun j o' g1 g2 e g3 g4=>?_) ?_ ?_
   ·rw[hset] at g2 ⊢
    by_cases hei:e.on=i
    ·rw[if_pos hei]
    ·rw[if_neg hei]
     by_cases hj:j=i
     ·subst hj;rw[ho] at g1;cases g1;exact h2 e (by simpa using g3) g4
     ·rw[if_neg hj] at g2;exact hcl j o' g1 g2 e g3 g4
   ·have:=filter_less (fun j=>!listed.getD j true) (fun j=>!(listed.setIfInBounds i true).getD j true) (fun x hx=>by
     by_cases hxi:i=x
     ·subst hxi;simp[hilt] at hx
     ·rw[getD_set_ne true hxi] at hx;exact hx) i (by rw[h1];rfl) (by simp[hilt]) (List.range m) (List.mem_range.2 hlt)
    omega
   ·have e:(fun j=>(listed.setIfInBounds i true).getD j false)=(fun j=>if j=i then true else listed.getD j false):=funext hset
    rw[e];exact inv'
end
theorem drawn_ok:DrawnOk P drawn:=by
 intro call id ops env s env' s' hc h
 unfold drawn at h
 split at h
 case h_2=>cases h
 rename_i hok
 simp only[Bool.and_eq_true] at hok
 obtain⟨hmix,hap⟩:=hok
 obtain⟨E,H,N,V,D,e1,e2,e3,tr,_,f1,f2,f3,⟨dl,hd1,hd2⟩,hmono⟩:=go_trace hc ops.toList 0 env s.h s.n [] [] s.lg env' s' (fun j=>by simp) (fun r hr=>by cases hr) h
 refine⟨hmono,fun K L w a cx hdst Q hq=>?_⟩
 have hm:0+ops.toList.length=ops.size:=by simp
 rw[hm] at tr f1 f2 f3 hd2
 have hcov:∀ k,k<ops.size→Cov K (D k):=fun k hk x hx=>cx.cov x (by rw[hd1];exact List.mem_append_left _ ((hd2 x).2 ⟨k,Nat.zero_le _,hk,hx⟩))
 have hNm:=N_mono tr hc rfl
 have hfr:∀ b,N 0≤b→b<N ops.size→L b=none:=fun b h1 h2=>cx.fresh b (by rw[e3] at h1;exact h1) (by rw[f3];exact h2)
 have hnone:∀ j,(Array.replicate ops.size false).getD j false=false:=fun j=>by
  by_cases hj:j<ops.size<;>simp[hj]
 refine wp_region_any hmix (any_ok (w:=w) tr hc rfl hap hcov hfr hdst (fun L' d a' w' inv=>?_) ops.size (Array.replicate ops.size false) L [] a _ (by simp) (fun j o g1 g2=>by rw[hnone] at g2;cases g2) (by
  refine Nat.le_trans (List.length_filter_le _ _) (by simp)) ?_)
 ·refine hq a' w' ⟨dl,L',?_,?_,?_,inv.size,inv.defers⟩
  ·have hw:=inv.core.weaken (d':=dl) (fun x hx=>by obtain⟨j,g1,g2,g3⟩:=inv.mem x hx;exact(hd2 x).2 ⟨j,Nat.zero_le _,g1,g3⟩)
   exact⟨hd1,hmono.n,hw.ext,fun b l hb=>by
    rcases inv.dom b l hb with g1|⟨g1,j,g2,_,g3,g4⟩
    ·exact .inl g1
    ·refine .inr ⟨g1,?_,?_⟩
     ·have:=hNm 0 j (Nat.zero_le _) (by omega);rw[e3] at this;omega
     ·have:=hNm (j+1) ops.size (by omega) (Nat.le_refl _);rw[f3];omega,hw.ali,hw.size,hw.os,hw.out,hw.tape,hw.cells,hw.objs⟩
  ·have e:(lkAt H N D (fun j=>decide (j<ops.size)) ops.size)=look s'.h.get:=by
    funext b c
    rw[lk_same (Dn':=fun _=>true) ops.size (fun j hj _=>by simp[hj]),canon_look tr hc rfl b c ops.size (Nat.le_refl _),f2]
   rw[← e];exact inv.heap
  ·intro t x hx
   rw[f1] at hx
   have:=canon_env tr rfl t x ops.size (Nat.le_refl _) hx
   refine inv.env t x ?_
   rw[env_same (Dn':=fun _=>true) ops.size (fun j o hj _ _=>by simp[hj])]
   exact this
 ·have hDn:(fun j=>(Array.replicate ops.size false).getD j false)=(fun _=>false):=funext hnone
  rw[hDn]
  have hlk:∀ k,lkAt H N D (fun _=>false) k=look (H 0).get:=fun k=>by
   funext b c
   induction k with
   | zero=>rfl
   | succ k ih=>simp only[lkAt];rw[if_neg (fun q=>by cases q.1)];exact ih
  have hen:∀ k t,envAt (E 0) ops V (fun _=>false) k t=E 0 t:=fun k t=>by
   induction k with
   | zero=>rfl
   | succ k ih=>simp only[envAt];rw[if_neg (fun q=>by cases q.1)];exact ih
  exact⟨Core.ofDrew _ (Core.refl L _),fun x hx=>(by cases hx),fun b l hb=>.inl hb,by rw[hlk,e2];exact cx.heap.drew _,fun t x hx=>by rw[hen,e1] at hx;exact cx.env t x hx,rfl,rfl⟩
theorem closed_call {pr:Prims} (hpr:PrimsOk P pr) {n d:Nat} {f:FuncId} {v:AV} {s':St} (hp:pr f=none) (h:evCall P pr drawn n (d+1) f [] ⟨.nil,0,[]⟩=.ok v s') {v':Value} (hv:∀ L:Map,∀ u,toV L v=some u→u=v') (w:World) :
  Calls P f #[] w (fun e w'=>e=.returned v'∧Below w.heap.size w w'):=by
 have hok:=evCall_ok hpr drawn_ok n (d+1) f [] ⟨.nil,0,[]⟩ v s' h
 have hH:HRel (fun _ _=>True) (fun _=>none) (look (Tr.nil:Tr Blk).get) w:=⟨fun b k x hx=>by simp[look,Tr.get_nil] at hx,fun b k x _ _ _ _ _ hx=>by simp[look,Tr.get_nil] at hx,fun b l hl=>by cases hl⟩
 have hup:=hok.2 (fun _ _=>True) (fun _=>none) w [] rfl hH (fun _ _ _ _ _=>trivial) (fun _ _ _=>rfl)
 have hrun:(callFunc f #[]).run P w=.ok (.enter f #[]) w:=by
  rw[evCall_succ,hp] at h
  simp only[] at h
  split at h
  case h_2=>cases h
  rename_i c rs m hf
  obtain⟨fn,hfn,hb,hnm,_⟩:=fnOf_spec hf
  simp only[callFunc,Sem.run_bind,run_program,Result.andThen_ok,hfn]
  rw[if_neg (by rw[hnm];simp),if_neg (by rw[hb];simp),Sem.run_pure]
 have hu := hup { dst := some 0, op := .alloc 0, type := 0, pos := "", after := #[], guard := none } { tmps := #[undef], defers := [] } (fun a' w' => ∃ u, a'.tmps[0]? = some u ∧ Ends (fun _ _ => True) (fun _ => none) ⟨.nil, 0, []⟩ w v s' u w') (fun _ _ _ => False)
  (fun u w' hu=>⟨u,by simp[Act.put],hu⟩)
 have he:(⟨[]⟩:Array Value)=#[]:=rfl
 rw[he,hrun,Oper.upon_enter] at hu
 refine hu.mono ?_
 intro e w' hr
 cases e with
 | returned u =>
  obtain⟨u',h1,d2,L',h2,h3,h4⟩:=hr
  have hu':u'=u:=by simpa [Act.put] using h1.symm
  subst hu'
  refine⟨by rw[hv L' _ h2],?_⟩
  have hcell:∀ r,r<w.heap.size→w'.heap[r]?=w.heap[r]?:=fun r hr=>by
   have hg:w.heap[r]?=some w.heap[r]:=Array.getElem?_eq_getElem hr
   cases ho:w.heap[r] with
   | cells c e fz =>
    rw[ho] at hg
    obtain⟨c',k1,k2,k3⟩:=h3.cells r c e fz hg
    have:c'=c:=by
     apply Array.ext_getElem?
     intro k
     exact k3 k (by rintro⟨x,_,_,l,hl,_⟩;cases hl)
    rw[k1,hg,this]
   | _=>rw[ho] at hg;rw[hg];exact h3.objs r _ hg (by intro c e fz;simp) (by rintro⟨x,_,_,_,l,hl,_⟩;cases hl)
  exact⟨h3.os,h3.tape,h3.out,h3.size,hcell⟩
 | panicked c=>exact hr.elim
 | outgrown=>obtain⟨_,_,hq⟩:=hr;exact hq.elim
end Go.Ev

/- Parts of this proof, one behind the other: RefX, RefC, RefA, RefE, RefE1. -/
import Derived.Test.YtdgapmnojmhllaaGreatDoorPf3
import Derived.Test.YtdgapmnojmhllaaGreatDoorPf5
import Derived.Deep.Cut
set_option maxRecDepth 1000000
set_option maxHeartbeats 40000000
namespace Go.Afx
open Go.RowKit
def FitsE:Nat→Ex→Prop
 | 0,_=>False
 | d+1,e=>∀ x∈e.args,FitsE d x
def FitsS:Nat→St→Prop
 | 0,_=>False
 | d+1,x=>(∀ y∈x.exprs,FitsE d y)∧(∀ y∈x.body,FitsS d y)∧(∀ y∈x.els,FitsS d y)
theorem FitsE.mono (d:Nat):∀ {d':Nat} {e:Ex},d≤d'→FitsE d e→FitsE d' e:=by
 induction d with
 | zero=>intro d' e _ h;exact h.elim
 | succ d ih =>
  intro d' e hd h
  obtain⟨d',rfl⟩:∃ k,d'=k+1:=⟨d'-1,by omega⟩
  exact fun x hx=>ih (by omega) (h x hx)
theorem ls_mem {α:Type} {F:Nat→Prop} {w:World} {sz:Nat} {P:List Value→α→Prop} {A:Option Addr} {n c:Nat} {xs:List α} (h:LsAt F w sz P A n c xs) {x:α} (hx:x∈xs):∃ r,P r x:=by
 obtain⟨rows,_,_,hl,hp⟩:=h
 obtain⟨k,hk⟩:=List.mem_iff_getElem?.1 hx
 have hlt:=(List.getElem?_eq_some_iff.1 hk).1
 exact⟨_,(hp k _ x (List.getElem?_eq_getElem (by omega)) hk).2⟩
theorem ExAt.fits {F:Nat→Prop} {w:World} (d:Nat):∀ {r:List Value} {e:Ex},ExAt F d w r e→FitsE d e:=by
 induction d with
 | zero=>intro r e h;exact h.elim
 | succ d ih =>
  intro r e h x hx
  obtain⟨_,_,_,_,_,A,m,c,_,hl⟩:=h
  obtain⟨r2,h2⟩:=ls_mem hl hx
  exact ih h2
theorem StAt.fits {F:Nat→Prop} {w:World} (d:Nat):∀ {r:List Value} {e:St},StAt F d w r e→FitsS d e:=by
 induction d with
 | zero=>intro r e h;exact h.elim
 | succ d ih =>
  intro r e h
  obtain⟨_,_,_,_,Ac,nc,cc,Ae,ne,ce,Ab,nb,cb,Al,nl,cl,_,_,k2,k3,k4⟩:=h
  exact⟨fun y hy=>by obtain⟨r2,h2⟩:=ls_mem k2 hy;exact h2.fits d,fun y hy=>by obtain⟨r2,h2⟩:=ls_mem k3 hy;exact ih h2,fun y hy=>by obtain⟨r2,h2⟩:=ls_mem k4 hy;exact ih h2⟩
theorem map_same {α β:Type} {f g:α→β} {l:List α} (h:∀ x∈l,f x=g x):l.map f=l.map g:=List.map_congr_left h
theorem cntE_fits (d:Nat):∀ {d':Nat} {e:Ex},d≤d'→FitsE d e→cntE d' e=cntE d e:=by
 induction d with
 | zero=>intro d' e _ h;exact h.elim
 | succ d ih =>
  intro d' e hd h
  obtain⟨d',rfl⟩:∃ k,d'=k+1:=⟨d'-1,by omega⟩
  rw[cntE,cntE,map_same fun x hx=>ih (by omega) (h x hx)]
theorem dptE_fits (d:Nat):∀ {d':Nat} {e:Ex},d≤d'→FitsE d e→dptE d' e=dptE d e:=by
 induction d with
 | zero=>intro d' e _ h;exact h.elim
 | succ d ih =>
  intro d' e hd h
  obtain⟨d',rfl⟩:∃ k,d'=k+1:=⟨d'-1,by omega⟩
  rw[dptE,dptE,map_same fun x hx=>ih (by omega) (h x hx)]
theorem cntS_fits (d:Nat):∀ {d':Nat} {e:St},d≤d'→FitsS d e→cntS d' e=cntS d e:=by
 induction d with
 | zero=>intro d' e _ h;exact h.elim
 | succ d ih =>
  intro d' e hd h
  obtain⟨d',rfl⟩:∃ k,d'=k+1:=⟨d'-1,by omega⟩
  rw[cntS,cntS,map_same fun x hx=>cntE_fits d (by omega) (h.1 x hx),map_same fun x hx=>ih (by omega) (h.2.1 x hx),map_same fun x hx=>ih (by omega) (h.2.2 x hx)]
theorem dptS_fits (d:Nat):∀ {d':Nat} {e:St},d≤d'→FitsS d e→dptS d' e=dptS d e:=by
 induction d with
 | zero=>intro d' e _ h;exact h.elim
 | succ d ih =>
  intro d' e hd h
  obtain⟨d',rfl⟩:∃ k,d'=k+1:=⟨d'-1,by omega⟩
  rw[dptS,dptS,map_same fun x hx=>dptE_fits d (by omega) (h.1 x hx),map_same fun x hx=>ih (by omega) (h.2.1 x hx),map_same fun x hx=>ih (by omega) (h.2.2 x hx)]
end Go.Afx
namespace Go.Afx
open Go.RowKit
def tellN (N H:Nat):Int×Int:=if 1000≤N then (1000,1000) else (N,H)
def tellE (e:Ex):Int×Int:=tellN (cntE 50 e) (dptE 50 e)
def tellS (x:St):Int×Int:=tellN (cntS 101 x) (dptS 101 x)
def sumT (l:List (Int×Int)):Int:=(l.map (·.1)).sum
def topT (l:List (Int×Int)):Int:=l.foldl (fun m t=>max m (t.2+1)) 1
theorem sumT_snoc (l:List (Int×Int)) (t:Int×Int):sumT (l++[t])=sumT l+t.1:=by simp[sumT]
theorem topT_snoc (l:List (Int×Int)) (t:Int×Int):topT (l++[t])=max (topT l) (t.2+1):=by simp[topT]
theorem sumT_app (a b:List (Int×Int)):sumT (a++b)=sumT a+sumT b:=by simp[sumT]
theorem fold_max (l:List (Int×Int)):∀ m n:Int,l.foldl (fun m t=>max m (t.2+1)) (max m n)=max m (l.foldl (fun m t=>max m (t.2+1)) n):=by
 induction l with
 | nil=>intro m n;rfl
 | cons a r ih=>intro m n;rw[List.foldl_cons,List.foldl_cons,← ih,Int.max_assoc]
theorem topT_ge (l:List (Int×Int)):∀ m:Int,m≤l.foldl (fun m t=>max m (t.2+1)) m:=by
 induction l with
 | nil=>intro m;exact Int.le_refl _
 | cons a r ih=>intro m;rw[List.foldl_cons];have:=ih (max m (a.2+1));omega
theorem topT_app (a b:List (Int×Int)):topT (a++b)=max (topT a) (topT b):=by
 unfold topT
 rw[List.foldl_append]
 have h:=topT_ge a 1
 have e:a.foldl (fun m t=>max m (t.2+1)) 1=max (a.foldl (fun m t=>max m (t.2+1)) 1) 1:=by omega
 rw[e,fold_max,← e]
def Tok (t:Int×Int):Prop:=0≤t.1∧t.1≤1000∧0≤t.2∧t.2≤1000
theorem tellN_ok {N H:Nat} (h:H≤900):Tok (tellN N H):=by
 unfold tellN Tok;split<;>simp<;>omega
theorem tellE_ok (e:Ex):Tok (tellE e):=tellN_ok (by have:=dptE_le 50 e;omega)
theorem tellS_ok (x:St):Tok (tellS x):=tellN_ok (by have:=dptS_le 101 x;omega)
theorem tok_okI {t:Int×Int} (h:Tok t):okI t.1∧okI t.2:=by
 unfold Tok at h;unfold okI;omega
theorem sumT_bd {l:List (Int×Int)} (h:∀ t∈l,Tok t):0≤sumT l∧sumT l≤1000*l.length:=by
 induction l with
 | nil=>simp[sumT]
 | cons a r ih =>
  have h1:=h a (by simp)
  have h2:=ih fun t ht=>h t (by simp[ht])
  unfold Tok at h1
  have e:sumT (a::r)=a.1+sumT r:=by simp[sumT]
  rw[e,List.length_cons]
  omega
theorem topT_le {l:List (Int×Int)} {b:Int} (h:∀ t∈l,t.2+1≤b):∀ m:Int,m≤b→l.foldl (fun m t=>max m (t.2+1)) m≤b:=by
 induction l with
 | nil=>intro m hm;exact hm
 | cons a r ih=>intro m hm;rw[List.foldl_cons];exact ih (fun t ht=>h t (by simp[ht])) _ (by have:=h a (by simp);omega)
theorem topT_bd {l:List (Int×Int)} (h:∀ t∈l,Tok t):1≤topT l∧topT l≤1001 :=
 ⟨topT_ge l 1,topT_le (fun t ht=>by have:=(h t ht).2.2.2;omega) 1 (by omega)⟩
theorem tells_all {P:List (Nat×Nat)} (h:∀ p∈P,p.2≤900):toldZ (1+sumT (P.map fun p=>tellN p.1 p.2),topT (P.map fun p=>tellN p.1 p.2))=tellN (1+(P.map (·.1)).sum) (1+maxN (P.map (·.2))):=by
 have hn:∀ Q:List (Nat×Nat),(∀ p∈Q,p.1<1000)→sumT (Q.map fun p=>tellN p.1 p.2)=((Q.map (·.1)).sum:Nat)∧∀ m:Nat,(Q.map fun p=>tellN p.1 p.2).foldl (fun m t=>max m (t.2+1)) ((m:Int)+1)=((1+max m (maxN (Q.map (·.2))):Nat):Int):=by
  intro Q
  induction Q with
  | nil=>intro _;exact⟨by simp[sumT],fun m=>by simp[maxN];omega⟩
  | cons a r ih =>
   intro hq
   obtain⟨i1,i2⟩:=ih fun p hp=>hq p (by simp[hp])
   have ha:tellN a.1 a.2=((a.1:Int),(a.2:Int)):=by have:=hq a (by simp);unfold tellN;rw[if_neg (by omega)]
   refine⟨?_,fun m=>?_⟩
   ·simp only[List.map_cons,List.sum_cons,ha]
    have e:sumT (((a.1:Int),(a.2:Int))::r.map fun p=>tellN p.1 p.2)=a.1+sumT (r.map fun p=>tellN p.1 p.2):=by simp[sumT]
    rw[e,i1];omega
   ·simp only[List.map_cons,List.foldl_cons,ha]
    have e:max ((m:Int)+1) ((a.2:Int)+1)=((max m a.2:Nat):Int)+1:=by omega
    rw[e,i2,maxN_cons]
    omega
 by_cases hall:∀ p∈P,p.1<1000
 ·obtain⟨h1,h2⟩:=hn P hall
  have h3:=h2 0
  simp only[Nat.zero_max,Int.natCast_zero,Int.zero_add] at h3
  have h4:maxN (P.map (·.2))≤900:=maxN_le fun x hx=>by obtain⟨p,hp,rfl⟩:=List.mem_map.1 hx;exact h p hp
  have h5:topT (P.map fun p=>tellN p.1 p.2)=((1+maxN (P.map (·.2)):Nat):Int):=h3
  rw[h1,h5]
  unfold toldZ fullZ tellN
  by_cases hN:1000≤1+(P.map (·.1)).sum
  ·rw[if_pos hN,if_pos]
   simp;omega
  ·rw[if_neg hN,if_neg]
   ·simp
   ·simp;omega
 ·have hall:∃ p∈P,1000≤p.1:=by
   apply Classical.byContradiction
   intro hc
   exact hall fun p hp=>by
    apply Classical.byContradiction
    intro h1
    exact hc ⟨p,hp,by omega⟩
  obtain⟨p,hp,hp1⟩:=hall
  have h1:1000≤(P.map (·.1)).sum:=by
   have:∀ Q:List (Nat×Nat),p∈Q→p.1≤(Q.map (·.1)).sum:=by
    intro Q
    induction Q with
    | nil=>intro h;cases h
    | cons a r ih =>
     intro h
     rw[List.map_cons,List.sum_cons]
     rcases List.mem_cons.1 h with rfl|h
     ·omega
     ·have:=ih h;omega
   have:=this P hp
   omega
  have hok:∀ t∈P.map (fun p=>tellN p.1 p.2),Tok t:=fun t ht=>by obtain⟨q,hq,rfl⟩:=List.mem_map.1 ht;exact tellN_ok (h q hq)
  have h2:1000≤sumT (P.map fun p=>tellN p.1 p.2):=by
   have:∀ Q:List (Int×Int),(∀ t∈Q,Tok t)→(1000,1000)∈Q→1000≤sumT Q:=by
    intro Q
    induction Q with
    | nil=>intro _ h;cases h
    | cons a r ih =>
     intro hq h
     have e:sumT (a::r)=a.1+sumT r:=by simp[sumT]
     rw[e]
     have b:=(sumT_bd fun t ht=>hq t (List.mem_cons_of_mem _ ht)).1
     rcases List.mem_cons.1 h with rfl|h
     ·show (1000:Int)≤1000+sumT r;omega
     ·have a1:=(hq a (by simp)).1
      have:=ih (fun t ht=>hq t (by simp[ht])) h
      omega
   exact this _ hok (List.mem_map.2 ⟨p,hp,if_pos hp1⟩)
  unfold toldZ fullZ tellN at *
  rw[if_pos (by simp;omega),if_pos (by omega)]
theorem tell_mkE {op n:Int} {s name src:ByteArray} {args:List Ex} (h:∀ a∈args,FitsE 49 a):toldZ (1+sumT (args.map tellE),topT (args.map tellE))=tellE (.mk op n s name src args):=by
 have h1:=tells_all (P:=args.map fun a=>(cntE 50 a,dptE 50 a)) (fun p hp=>by obtain⟨a,_,rfl⟩:=List.mem_map.1 hp;have:=dptE_le 50 a;simp only;omega)
 rw[List.map_map,List.map_map,List.map_map] at h1
 have e1:args.map ((fun p:Nat×Nat=>tellN p.1 p.2) ∘ fun a=>(cntE 50 a,dptE 50 a))=args.map tellE:=rfl
 have e2:args.map ((fun p:Nat×Nat=>p.1) ∘ fun a=>(cntE 50 a,dptE 50 a))=args.map (cntE 49):=map_same fun a ha=>cntE_fits 49 (by omega) (h a ha)
 have e3:args.map ((fun p:Nat×Nat=>p.2) ∘ fun a=>(cntE 50 a,dptE 50 a))=args.map (dptE 49):=map_same fun a ha=>dptE_fits 49 (by omega) (h a ha)
 rw[e1,e2,e3] at h1
 exact h1
theorem sum_app3 (a b c:List Nat):(a++b++c).sum=a.sum+b.sum+c.sum:=by simp;omega
theorem maxN_app (a b:List Nat):maxN (a++b)=max (maxN a) (maxN b):=by
 induction a with
 | nil=>simp[maxN]
 | cons x r ih=>rw[List.cons_append,maxN_cons,maxN_cons,ih];omega
theorem tell_mkS {op n:Int} {name src:ByteArray} {cols:List ByteArray} {exprs:List Ex} {body els:List St} (he:∀ a∈exprs,FitsE 50 a) (hb:∀ a∈body,FitsS 100 a) (hl:∀ a∈els,FitsS 100 a) :
  toldZ (1+(sumT (exprs.map tellE)+sumT (body.map tellS)+sumT (els.map tellS)),max (max (topT (exprs.map tellE)) (topT (body.map tellS))) (topT (els.map tellS)))=tellS (.mk op name src n cols exprs body els):=by
 rw[← sumT_app,← sumT_app,← topT_app,← topT_app]
 have h1:=tells_all (P:=(exprs.map fun a=>(cntE 50 a,dptE 50 a))++(body.map fun a=>(cntS 101 a,dptS 101 a))++(els.map fun a=>(cntS 101 a,dptS 101 a))) (fun p hp=>by
  rcases List.mem_append.1 hp with hp|hp
  ·rcases List.mem_append.1 hp with hp|hp
   ·obtain⟨a,_,rfl⟩:=List.mem_map.1 hp;have:=dptE_le 50 a;simp only;omega
   ·obtain⟨a,_,rfl⟩:=List.mem_map.1 hp;have:=dptS_le 101 a;simp only;omega
  ·obtain⟨a,_,rfl⟩:=List.mem_map.1 hp;have:=dptS_le 101 a;simp only;omega)
 simp only[List.map_append,List.map_map] at h1
 rw[sum_app3,maxN_app,maxN_app] at h1
 have e1:exprs.map ((fun p:Nat×Nat=>tellN p.1 p.2) ∘ fun a=>(cntE 50 a,dptE 50 a))=exprs.map tellE:=rfl
 have f1:body.map ((fun p:Nat×Nat=>tellN p.1 p.2) ∘ fun a=>(cntS 101 a,dptS 101 a))=body.map tellS:=rfl
 have f2:els.map ((fun p:Nat×Nat=>tellN p.1 p.2) ∘ fun a=>(cntS 101 a,dptS 101 a))=els.map tellS:=rfl
 have e2:exprs.map ((fun p:Nat×Nat=>p.1) ∘ fun a=>(cntE 50 a,dptE 50 a))=exprs.map (cntE 100):=map_same fun a ha=>(cntE_fits 50 (by omega) (he a ha)).symm
 have e3:exprs.map ((fun p:Nat×Nat=>p.2) ∘ fun a=>(cntE 50 a,dptE 50 a))=exprs.map (dptE 100):=map_same fun a ha=>(dptE_fits 50 (by omega) (he a ha)).symm
 have g2:body.map ((fun p:Nat×Nat=>p.1) ∘ fun a=>(cntS 101 a,dptS 101 a))=body.map (cntS 100):=map_same fun a ha=>cntS_fits 100 (by omega) (hb a ha)
 have g3:body.map ((fun p:Nat×Nat=>p.2) ∘ fun a=>(cntS 101 a,dptS 101 a))=body.map (dptS 100):=map_same fun a ha=>dptS_fits 100 (by omega) (hb a ha)
 have k2:els.map ((fun p:Nat×Nat=>p.1) ∘ fun a=>(cntS 101 a,dptS 101 a))=els.map (cntS 100):=map_same fun a ha=>cntS_fits 100 (by omega) (hl a ha)
 have k3:els.map ((fun p:Nat×Nat=>p.2) ∘ fun a=>(cntS 101 a,dptS 101 a))=els.map (dptS 100):=map_same fun a ha=>dptS_fits 100 (by omega) (hl a ha)
 rw[e1,f1,f2,e2,e3,g2,g3,k2,k3] at h1
 rw[h1]
 unfold tellS
 rw[cntS,dptS]
 simp only[St.exprs,St.body,St.els]
 congr 1
 omega
end Go.Afx
namespace Go.Proofs.YtdgapmnojmhllaaGreatDoor
open Go.RowKit Go.Afx
def inB (s:ByteArray) (c:UInt8):Bool:=s.data.toList.any fun x=>x==c
def headR (op n:Int) (s name src:ByteArray) (l:Nat):Bool:=decide (arityB op=(l:Int))&&fieldsR op n s name src
theorem headR_1 {n:Int} {s name src:ByteArray} {l:Nat}:headR 1 n s name src l=(decide (l=0)&&(decide (0≤n)&&noS s&&noS name&&noS src)):=by
 have ha:arityB 1=0:=rfl
 have hf:fieldsR 1 n s name src=(decide (0≤n)&&noS s&&noS name&&noS src):=rfl
 rw[headR,ha,hf]
 congr 1
 rw[decide_eq_decide];omega
theorem headR_2 {n:Int} {s name src:ByteArray} {l:Nat}:headR 2 n s name src l=(decide (l=0)&&(decide (s.size≤200)&&decide (n=0)&&noS name&&noS src)):=by
 have ha:arityB 2=0:=rfl
 have hf:fieldsR 2 n s name src=(decide (s.size≤200)&&decide (n=0)&&noS name&&noS src):=rfl
 rw[headR,ha,hf]
 congr 1
 rw[decide_eq_decide];omega
theorem headR_3 {n:Int} {s name src:ByteArray} {l:Nat}:headR 3 n s name src l=(decide (l=0)&&((decide (n=0)||decide (n=1))&&noS s&&noS name&&noS src)):=by
 have ha:arityB 3=0:=rfl
 have hf:fieldsR 3 n s name src=((decide (n=0)||decide (n=1))&&noS s&&noS name&&noS src):=rfl
 rw[headR,ha,hf]
 congr 1
 rw[decide_eq_decide];omega
theorem headR_4 {n:Int} {s name src:ByteArray} {l:Nat}:headR 4 n s name src l=(decide (l=0)&&(freeB name&&decide (n=0)&&noS s&&noS src)):=by
 have ha:arityB 4=0:=rfl
 have hf:fieldsR 4 n s name src=(freeB name&&decide (n=0)&&noS s&&noS src):=rfl
 rw[headR,ha,hf]
 congr 1
 rw[decide_eq_decide];omega
theorem headR_5 {n:Int} {s name src:ByteArray} {l:Nat}:headR 5 n s name src l=(decide (l=0)&&(freeB name&&freeB s&&decide (n=0)&&noS src)):=by
 have ha:arityB 5=0:=rfl
 have hf:fieldsR 5 n s name src=(freeB name&&freeB s&&decide (n=0)&&noS src):=rfl
 rw[headR,ha,hf]
 congr 1
 rw[decide_eq_decide];omega
theorem headR_21 {n:Int} {s name src:ByteArray} {l:Nat}:headR 21 n s name src l=(decide (l=1)&&(freeB name&&freeB src&&decide (n=0)&&noS s)):=by
 have ha:arityB 21=1:=rfl
 have hf:fieldsR 21 n s name src=(freeB name&&freeB src&&decide (n=0)&&noS s):=rfl
 rw[headR,ha,hf]
 congr 1
 rw[decide_eq_decide];omega
theorem headR_r {n:Int} {s name src:ByteArray} {l:Nat} (op:Int) (h:22≤op) (h':op≤24):headR op n s name src l=(decide (l=2)&&(freeB name&&freeB src&&decide (n=0)&&noS s)):=by
 have ha:arityB op=2:=by unfold arityB;repeat (first|rw[if_pos (by omega)]|rw[if_neg (by omega)])
 have hf:fieldsR op n s name src=(freeB name&&freeB src&&decide (n=0)&&noS s):=by
  unfold fieldsR
  have hr:rowsB op=true:=by simp[rowsB];omega
  repeat (rw[if_neg (by omega)])
  rw[if_pos hr]
 rw[headR,ha,hf]
 congr 1
 rw[decide_eq_decide];omega
theorem headR_t {n:Int} {s name src:ByteArray} {l:Nat} (op:Int) (h:6≤op) (h':op≤18):headR op n s name src l=(decide (l=2)&&(decide (n=0)&&noS s&&noS name&&noS src)):=by
 have ha:arityB op=2:=by unfold arityB;repeat (first|rw[if_pos (by omega)]|rw[if_neg (by omega)])
 have hf:fieldsR op n s name src=(decide (n=0)&&noS s&&noS name&&noS src):=by
  unfold fieldsR
  have hr:rowsB op=false:=by simp[rowsB];omega
  repeat (rw[if_neg (by omega)])
  rw[hr];rfl
 rw[headR,ha,hf]
 congr 1
 rw[decide_eq_decide];omega
theorem headR_19 {n:Int} {s name src:ByteArray} {l:Nat}:headR 19 n s name src l=(decide (l=1)&&(decide (n=0)&&noS s&&noS name&&noS src)):=by
 have ha:arityB 19=1:=rfl
 have hf:fieldsR 19 n s name src=(decide (n=0)&&noS s&&noS name&&noS src):=rfl
 rw[headR,ha,hf]
 congr 1
 rw[decide_eq_decide];omega
theorem headR_20 {n:Int} {s name src:ByteArray} {l:Nat}:headR 20 n s name src l=(decide (l=1)&&(decide (n=0)&&noS s&&noS name&&noS src)):=by
 have ha:arityB 20=1:=rfl
 have hf:fieldsR 20 n s name src=(decide (n=0)&&noS s&&noS name&&noS src):=rfl
 rw[headR,ha,hf]
 congr 1
 rw[decide_eq_decide];omega
theorem set_other {w:World} {g i:Nat} {u:Value} {p:Addr} (h:p.block≠g):(w.setCell ⟨g,i,none⟩ u).cell? p=w.cell? p:=World.cell?_of_block (Below.heap_setCell _ _ _ _ h)
def RBuilts (F:Nat→Prop) (d:Nat):Prop:=∀ (e:Ex) (row:List Value) (w:World),ExAt F d w row e →
 Calls Tryz.prog 30 #[.agg row.toArray] w fun x w'=>x=.returned (.bool (builtE d e))∧Below w.heap.size w w'
theorem str_neq {s:ByteArray} (h:noS s=false):s.toList.isEmpty=false∧(s.toList==[])=false∧(s.toList !=[])=true:=by
 have h1:=str_some h
 cases hq:s.toList<;>simp_all
theorem z_yes {n:Int} (h:decide (n=0)=true):(n==0)=true∧(n !=0)=false:=by simpa using h
theorem z_no {n:Int} (h:decide (n=0)=false):(n==0)=false∧(n !=0)=true:=by simpa using h
theorem n0_yes {n:Int} (h:decide (0≤n)=true):max n 0=n:=by simp at h;omega
theorem n0_no {n:Int} (h:decide (0≤n)=false):max n 0=0∧(n !=0)=true:=by simp at h ⊢;omega
theorem n01_yes {n:Int} (h:(decide (n=0)||decide (n=1))=true):max n 0=n∧min n 1=n:=by simp at h;omega
theorem n01_no {n:Int} (h:(decide (n=0)||decide (n=1))=false):(n !=min (max n 0) 1)=true:=by simp at h ⊢;omega
theorem s2_yes {s:ByteArray} (h:decide (s.size≤200)=true):decide ((200:Int)<(s.size:Int))=false:=by simp at h ⊢;omega
theorem s2_no {s:ByteArray} (h:decide (s.size≤200)=false):decide ((200:Int)<(s.size:Int))=true:=by simp at h ⊢;omega
theorem l0_no {m:Nat} (h:decide (m=0)=false):((m:Int) !=0)=true:=by simp at h ⊢;omega
theorem l1_no {m:Nat} (h:decide (m=1)=false):((m:Int) !=1)=true:=by simp at h ⊢;omega
theorem l2_no {m:Nat} (h:decide (m=2)=false):((m:Int) !=2)=true:=by simp at h ⊢;omega
theorem rbuilt_1_5  (n:Int) (s name src:ByteArray) (A:Option Addr) (m c:Nat) (args:List Ex) (w:World) (d:Nat) (ha:args.length=m) (t0:decide (0≤n)=true) (t1:noS s=true) (t2:noS name=true) (t3:noS src=true) (t4:decide (m=0)=true) :
  Calls Tryz.prog 30 #[.agg #[.int .i64 1,.int .i64 n,.string s,.string name,.string src,.slice A m c]] w fun x w'=>x=.returned (.bool (headR 1 n s name src args.length&&args.all (builtE d)))∧Below w.heap.size w w':=by
 have hfin:headR 1 n s name src args.length=true:=by
  rw[ha,headR_1 ]
  simp[t0,t1,t2,t3,t4]
 have Hfin:=Lhd hfin
 clear hfin
 have t0b:max n 0=n:=by simp at t0;omega
 clear t0
 replace t1:=str_empty t1
 replace t2:=str_empty t2
 replace t3:=str_empty t3
 have t4b:m=0:=by simpa using t4
 have hmb:m≤1000:=by omega
 have Hm:=Lhd t4b
 have t4c:((m:Int) !=0)=false:=by simp;omega
 clear t4b t4
 obtain⟨w2,Hw2⟩:∃ w2,Hid (w2=(w.alloc (.cells #[.int .i64 1,.int .i64 n,.string s,.string name,.string src,.slice A m c] 32)).alloc (.cells #[.int .i64 1,.int .i64 0,.string { data:=#[] },.string { data:=#[] },.string { data:=#[] },.slice none 0 0] 32)):=⟨_,rfl⟩
 have hR:Below w.heap.size w w2:=by rw[Hw2.out];exact((Below.refl _ _).alloc (Nat.le_refl _) _).alloc (by simp) _
 have he2:IsBlk w2 w.heap.size 32 #[.int .i64 1,.int .i64 n,.string s,.string name,.string src,.slice A m c]:=by rw[Hw2.out];exact(IsBlk.laid _ _ _).alloc _
 have hw2:IsBlk w2 (w.heap.size+1) 32 #[.int .i64 1,.int .i64 0,.string { data:=#[] },.string { data:=#[] },.string { data:=#[] },.slice none 0 0]:=by rw[Hw2.out];exact laid_at (by simp) _ _
 obtain⟨x0,x1,x2,x3,x4,x5,xl⟩:=exBox he2
 obtain⟨y0,y1,y2,y3,y4,y5,hlw⟩:=exBox hw2
 have hfz:=hw2.frozen
 have hA5:=x5
 clear he2 hw2
 have Ha:=Lhd ha
 clear ha
 go_enter Tryz.func30,Tryz.ntmps30
 go_upto_region 2 with (fail)
 rw[← Hw2.out]
 go_wp2_with (first|fail)
 go_loop [5] (fun i=>i=.int .i64 0) (fun _=>0)
 case atStart=>rfl
 case round =>
  obtain rfl:=hrel
  go_wp2
  go_ret
  have h0:args=[]:=List.eq_nil_of_length_eq_zero (by rw[Ha.out];have:=Hm.out;omega)
  subst h0
  exact⟨ret_bool (by rw[Hfin.out];simp),by repeat (first|exact hR|refine Below.setCell ?_ (by simp) _)⟩
theorem rbuiltK_1  (n:Int) (s name src:ByteArray) (A:Option Addr) (m c:Nat) (args:List Ex) (w:World) (F:Nat→Prop) (d:Nat) (hl:ExsAt F d w A m c args) :
  Calls Tryz.prog 30 #[.agg #[.int .i64 1,.int .i64 n,.string s,.string name,.string src,.slice A m c]] w fun x w'=>x=.returned (.bool (headR 1 n s name src args.length&&args.all (builtE d)))∧Below w.heap.size w w':=by
 have ha:=LsAt.len hl
 cases t0:decide (0≤n)
 rotate_left
 cases t1:noS s
 rotate_left
 cases t2:noS name
 rotate_left
 cases t3:noS src
 rotate_left
 cases t4:decide (m=0)
 rotate_left
 exact rbuilt_1_5 n s name src A m c args w d ha t0 t1 t2 t3 t4
 all_goals
  generalize hfin:headR 1 n s name src args.length=fin
  rw[ha,headR_1 ] at hfin
  simp[*] at hfin
  subst hfin
  clear hl ha
  first|replace t0:=n0_yes t0|(obtain⟨t0b,t0c⟩:=n0_no t0;clear t0)|skip
  first|replace t1:=str_empty t1|(have q:=str_neq t1;clear t1;obtain⟨t1,t1b,t1c⟩:=q)|skip
  first|replace t2:=str_empty t2|(have q:=str_neq t2;clear t2;obtain⟨t2,t2b,t2c⟩:=q)|skip
  first|replace t3:=str_empty t3|(have q:=str_neq t3;clear t3;obtain⟨t3,t3b,t3c⟩:=q)|skip
  first|replace t4:=l0_no t4|skip
  obtain⟨w2,Hw2⟩:∃ w2,Hid (w2=(w.alloc (.cells #[.int .i64 1,.int .i64 n,.string s,.string name,.string src,.slice A m c] 32)).alloc (.cells #[.int .i64 1,.int .i64 0,.string { data:=#[] },.string { data:=#[] },.string { data:=#[] },.slice none 0 0] 32)):=⟨_,rfl⟩
  have hR:Below w.heap.size w w2:=by rw[Hw2.out];exact((Below.refl _ _).alloc (Nat.le_refl _) _).alloc (by simp) _
  have he2:IsBlk w2 w.heap.size 32 #[.int .i64 1,.int .i64 n,.string s,.string name,.string src,.slice A m c]:=by rw[Hw2.out];exact(IsBlk.laid _ _ _).alloc _
  have hw2:IsBlk w2 (w.heap.size+1) 32 #[.int .i64 1,.int .i64 0,.string { data:=#[] },.string { data:=#[] },.string { data:=#[] },.slice none 0 0]:=by rw[Hw2.out];exact laid_at (by simp) _ _
  obtain⟨x0,x1,x2,x3,x4,x5,xl⟩:=exBox he2
  obtain⟨y0,y1,y2,y3,y4,y5,hlw⟩:=exBox hw2
  have hfz:=hw2.frozen
  have hA5:=x5
  clear he2 hw2
  go_enter Tryz.func30,Tryz.ntmps30
  go_upto_region 2 with (fail)
  rw[← Hw2.out]
  go_wp2_with (first|fail)
  all_goals
   go_ret
   exact⟨rfl,by repeat (first|exact hR|refine Below.setCell ?_ (by simp) _)⟩
theorem rbuilt_2_5  (n:Int) (s name src:ByteArray) (A:Option Addr) (m c:Nat) (args:List Ex) (w:World) (d:Nat) (ha:args.length=m) (t0:decide (s.size≤200)=true) (t1:decide (n=0)=true) (t2:noS name=true) (t3:noS src=true) (t4:decide (m=0)=true) :
  Calls Tryz.prog 30 #[.agg #[.int .i64 2,.int .i64 n,.string s,.string name,.string src,.slice A m c]] w fun x w'=>x=.returned (.bool (headR 2 n s name src args.length&&args.all (builtE d)))∧Below w.heap.size w w':=by
 have hfin:headR 2 n s name src args.length=true:=by
  rw[ha,headR_2 ]
  simp[t0,t1,t2,t3,t4]
 have Hfin:=Lhd hfin
 clear hfin
 have t0b:decide ((200:Int)<(s.size:Int))=false:=by simp at t0 ⊢;omega
 clear t0
 have t1b:(n==0)=true:=by simpa using t1
 have t1c:(n !=0)=false:=by simpa using t1
 clear t1
 replace t2:=str_empty t2
 replace t3:=str_empty t3
 have t4b:m=0:=by simpa using t4
 have hmb:m≤1000:=by omega
 have Hm:=Lhd t4b
 have t4c:((m:Int) !=0)=false:=by simp;omega
 clear t4b t4
 obtain⟨w2,Hw2⟩:∃ w2,Hid (w2=(w.alloc (.cells #[.int .i64 2,.int .i64 n,.string s,.string name,.string src,.slice A m c] 32)).alloc (.cells #[.int .i64 2,.int .i64 0,.string { data:=#[] },.string { data:=#[] },.string { data:=#[] },.slice none 0 0] 32)):=⟨_,rfl⟩
 have hR:Below w.heap.size w w2:=by rw[Hw2.out];exact((Below.refl _ _).alloc (Nat.le_refl _) _).alloc (by simp) _
 have he2:IsBlk w2 w.heap.size 32 #[.int .i64 2,.int .i64 n,.string s,.string name,.string src,.slice A m c]:=by rw[Hw2.out];exact(IsBlk.laid _ _ _).alloc _
 have hw2:IsBlk w2 (w.heap.size+1) 32 #[.int .i64 2,.int .i64 0,.string { data:=#[] },.string { data:=#[] },.string { data:=#[] },.slice none 0 0]:=by rw[Hw2.out];exact laid_at (by simp) _ _
 obtain⟨x0,x1,x2,x3,x4,x5,xl⟩:=exBox he2
 obtain⟨y0,y1,y2,y3,y4,y5,hlw⟩:=exBox hw2
 have hfz:=hw2.frozen
 have hA5:=x5
 clear he2 hw2
 have Ha:=Lhd ha
 clear ha
 go_enter Tryz.func30,Tryz.ntmps30
 go_upto_region 2 with (fail)
 rw[← Hw2.out]
 go_wp2_with (first|fail)
 go_loop [5] (fun i=>i=.int .i64 0) (fun _=>0)
 case atStart=>rfl
 case round =>
  obtain rfl:=hrel
  go_wp2
  go_ret
  have h0:args=[]:=List.eq_nil_of_length_eq_zero (by rw[Ha.out];have:=Hm.out;omega)
  subst h0
  exact⟨ret_bool (by rw[Hfin.out];simp),by repeat (first|exact hR|refine Below.setCell ?_ (by simp) _)⟩
theorem rbuiltK_2  (n:Int) (s name src:ByteArray) (A:Option Addr) (m c:Nat) (args:List Ex) (w:World) (F:Nat→Prop) (d:Nat) (hl:ExsAt F d w A m c args) :
  Calls Tryz.prog 30 #[.agg #[.int .i64 2,.int .i64 n,.string s,.string name,.string src,.slice A m c]] w fun x w'=>x=.returned (.bool (headR 2 n s name src args.length&&args.all (builtE d)))∧Below w.heap.size w w':=by
 have ha:=LsAt.len hl
 cases t0:decide (s.size≤200)
 rotate_left
 cases t1:decide (n=0)
 rotate_left
 cases t2:noS name
 rotate_left
 cases t3:noS src
 rotate_left
 cases t4:decide (m=0)
 rotate_left
 exact rbuilt_2_5 n s name src A m c args w d ha t0 t1 t2 t3 t4
 all_goals
  generalize hfin:headR 2 n s name src args.length=fin
  rw[ha,headR_2 ] at hfin
  simp[*] at hfin
  subst hfin
  clear hl ha
  first|replace t0:=s2_yes t0|replace t0:=s2_no t0|skip
  first|(obtain⟨t1b,t1c⟩:=z_yes t1;clear t1)|(obtain⟨t1b,t1c⟩:=z_no t1;clear t1)|skip
  first|replace t2:=str_empty t2|(have q:=str_neq t2;clear t2;obtain⟨t2,t2b,t2c⟩:=q)|skip
  first|replace t3:=str_empty t3|(have q:=str_neq t3;clear t3;obtain⟨t3,t3b,t3c⟩:=q)|skip
  first|replace t4:=l0_no t4|skip
  obtain⟨w2,Hw2⟩:∃ w2,Hid (w2=(w.alloc (.cells #[.int .i64 2,.int .i64 n,.string s,.string name,.string src,.slice A m c] 32)).alloc (.cells #[.int .i64 2,.int .i64 0,.string { data:=#[] },.string { data:=#[] },.string { data:=#[] },.slice none 0 0] 32)):=⟨_,rfl⟩
  have hR:Below w.heap.size w w2:=by rw[Hw2.out];exact((Below.refl _ _).alloc (Nat.le_refl _) _).alloc (by simp) _
  have he2:IsBlk w2 w.heap.size 32 #[.int .i64 2,.int .i64 n,.string s,.string name,.string src,.slice A m c]:=by rw[Hw2.out];exact(IsBlk.laid _ _ _).alloc _
  have hw2:IsBlk w2 (w.heap.size+1) 32 #[.int .i64 2,.int .i64 0,.string { data:=#[] },.string { data:=#[] },.string { data:=#[] },.slice none 0 0]:=by rw[Hw2.out];exact laid_at (by simp) _ _
  obtain⟨x0,x1,x2,x3,x4,x5,xl⟩:=exBox he2
  obtain⟨y0,y1,y2,y3,y4,y5,hlw⟩:=exBox hw2
  have hfz:=hw2.frozen
  have hA5:=x5
  clear he2 hw2
  go_enter Tryz.func30,Tryz.ntmps30
  go_upto_region 2 with (fail)
  rw[← Hw2.out]
  go_wp2_with (first|fail)
  all_goals
   go_ret
   exact⟨rfl,by repeat (first|exact hR|refine Below.setCell ?_ (by simp) _)⟩
theorem rbuilt_3_5  (n:Int) (s name src:ByteArray) (A:Option Addr) (m c:Nat) (args:List Ex) (w:World) (d:Nat) (ha:args.length=m) (t0:(decide (n=0)||decide (n=1))=true) (t1:noS s=true) (t2:noS name=true) (t3:noS src=true) (t4:decide (m=0)=true) :
  Calls Tryz.prog 30 #[.agg #[.int .i64 3,.int .i64 n,.string s,.string name,.string src,.slice A m c]] w fun x w'=>x=.returned (.bool (headR 3 n s name src args.length&&args.all (builtE d)))∧Below w.heap.size w w':=by
 have hfin:headR 3 n s name src args.length=true:=by
  rw[ha,headR_3 ]
  simp[t0,t1,t2,t3,t4]
 have Hfin:=Lhd hfin
 clear hfin
 have t0b:max n 0=n:=by simp at t0;omega
 have t0c:min n 1=n:=by simp at t0;omega
 clear t0
 replace t1:=str_empty t1
 replace t2:=str_empty t2
 replace t3:=str_empty t3
 have t4b:m=0:=by simpa using t4
 have hmb:m≤1000:=by omega
 have Hm:=Lhd t4b
 have t4c:((m:Int) !=0)=false:=by simp;omega
 clear t4b t4
 obtain⟨w2,Hw2⟩:∃ w2,Hid (w2=(w.alloc (.cells #[.int .i64 3,.int .i64 n,.string s,.string name,.string src,.slice A m c] 32)).alloc (.cells #[.int .i64 3,.int .i64 0,.string { data:=#[] },.string { data:=#[] },.string { data:=#[] },.slice none 0 0] 32)):=⟨_,rfl⟩
 have hR:Below w.heap.size w w2:=by rw[Hw2.out];exact((Below.refl _ _).alloc (Nat.le_refl _) _).alloc (by simp) _
 have he2:IsBlk w2 w.heap.size 32 #[.int .i64 3,.int .i64 n,.string s,.string name,.string src,.slice A m c]:=by rw[Hw2.out];exact(IsBlk.laid _ _ _).alloc _
 have hw2:IsBlk w2 (w.heap.size+1) 32 #[.int .i64 3,.int .i64 0,.string { data:=#[] },.string { data:=#[] },.string { data:=#[] },.slice none 0 0]:=by rw[Hw2.out];exact laid_at (by simp) _ _
 obtain⟨x0,x1,x2,x3,x4,x5,xl⟩:=exBox he2
 obtain⟨y0,y1,y2,y3,y4,y5,hlw⟩:=exBox hw2
 have hfz:=hw2.frozen
 have hA5:=x5
 clear he2 hw2
 have Ha:=Lhd ha
 clear ha
 go_enter Tryz.func30,Tryz.ntmps30
 go_upto_region 2 with (fail)
 rw[← Hw2.out]
 go_wp2_with (first|fail)
 go_loop [5] (fun i=>i=.int .i64 0) (fun _=>0)
 case atStart=>rfl
 case round =>
  obtain rfl:=hrel
  go_wp2
  go_ret
  have h0:args=[]:=List.eq_nil_of_length_eq_zero (by rw[Ha.out];have:=Hm.out;omega)
  subst h0
  exact⟨ret_bool (by rw[Hfin.out];simp),by repeat (first|exact hR|refine Below.setCell ?_ (by simp) _)⟩
theorem rbuiltK_3  (n:Int) (s name src:ByteArray) (A:Option Addr) (m c:Nat) (args:List Ex) (w:World) (F:Nat→Prop) (d:Nat) (hl:ExsAt F d w A m c args) :
  Calls Tryz.prog 30 #[.agg #[.int .i64 3,.int .i64 n,.string s,.string name,.string src,.slice A m c]] w fun x w'=>x=.returned (.bool (headR 3 n s name src args.length&&args.all (builtE d)))∧Below w.heap.size w w':=by
 have ha:=LsAt.len hl
 cases t0:(decide (n=0)||decide (n=1))
 rotate_left
 cases t1:noS s
 rotate_left
 cases t2:noS name
 rotate_left
 cases t3:noS src
 rotate_left
 cases t4:decide (m=0)
 rotate_left
 exact rbuilt_3_5 n s name src A m c args w d ha t0 t1 t2 t3 t4
 all_goals
  generalize hfin:headR 3 n s name src args.length=fin
  rw[ha,headR_3 ] at hfin
  simp[*] at hfin
  subst hfin
  clear hl ha
  first|(obtain⟨t0b,t0c⟩:=n01_yes t0;clear t0)|replace t0:=n01_no t0|skip
  first|replace t1:=str_empty t1|(have q:=str_neq t1;clear t1;obtain⟨t1,t1b,t1c⟩:=q)|skip
  first|replace t2:=str_empty t2|(have q:=str_neq t2;clear t2;obtain⟨t2,t2b,t2c⟩:=q)|skip
  first|replace t3:=str_empty t3|(have q:=str_neq t3;clear t3;obtain⟨t3,t3b,t3c⟩:=q)|skip
  first|replace t4:=l0_no t4|skip
  obtain⟨w2,Hw2⟩:∃ w2,Hid (w2=(w.alloc (.cells #[.int .i64 3,.int .i64 n,.string s,.string name,.string src,.slice A m c] 32)).alloc (.cells #[.int .i64 3,.int .i64 0,.string { data:=#[] },.string { data:=#[] },.string { data:=#[] },.slice none 0 0] 32)):=⟨_,rfl⟩
  have hR:Below w.heap.size w w2:=by rw[Hw2.out];exact((Below.refl _ _).alloc (Nat.le_refl _) _).alloc (by simp) _
  have he2:IsBlk w2 w.heap.size 32 #[.int .i64 3,.int .i64 n,.string s,.string name,.string src,.slice A m c]:=by rw[Hw2.out];exact(IsBlk.laid _ _ _).alloc _
  have hw2:IsBlk w2 (w.heap.size+1) 32 #[.int .i64 3,.int .i64 0,.string { data:=#[] },.string { data:=#[] },.string { data:=#[] },.slice none 0 0]:=by rw[Hw2.out];exact laid_at (by simp) _ _
  obtain⟨x0,x1,x2,x3,x4,x5,xl⟩:=exBox he2
  obtain⟨y0,y1,y2,y3,y4,y5,hlw⟩:=exBox hw2
  have hfz:=hw2.frozen
  have hA5:=x5
  clear he2 hw2
  go_enter Tryz.func30,Tryz.ntmps30
  go_upto_region 2 with (fail)
  rw[← Hw2.out]
  go_wp2_with (first|fail)
  all_goals
   go_ret
   exact⟨rfl,by repeat (first|exact hR|refine Below.setCell ?_ (by simp) _)⟩
end Go.Proofs.YtdgapmnojmhllaaGreatDoor

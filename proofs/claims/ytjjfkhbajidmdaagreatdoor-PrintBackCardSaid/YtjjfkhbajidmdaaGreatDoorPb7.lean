/- Parts of this proof, one behind the other: RefP, RefX, RefC, RefT. -/
import Derived.Test.YtjjfkhbajidmdaaGreatDoorPb3
import Derived.Test.YtjjfkhbajidmdaaGreatDoorPb2
import Derived.Deep.RegionHeld3
import Derived.Deep.RegionLaw
import Derived.Deep.Cut
set_option maxRecDepth 1000000
set_option maxHeartbeats 40000000
namespace Go.Proofs.YtjjfkhbajidmdaaGreatDoor
open Go.RowKit Go.Afx
theorem Yw (k:Int) (w:World):Calls Tryz.prog 24 #[.int .i64 k,.int .i64 0] w fun x w'=>x=.returned (.int .i64 (-1))∧w=w':=by
 go_enter Tryz.func24,Tryz.ntmps24
 go_wp2
 go_ret
 exact⟨rfl,rfl⟩
theorem xE (k:Int) (n:Nat) (w:World) (hn:n=0):Calls Tryz.prog 24 #[.int .i64 k,.int .i64 (n:Int)] w fun x w'=>x=.returned (.int .i64 (-1))∧w=w':=by
 subst hn
 exact Yw k w
theorem u64_nonneg (k:Int):0≤IntKind.u64.wrap k:=by
 simp only[IntKind.wrap,IntKind.bits,IntKind.signed]
 simp
 omega
def zi (k:Int) (n:Nat):Nat:=n-1-(IntKind.u64.wrap k % (n:Int)).toNat
theorem wI (k:Int) (n:Nat) (h:0<n):zi k n<n:=by unfold zi;omega
theorem PZ (k:Int) (n:Nat) (h0:0<n) (h1:n≤1000):wrap64 ((n:Int)-1-wrap64 ((IntKind.u64.wrap k).tmod (n:Int)))=(zi k n:Int):=by
 have hu:=u64_nonneg k
 unfold zi
 generalize IntKind.u64.wrap k=u at *
 rw[Int.tmod_eq_emod_of_nonneg hu]
 have a:=Int.emod_nonneg u (b:=(n:Int)) (by omega)
 have b:=Int.emod_lt_of_pos u (b:=(n:Int)) (by omega)
 generalize u % (n:Int)=m at *
 rw[IntWalk.wrap64_in m ⟨by omega,by omega⟩,IntWalk.wrap64_in _ ⟨by omega,by omega⟩]
 omega
theorem yg (k:Int) (n:Nat) (w:World) (h0:0<n) (h1:n≤1000):Calls Tryz.prog 24 #[.int .i64 k,.int .i64 (n:Int)] w fun x w'=>x=.returned (.int .i64 (zi k n:Int))∧w=w':=by
 have hd:((n:Int)==0)=false:=by simp;omega
 go_enter Tryz.func24,Tryz.ntmps24
 go_wp2
 go_ret
 exact⟨Am (PZ k n h0 h1),rfl⟩
theorem EG (n d:Int) (w:World):Calls Tryz.prog 11 #[.int .i64 n,.int .i64 d] w fun x w'=>x=.returned (.tuple #[.int .i64 (rP (n,d)).1,.int .i64 (rP (n,d)).2])∧w=w':=by
 by_cases h1:1000≤n
 ·have hf:rP (n,d)=(1000,1000):=by simp[rP,vP,h1]
  have Hf:=ae hf
  have hd:decide ((1000:Int)≤n)=true:=by simpa using h1
  clear hf
  go_enter Tryz.func11,Tryz.ntmps11
  go_wp2
  go_ret2
  exact⟨by rw[Hf.out];rfl,rfl⟩
 ·have hd:decide ((1000:Int)≤n)=false:=by simpa using h1
  by_cases h2:1000≤d
  ·have hf:rP (n,d)=(1000,1000):=by simp[rP,vP,h2]
   have Hf:=ae hf
   have hd2:decide ((1000:Int)≤d)=true:=by simpa using h2
   clear hf
   go_enter Tryz.func11,Tryz.ntmps11
   go_wp2
   go_ret2
   exact⟨by rw[Hf.out];rfl,rfl⟩
  ·have hd2:decide ((1000:Int)≤d)=false:=by simpa using h2
   have hf:rP (n,d)=(n,d):=by simp[rP,vP,h1,h2]
   have Hf:=ae hf
   clear hf
   go_enter Tryz.func11,Tryz.ntmps11
   go_wp2
   go_ret2
   exact⟨by rw[Hf.out];rfl,rfl⟩
end Go.Proofs.YtjjfkhbajidmdaaGreatDoor
namespace Go.Afx
open Go.RowKit
def uS:Nat→Ex→Prop
 | 0,_=>False
 | d+1,e=>∀ x∈e.args,uS d x
def Ez:Nat→St→Prop
 | 0,_=>False
 | d+1,x=>(∀ y∈x.exprs,uS d y)∧(∀ y∈x.body,Ez d y)∧(∀ y∈x.els,Ez d y)
theorem uS.mono (d:Nat):∀ {d':Nat} {e:Ex},d≤d'→uS d e→uS d' e:=by
 induction d with
 | zero=>intro d' e _ h;exact h.elim
 | succ d ih =>
  intro d' e hd h
  obtain⟨d',rfl⟩:∃ k,d'=k+1:=⟨d'-1,by omega⟩
  exact fun x hx=>ih (by omega) (h x hx)
theorem uw {α:Type} {F:Nat→Prop} {w:World} {sz:Nat} {P:List Value→α→Prop} {A:Option Addr} {n c:Nat} {xs:List α} (h:ai F w sz P A n c xs) {x:α} (hx:x∈xs):∃ r,P r x:=by
 obtain⟨rows,_,_,hl,hp⟩:=h
 obtain⟨k,hk⟩:=List.mem_iff_getElem?.1 hx
 have hlt:=(List.getElem?_eq_some_iff.1 hk).1
 exact⟨_,(hp k _ x (List.getElem?_eq_getElem (by omega)) hk).2⟩
theorem aC.fits {F:Nat→Prop} {w:World} (d:Nat):∀ {r:List Value} {e:Ex},aC F d w r e→uS d e:=by
 induction d with
 | zero=>intro r e h;exact h.elim
 | succ d ih =>
  intro r e h x hx
  obtain⟨_,_,_,_,_,A,m,c,_,hl⟩:=h
  obtain⟨r2,h2⟩:=uw hl hx
  exact ih h2
theorem bQ.fits {F:Nat→Prop} {w:World} (d:Nat):∀ {r:List Value} {e:St},bQ F d w r e→Ez d e:=by
 induction d with
 | zero=>intro r e h;exact h.elim
 | succ d ih =>
  intro r e h
  obtain⟨_,_,_,_,Ac,nc,cc,Ae,ne,ce,Ab,nb,cb,Al,nl,cl,_,_,k2,k3,k4⟩:=h
  exact⟨fun y hy=>by obtain⟨r2,h2⟩:=uw k2 hy;exact h2.fits d,fun y hy=>by obtain⟨r2,h2⟩:=uw k3 hy;exact ih h2,fun y hy=>by obtain⟨r2,h2⟩:=uw k4 hy;exact ih h2⟩
theorem gJ {α β:Type} {f g:α→β} {l:List α} (h:∀ x∈l,f x=g x):l.map f=l.map g:=List.map_congr_left h
theorem Ff (d:Nat):∀ {d':Nat} {e:Ex},d≤d'→uS d e→iI d' e=iI d e:=by
 induction d with
 | zero=>intro d' e _ h;exact h.elim
 | succ d ih =>
  intro d' e hd h
  obtain⟨d',rfl⟩:∃ k,d'=k+1:=⟨d'-1,by omega⟩
  rw[iI,iI,gJ fun x hx=>ih (by omega) (h x hx)]
theorem Fg (d:Nat):∀ {d':Nat} {e:Ex},d≤d'→uS d e→dQ d' e=dQ d e:=by
 induction d with
 | zero=>intro d' e _ h;exact h.elim
 | succ d ih =>
  intro d' e hd h
  obtain⟨d',rfl⟩:∃ k,d'=k+1:=⟨d'-1,by omega⟩
  rw[dQ,dQ,gJ fun x hx=>ih (by omega) (h x hx)]
theorem LU (d:Nat):∀ {d':Nat} {e:St},d≤d'→Ez d e→lJ d' e=lJ d e:=by
 induction d with
 | zero=>intro d' e _ h;exact h.elim
 | succ d ih =>
  intro d' e hd h
  obtain⟨d',rfl⟩:∃ k,d'=k+1:=⟨d'-1,by omega⟩
  rw[lJ,lJ,gJ fun x hx=>Ff d (by omega) (h.1 x hx),gJ fun x hx=>ih (by omega) (h.2.1 x hx),gJ fun x hx=>ih (by omega) (h.2.2 x hx)]
theorem LV (d:Nat):∀ {d':Nat} {e:St},d≤d'→Ez d e→dN d' e=dN d e:=by
 induction d with
 | zero=>intro d' e _ h;exact h.elim
 | succ d ih =>
  intro d' e hd h
  obtain⟨d',rfl⟩:∃ k,d'=k+1:=⟨d'-1,by omega⟩
  rw[dN,dN,gJ fun x hx=>Fg d (by omega) (h.1 x hx),gJ fun x hx=>ih (by omega) (h.2.1 x hx),gJ fun x hx=>ih (by omega) (h.2.2 x hx)]
end Go.Afx
namespace Go.Afx
open Go.RowKit
def jP (N H:Nat):Int×Int:=if 1000≤N then (1000,1000) else (N,H)
def bZ (e:Ex):Int×Int:=jP (iI 50 e) (dQ 50 e)
def aX (x:St):Int×Int:=jP (lJ 101 x) (dN 101 x)
def sumT (l:List (Int×Int)):Int:=(l.map (·.1)).sum
def iU (l:List (Int×Int)):Int:=l.foldl (fun m t=>max m (t.2+1)) 1
theorem sumT_snoc (l:List (Int×Int)) (t:Int×Int):sumT (l++[t])=sumT l+t.1:=by simp[sumT]
theorem yh (l:List (Int×Int)) (t:Int×Int):iU (l++[t])=max (iU l) (t.2+1):=by simp[iU]
theorem RS (a b:List (Int×Int)):sumT (a++b)=sumT a+sumT b:=by simp[sumT]
theorem acX (l:List (Int×Int)):∀ m n:Int,l.foldl (fun m t=>max m (t.2+1)) (max m n)=max m (l.foldl (fun m t=>max m (t.2+1)) n):=by
 induction l with
 | nil=>intro m n;rfl
 | cons a r ih=>intro m n;rw[List.foldl_cons,List.foldl_cons,← ih,Int.max_assoc]
theorem Ws (l:List (Int×Int)):∀ m:Int,m≤l.foldl (fun m t=>max m (t.2+1)) m:=by
 induction l with
 | nil=>intro m;exact Int.le_refl _
 | cons a r ih=>intro m;rw[List.foldl_cons];have:=ih (max m (a.2+1));omega
theorem RU (a b:List (Int×Int)):iU (a++b)=max (iU a) (iU b):=by
 unfold iU
 rw[List.foldl_append]
 have h:=Ws a 1
 have e:a.foldl (fun m t=>max m (t.2+1)) 1=max (a.foldl (fun m t=>max m (t.2+1)) 1) 1:=by omega
 rw[e,acX,← e]
def Tok (t:Int×Int):Prop:=0≤t.1∧t.1≤1000∧0≤t.2∧t.2≤1000
theorem JX {N H:Nat} (h:H≤900):Tok (jP N H):=by
 unfold jP Tok;split<;>simp<;>omega
theorem kH (e:Ex):Tok (bZ e):=JX (by have:=DD 50 e;omega)
theorem iy (x:St):Tok (aX x):=JX (by have:=Ik 101 x;omega)
theorem Wu {t:Int×Int} (h:Tok t):okI t.1∧okI t.2:=by
 unfold Tok at h;unfold okI;omega
theorem Dj {l:List (Int×Int)} (h:∀ t∈l,Tok t):0≤sumT l∧sumT l≤1000*l.length:=by
 induction l with
 | nil=>simp[sumT]
 | cons a r ih =>
  have h1:=h a (by simp)
  have h2:=ih fun t ht=>h t (by simp[ht])
  unfold Tok at h1
  have e:sumT (a::r)=a.1+sumT r:=by simp[sumT]
  rw[e,List.length_cons]
  omega
theorem afj {l:List (Int×Int)} {b:Int} (h:∀ t∈l,t.2+1≤b):∀ m:Int,m≤b→l.foldl (fun m t=>max m (t.2+1)) m≤b:=by
 induction l with
 | nil=>intro m hm;exact hm
 | cons a r ih=>intro m hm;rw[List.foldl_cons];exact ih (fun t ht=>h t (by simp[ht])) _ (by have:=h a (by simp);omega)
theorem ng {l:List (Int×Int)} (h:∀ t∈l,Tok t):1≤iU l∧iU l≤1001 :=
 ⟨Ws l 1,afj (fun t ht=>by have:=(h t ht).2.2.2;omega) 1 (by omega)⟩
theorem LW {P:List (Nat×Nat)} (h:∀ p∈P,p.2≤900):rP (1+sumT (P.map fun p=>jP p.1 p.2),iU (P.map fun p=>jP p.1 p.2))=jP (1+(P.map (·.1)).sum) (1+iJ (P.map (·.2))):=by
 have hn:∀ Q:List (Nat×Nat),(∀ p∈Q,p.1<1000)→sumT (Q.map fun p=>jP p.1 p.2)=((Q.map (·.1)).sum:Nat)∧∀ m:Nat,(Q.map fun p=>jP p.1 p.2).foldl (fun m t=>max m (t.2+1)) ((m:Int)+1)=((1+max m (iJ (Q.map (·.2))):Nat):Int):=by
  intro Q
  induction Q with
  | nil=>intro _;exact⟨by simp[sumT],fun m=>by simp[iJ];omega⟩
  | cons a r ih =>
   intro hq
   obtain⟨i1,i2⟩:=ih fun p hp=>hq p (by simp[hp])
   have ha:jP a.1 a.2=((a.1:Int),(a.2:Int)):=by have:=hq a (by simp);unfold jP;rw[if_neg (by omega)]
   refine⟨?_,fun m=>?_⟩
   ·simp only[List.map_cons,List.sum_cons,ha]
    have e:sumT (((a.1:Int),(a.2:Int))::r.map fun p=>jP p.1 p.2)=a.1+sumT (r.map fun p=>jP p.1 p.2):=by simp[sumT]
    rw[e,i1];omega
   ·simp only[List.map_cons,List.foldl_cons,ha]
    have e:max ((m:Int)+1) ((a.2:Int)+1)=((max m a.2:Nat):Int)+1:=by omega
    rw[e,i2,lu]
    omega
 by_cases hall:∀ p∈P,p.1<1000
 ·obtain⟨h1,h2⟩:=hn P hall
  have h3:=h2 0
  simp only[Nat.zero_max,Int.natCast_zero,Int.zero_add] at h3
  have h4:iJ (P.map (·.2))≤900:=ny fun x hx=>by obtain⟨p,hp,rfl⟩:=List.mem_map.1 hx;exact h p hp
  have h5:iU (P.map fun p=>jP p.1 p.2)=((1+iJ (P.map (·.2)):Nat):Int):=h3
  rw[h1,h5]
  unfold rP vP jP
  by_cases hN:1000≤1+(P.map (·.1)).sum
  ·rw[if_pos hN,if_pos]
   simp;omega
  ·rw[if_neg hN,if_neg]
   ·simp
   ·simp;omega
 ·have hall:∃ p∈P,1000≤p.1:=by
   apply Classical.byContradiction
   intro hc
   exact hall fun p hp=>by
    apply Classical.byContradiction
    intro h1
    exact hc ⟨p,hp,by omega⟩
  obtain⟨p,hp,hp1⟩:=hall
  have h1:1000≤(P.map (·.1)).sum:=by
   have:∀ Q:List (Nat×Nat),p∈Q→p.1≤(Q.map (·.1)).sum:=by
    intro Q
    induction Q with
    | nil=>intro h;cases h
    | cons a r ih =>
     intro h
     rw[List.map_cons,List.sum_cons]
     rcases List.mem_cons.1 h with rfl|h
     ·omega
     ·have:=ih h;omega
   have:=this P hp
   omega
  have hok:∀ t∈P.map (fun p=>jP p.1 p.2),Tok t:=fun t ht=>by obtain⟨q,hq,rfl⟩:=List.mem_map.1 ht;exact JX (h q hq)
  have h2:1000≤sumT (P.map fun p=>jP p.1 p.2):=by
   have:∀ Q:List (Int×Int),(∀ t∈Q,Tok t)→(1000,1000)∈Q→1000≤sumT Q:=by
    intro Q
    induction Q with
    | nil=>intro _ h;cases h
    | cons a r ih =>
     intro hq h
     have e:sumT (a::r)=a.1+sumT r:=by simp[sumT]
     rw[e]
     have b:=(Dj fun t ht=>hq t (List.mem_cons_of_mem _ ht)).1
     rcases List.mem_cons.1 h with rfl|h
     ·show (1000:Int)≤1000+sumT r;omega
     ·have a1:=(hq a (by simp)).1
      have:=ih (fun t ht=>hq t (by simp[ht])) h
      omega
   exact this _ hok (List.mem_map.2 ⟨p,hp,if_pos hp1⟩)
  unfold rP vP jP at *
  rw[if_pos (by simp;omega),if_pos (by omega)]
theorem YR {op n:Int} {s name src:ByteArray} {args:List Ex} (h:∀ a∈args,uS 49 a):rP (1+sumT (args.map bZ),iU (args.map bZ))=bZ (.mk op n s name src args):=by
 have h1:=LW (P:=args.map fun a=>(iI 50 a,dQ 50 a)) (fun p hp=>by obtain⟨a,_,rfl⟩:=List.mem_map.1 hp;have:=DD 50 a;simp only;omega)
 rw[List.map_map,List.map_map,List.map_map] at h1
 have e1:args.map ((fun p:Nat×Nat=>jP p.1 p.2) ∘ fun a=>(iI 50 a,dQ 50 a))=args.map bZ:=rfl
 have e2:args.map ((fun p:Nat×Nat=>p.1) ∘ fun a=>(iI 50 a,dQ 50 a))=args.map (iI 49):=gJ fun a ha=>Ff 49 (by omega) (h a ha)
 have e3:args.map ((fun p:Nat×Nat=>p.2) ∘ fun a=>(iI 50 a,dQ 50 a))=args.map (dQ 49):=gJ fun a ha=>Fg 49 (by omega) (h a ha)
 rw[e1,e2,e3] at h1
 exact h1
theorem acY (a b c:List Nat):(a++b++c).sum=a.sum+b.sum+c.sum:=by simp;omega
theorem RV (a b:List Nat):iJ (a++b)=max (iJ a) (iJ b):=by
 induction a with
 | nil=>simp[iJ]
 | cons x r ih=>rw[List.cons_append,lu,lu,ih];omega
theorem acZ {op n:Int} {name src:ByteArray} {cols:List ByteArray} {exprs:List Ex} {body els:List St} (he:∀ a∈exprs,uS 50 a) (hb:∀ a∈body,Ez 100 a) (hl:∀ a∈els,Ez 100 a) :
  rP (1+(sumT (exprs.map bZ)+sumT (body.map aX)+sumT (els.map aX)),max (max (iU (exprs.map bZ)) (iU (body.map aX))) (iU (els.map aX)))=aX (.mk op name src n cols exprs body els):=by
 rw[← RS,← RS,← RU,← RU]
 have h1:=LW (P:=(exprs.map fun a=>(iI 50 a,dQ 50 a))++(body.map fun a=>(lJ 101 a,dN 101 a))++(els.map fun a=>(lJ 101 a,dN 101 a))) (fun p hp=>by
  rcases List.mem_append.1 hp with hp|hp
  ·rcases List.mem_append.1 hp with hp|hp
   ·obtain⟨a,_,rfl⟩:=List.mem_map.1 hp;have:=DD 50 a;simp only;omega
   ·obtain⟨a,_,rfl⟩:=List.mem_map.1 hp;have:=Ik 101 a;simp only;omega
  ·obtain⟨a,_,rfl⟩:=List.mem_map.1 hp;have:=Ik 101 a;simp only;omega)
 simp only[List.map_append,List.map_map] at h1
 rw[acY,RV,RV] at h1
 have e1:exprs.map ((fun p:Nat×Nat=>jP p.1 p.2) ∘ fun a=>(iI 50 a,dQ 50 a))=exprs.map bZ:=rfl
 have f1:body.map ((fun p:Nat×Nat=>jP p.1 p.2) ∘ fun a=>(lJ 101 a,dN 101 a))=body.map aX:=rfl
 have f2:els.map ((fun p:Nat×Nat=>jP p.1 p.2) ∘ fun a=>(lJ 101 a,dN 101 a))=els.map aX:=rfl
 have e2:exprs.map ((fun p:Nat×Nat=>p.1) ∘ fun a=>(iI 50 a,dQ 50 a))=exprs.map (iI 100):=gJ fun a ha=>(Ff 50 (by omega) (he a ha)).symm
 have e3:exprs.map ((fun p:Nat×Nat=>p.2) ∘ fun a=>(iI 50 a,dQ 50 a))=exprs.map (dQ 100):=gJ fun a ha=>(Fg 50 (by omega) (he a ha)).symm
 have g2:body.map ((fun p:Nat×Nat=>p.1) ∘ fun a=>(lJ 101 a,dN 101 a))=body.map (lJ 100):=gJ fun a ha=>LU 100 (by omega) (hb a ha)
 have g3:body.map ((fun p:Nat×Nat=>p.2) ∘ fun a=>(lJ 101 a,dN 101 a))=body.map (dN 100):=gJ fun a ha=>LV 100 (by omega) (hb a ha)
 have k2:els.map ((fun p:Nat×Nat=>p.1) ∘ fun a=>(lJ 101 a,dN 101 a))=els.map (lJ 100):=gJ fun a ha=>LU 100 (by omega) (hl a ha)
 have k3:els.map ((fun p:Nat×Nat=>p.2) ∘ fun a=>(lJ 101 a,dN 101 a))=els.map (dN 100):=gJ fun a ha=>LV 100 (by omega) (hl a ha)
 rw[e1,f1,f2,e2,e3,g2,g3,k2,k3] at h1
 rw[h1]
 unfold aX
 rw[lJ,dN]
 simp only[St.exprs,St.body,St.els]
 congr 1
 omega
end Go.Afx
namespace Go.Proofs.YtjjfkhbajidmdaaGreatDoor
open Go.RowKit Go.Afx
theorem Dn {P:Program} {w:World} {ops:Array Oper} {o:Oper} {a:Act} {K:Act→World→Prop} {Q:Exit→Act→World→Prop} {E:Prop} (hgd:o.guard=none) {s x:Operand} {t:TypeId}
  (ho:o.op=.call { callee:=.builtin .append,args:=#[s,x],argTypes:=#[t,t] })
  {base:Nat} {e:TypeId} {sz bytes:Nat} {z:Value} (hT:kC P t e sz bytes z)
  {A:Option Addr} {n c:Nat} {xs:List (List Value)} (hs:a.eval s=.slice A n c) (hown:w.ownsRow base e sz (.slice A n c) n xs.flatten)
  {A':Option Addr} {m c':Nat} {news:List (List Value)} (hx:a.eval x=.slice A' m c') (hnews:az w sz A' m c' news) (hlen:∀ r∈news,r.length=sz) (h1:∀ r∈news,∀ u∈r,u.oneCell'=true)
  (h63:n+m≤maxLen) (hbytes:(n+m)*bytes≤140737488355328) (hbase:base≤w.heap.size)
  (h:∀ A2 c2 w',w'.ownsRow base e sz (.slice A2 (n+m) c2) (n+m) (xs++news).flatten→But (fun k=>A.map (·.block)=some k) w w'→(∀ a2,A2=some a2→A=some a2∨w.heap.size≤a2.block)→K (a.put o.dst (.slice A2 (n+m) c2)) w') :
  if Region.wanted o (yielded ops a.tmps)=true then Oper.wp P o a w K Q else E:=by
 have hw:Region.wanted o (yielded ops a.tmps)=true:=by simp[Region.wanted,hgd]
 rw[if_pos hw]
 obtain⟨A2,c2,w',hr,hown',hb,hf⟩:=LX (P:=P) o.type hT hown hnews hlen h1 h63 hbytes hbase
 unfold Oper.wp execOp
 simp only[ho,resolve,invoke,builtin,Sem.run_bind,Sem.run_pure,Result.andThen_ok,List.map_toArray,List.map_cons,List.map_nil,hs,hx,hr]
 exact h A2 c2 w' hown' hb hf
theorem agL:kC Tryz.prog 42 55 6 88 (.agg #[.int .i64 0,.int .i64 0,.string ByteArray.empty,.string ByteArray.empty,.string ByteArray.empty,.slice none 0 0]):=⟨Tryz.underlying42,by kernel_rfl,rfl,by decide⟩
theorem Vq:kC Tryz.prog 28 49 8 144 (.agg #[.int .i64 0,.string ByteArray.empty,.string ByteArray.empty,.int .i64 0,.slice none 0 0,.slice none 0 0,.slice none 0 0,.slice none 0 0]):=⟨Tryz.underlying28,by kernel_rfl,rfl,by decide⟩
theorem Vj:kC Tryz.prog 25 3 1 8 (.int .i64 0):=⟨Tryz.underlying25,by kernel_rfl,rfl,by decide⟩
structure Lf where
 op:Int
 n:Int
 s:ByteArray
 name:ByteArray
 src:ByteArray
 kids:List Int
structure Kn where
 op:Int
 name:ByteArray
 src:ByteArray
 n:Int
 cols:List ByteArray
 exprs:List Int
 body:List Int
 els:List Int
def yU (F:Nat→Prop) (w:World) (r:List Value) (x:Lf):Prop:=okI x.op∧okI x.n∧okS x.s∧okS x.name∧okS x.src ∧
 ∃ A m c,r=[.int .i64 x.op,.int .i64 x.n,.string x.s,.string x.name,.string x.src,.slice A m c]∧ai F w 1 kD A m c x.kids
def yV (F:Nat→Prop) (w:World) (r:List Value) (x:Kn):Prop:=okI x.op∧okI x.n∧okS x.name∧okS x.src ∧
 ∃ Ac nc cc Ae ne ce Ab nb cb Al nl cl,r=[.int .i64 x.op,.string x.name,.string x.src,.int .i64 x.n,.slice Ac nc cc,.slice Ae ne ce,.slice Ab nb cb,.slice Al nl cl] ∧
  ai F w 1 dL Ac nc cc x.cols∧ai F w 1 kD Ae ne ce x.exprs∧ai F w 1 kD Ab nb cb x.body∧ai F w 1 kD Al nl cl x.els
def ac0 (F:Nat→Prop) (w:World) (row:List Value) (es:List Ex) (ss:List St):Prop :=
 ∃ A0 c0 A1 c1 A2 c2 A3 c3 A4 c4 A5 c5,row=[.slice A0 es.length c0,.slice A1 es.length c1,.slice A2 es.length c2,.slice A3 ss.length c3,.slice A4 ss.length c4,.slice A5 ss.length c5] ∧
  aO F 50 w A0 es.length c0 es∧ai F w 1 kD A1 es.length c1 (es.map fun x=>(bZ x).1)∧ai F w 1 kD A2 es.length c2 (es.map fun x=>(bZ x).2) ∧
  aP F 101 w A3 ss.length c3 ss∧ai F w 1 kD A4 ss.length c4 (ss.map fun x=>(aX x).1)∧ai F w 1 kD A5 ss.length c5 (ss.map fun x=>(aX x).2)∧es.length≤50∧ss.length≤50
def agV (F:Nat→Prop) (w:World) (e:Ending) (w':World):Prop:=∃ row es ss,e=.returned (.agg row.toArray)∧ac0 (fun b=>b<w'.heap.size∧(b<w.heap.size→F b)) w' row es ss∧Below w.heap.size w w'
def PE (hue:Nat→Nat) (w:World) (k:Nat) (r:List Value) (e:Ex):Prop:=aC (Hu hue 0) (k+1) w r e
structure pJ (F:Nat→Prop) (w wr:World) (hue:Nat→Nat) (es:List Ex) (A0:Option Addr) (c0:Nat) (A1:Option Addr) (c1:Nat) (A2:Option Addr) (c2:Nat) (v3 v4 v5:Value):Prop where
 box:af wr (w.heap.size+1) 44 #[.slice A0 es.length c0,.slice A1 es.length c1,.slice A2 es.length c2,v3,v4,v5]
 res:af wr w.heap.size 44 #[.slice none 0 0,.slice none 0 0,.slice none 0 0,.slice none 0 0,.slice none 0 0,.slice none 0 0]
 hb:hue (w.heap.size+1)=1
 hr:hue w.heap.size=9
 old:∀ b,b<w.heap.size→(F b→hue b=0)∧(¬ F b→hue b=8)
 tri:WV hue 2 w.heap.size wr 55 6 3 (PE hue wr) bZ A0 c0 A1 c1 A2 c2 es
 low:Below w.heap.size w wr
 few:es.length≤50
open Classical in
noncomputable def NR (F:Nat→Prop) (w:World):Nat→Nat:=fun b=>if b=w.heap.size+1 then 1 else if b=w.heap.size then 9 else if F b then 0 else 8
theorem ac1 {F:Nat→Prop} {b:Nat} {hue:Nat→Nat} (h:(F b→hue b=0)∧(¬ F b→hue b=8)):hue b=0∨hue b=8:=by
 rcases Classical.em (F b) with hf|hf
 ·exact .inl (h.1 hf)
 ·exact .inr (h.2 hf)
theorem pJ.start (F:Nat→Prop) (w:World):pJ F w ((w.alloc (.cells #[.slice none 0 0,.slice none 0 0,.slice none 0 0,.slice none 0 0,.slice none 0 0,.slice none 0 0] 44)).alloc (.cells #[.slice none 0 0,.slice none 0 0,.slice none 0 0,.slice none 0 0,.slice none 0 0,.slice none 0 0] 44)) (NR F w) [] none 0 none 0 none 0 (.slice none 0 0) (.slice none 0 0) (.slice none 0 0) :=
 ⟨fZ (by simp) _ _,(af.laid _ _ _).alloc _,by simp[NR],by simp[NR],fun b hb=>by
  unfold NR
  rw[if_neg (by omega),if_neg (by omega)]
  exact⟨fun hf=>if_pos hf,fun hf=>if_neg hf⟩,WV.nil_ _ _ _ _ _ _ _ _ _,((Below.refl _ _).alloc (Nat.le_refl _) _).alloc (by simp) _,by simp⟩
theorem dP {w:World} {g:Nat} {T:TypeId} {v0 v1 v2 v3 v4 v5:Value} (h:af w g T #[v0,v1,v2,v3,v4,v5]) :
  w.cell? ⟨g,0,none⟩=some v0∧w.cell? ⟨g,1,none⟩=some v1∧w.cell? ⟨g,2,none⟩=some v2∧w.cell? ⟨g,3,none⟩=some v3∧w.cell? ⟨g,4,none⟩=some v4∧w.cell? ⟨g,5,none⟩=some v5∧g<w.heap.size:=by
 have h0:=h.cell 0;have h1:=h.cell 1;have h2:=h.cell 2;have h3:=h.cell 3;have h4:=h.cell 4;have h5:=h.cell 5
 simp at h0 h1 h2 h3 h4 h5
 exact⟨h0,h1,h2,h3,h4,h5,h.lt⟩
structure oG (w2 wr:World) (g:Nat) (hue:Nat→Nat) (w0:World) (k:Nat) (x:Lf) (args:List Ex) (Aa:Option Addr) (ca:Nat):Prop where
 box:af wr g 55 #[.int .i64 x.op,.int .i64 x.n,.string x.s,.string x.name,.string x.src,.slice Aa args.length ca]
 rows:∃ rows:List (List Value),wr.ownsRow w2.heap.size 55 6 (.slice Aa args.length ca) args.length rows.flatten∧rows.length=args.length∧(∀ r∈rows,r.length=6)∧∀ (j:Nat) (r:List Value) (e:Ex),rows[j]?=some r→args[j]?=some e→aC (Hu hue 0) k w0 r e
 but:But (fun b=>b=g) w2 wr
theorem oG.start {w2:World} {g:Nat} (hue:Nat→Nat) (w0:World) (k:Nat) (x:Lf) (h:af w2 g 55 #[.int .i64 x.op,.int .i64 x.n,.string x.s,.string x.name,.string x.src,.slice none 0 0]):oG w2 w2 g hue w0 k x [] none 0 :=
 ⟨h,⟨[],World.ownsRow_nil _ _ _ _,rfl,(by intro r h;cases h),fun j r e h=>by simp at h⟩,But.refl _ _⟩
theorem NU {args:List Ex} (h:args.length≤4):0≤sumT (args.map bZ)∧sumT (args.map bZ)≤4000:=by
 have:=Dj (l:=args.map bZ) (fun t ht=>by obtain⟨a,_,rfl⟩:=List.mem_map.1 ht;exact kH a)
 rw[List.length_map] at this
 omega
theorem Dp (a b:Int):(if a<b then b else a)=max a b:=by split<;>omega
theorem oG.add {w2 wr w0 w3:World} {g k m ca c3:Nat} {hue:Nat→Nat} {x:Lf} {args:List Ex} {Aa A3:Option Addr} {rows:List (List Value)} {re:List Value} {a:Ex} {o:Obj} (h:oG w2 wr g hue w0 k x args Aa ca) (hm:args.length=m) (hg:g<w2.heap.size)
  (hrl:rows.length=args.length) (hrw:∀ r∈rows,r.length=6) (uT:∀ (j:Nat) (r:List Value) (e:Ex),rows[j]?=some r→args[j]?=some e→aC (Hu hue 0) k w0 r e) (hre:re.length=6) (hra:aC (Hu hue 0) k w0 re a)
  (hbl:∀ b,Aa.map (·.block)=some b→w2.heap.size≤b) (hown3:w3.ownsRow w2.heap.size 55 6 (.slice A3 (m+1) c3) (m+1) (rows++[re]).flatten) (dB:But (fun k=>Aa.map (·.block)=some k) ((wr.drew).alloc o) w3) (aok:∀ a2,A3=some a2→w2.heap.size≤a2.block) :
  oG w2 (w3.setCell ⟨g,5,none⟩ (.slice A3 (m+1) c3)) g hue w0 k x (args++[a]) A3 c3:=by
 have hl:(args++[a]).length=m+1:=by simp[hm]
 have hgr:g<wr.heap.size:=h.box.lt
 have hg3:¬ Aa.map (·.block)=some g:=fun e=>by have:=hbl g e;omega
 refine⟨?_,⟨rows++[re],?_,by simp[hrl],fun r hr=>?_,fun j r e hr he=>?_⟩,?_⟩
 ·have h1:af w3 g 55 _:=((show af wr.drew g _ _ from h.box).alloc o).ag (dB.block g (by simp;omega) hg3)
  have h2:=h1.stored 5 (.slice A3 (m+1) c3)
  rw[hl]
  exact h2
 ·rw[hl]
  refine eP hown3 ((But.refl (fun b=>b=g) w3).setCell (p:=⟨g,5,none⟩) (.inl rfl) _) fun b hb e=>?_
  subst e
  cases A3 with
  | none=>cases hb
  | some a3 =>
   have e:a3.block=b:=by simpa [Value.ownBlock] using hb
   have:=aok a3 rfl
   omega
 ·rcases List.mem_append.1 hr with hr|hr
  ·exact hrw r hr
  ·rw[List.mem_singleton.1 hr];exact hre
 ·rcases Nat.lt_or_ge j args.length with hj|hj
  ·rw[List.getElem?_append_left (by omega)] at hr he
   exact uT j r e hr he
  ·rw[List.getElem?_append_right (by omega)] at hr he
   have hj0:j-args.length=0:=by
    have:=(List.getElem?_eq_some_iff.1 he).1
    simp at this;omega
   rw[hj0] at he
   rw[hrl,hj0] at hr
   simp at hr he
   subst hr he
   exact hra
 ·have h1:But (fun b=>b=g) w2 ((wr.drew).alloc o):=(h.but.drew).alloc o
  exact(h1.trans dB fun i hi=>.inr (hbl i hi)).setCell (p:=⟨g,5,none⟩) (.inl rfl) _
theorem oG.far {w2 wr w0:World} {g k ca:Nat} {hue:Nat→Nat} {x:Lf} {args:List Ex} {Aa:Option Addr} (h:oG w2 wr g hue w0 k x args Aa ca):∀ a,Aa=some a→w2.heap.size≤a.block:=by
 intro a ha
 obtain⟨rows,hown,_⟩:=h.rows
 subst ha
 exact(hown.lt a.block rfl).1
theorem oG.below {w1 w2 wr:World} {g k ca:Nat} {hue:Nat→Nat} {w0:World} {x:Lf} {args:List Ex} {Aa:Option Addr} (h:oG w2 wr g hue w0 k x args Aa ca) (hb:Below w1.heap.size w1 w2) (hg:w1.heap.size≤g):Below w1.heap.size w1 wr :=
 hb.trans (h.but.below' hb.size fun i hi=>by subst hi;exact hg)
theorem oG.done {w1 w2 wr:World} {g k ca:Nat} {hue:Nat→Nat} {x:Lf} {args:List Ex} {Aa:Option Addr} (h:oG w2 wr g hue w1 k x args Aa ca) (hb:Below w1.heap.size w1 wr) (hz:w1.heap.size≤w2.heap.size)
  (o1:okI x.op) (o2:okI x.n) (o3:okS x.s) (o4:okS x.name) (o5:okS x.src) :
  PE (aK hue w1 0) wr k [.int .i64 x.op,.int .i64 x.n,.string x.s,.string x.name,.string x.src,.slice Aa args.length ca] (.mk x.op x.n x.s x.name x.src args):=by
 obtain⟨rows,hown,hrl,hrw,uT⟩:=h.rows
 refine⟨o1,o2,o3,o4,o5,Aa,args.length,ca,rfl,rows,az.kS hown hrw hrl,fun a ha _=>?_,hrl,fun j r e hr he=>⟨hrw r (List.mem_of_getElem? hr),?_⟩⟩
 ·have:=h.far a ha
  exact zK (by omega)
 ·exact aC.turn (fun b hb0 h0=>(aT b hb0).trans h0) (Kept.of_below hb) k (Nat.le_refl _) (uT j r e hr he)
theorem oG.fits {w1 w2 wr:World} {g k ca:Nat} {hue:Nat→Nat} {x:Lf} {args:List Ex} {Aa:Option Addr} (h:oG w2 wr g hue w1 k x args Aa ca) (hk:k≤49):∀ a∈args,uS 49 a:=by
 obtain⟨rows,hown,hrl,hrw,uT⟩:=h.rows
 intro a ha
 obtain⟨j,hj⟩:=List.mem_iff_getElem?.1 ha
 have hlt:=(List.getElem?_eq_some_iff.1 hj).1
 exact uS.mono k hk (uT j _ a (List.getElem?_eq_getElem (by omega)) hj).fits
theorem pJ.later {F:Nat→Prop} {w w1 wr:World} {hue:Nat→Nat} {es:List Ex} {A0 A1 A2:Option Addr} {c0 c1 c2:Nat} {v3 v4 v5:Value} (h:pJ F w w1 hue es A0 c0 A1 c1 A2 c2 v3 v4 v5) (hb:Below w1.heap.size w1 wr):pJ F w wr (aK hue w1 0) es A0 c0 A1 c1 A2 c2 v3 v4 v5 where
 box:=h.box.ag (hb.block _ h.box.lt)
 res:=h.res.ag (hb.block _ h.res.lt)
 hb:=(aT _ h.box.lt).trans h.hb
 hr:=(aT _ h.res.lt).trans h.hr
 old:=fun b hb0=>by rw[aT _ (Nat.lt_of_lt_of_le hb0 h.low.size)];exact h.old b hb0
 tri:=h.tri.keep (S:=fun _=>False) (But.of_below hb) (fun _ _ hf=>hf.elim) aT fun _ _ _ _ hp=>aC.turn (fun b hb0 h0=>(aT b hb0).trans h0) (Kept.of_below hb) _ (Nat.le_refl _) hp
 low:=h.low.trans (hb.mono h.low.size)
 few:=h.few
theorem qg {w w2:World} {bt j i:Nat} {hue:Nat→Nat} {T:TypeId} {cs:Array Value} {A:Option Addr} {o:Obj} (h:af w bt T cs) (hA:∀ a,A=some a→hue a.block=i) (hne:hue bt≠i) (fE:But (fun k=>A.map (·.block)=some k) (w.alloc o) w2) (u:Value) :
  af w2 bt T cs∧af (w2.setCell ⟨bt,j,none⟩ u) bt T (cs.setIfInBounds j u):=by
 have hn:¬ A.map (·.block)=some bt:=by
  intro e
  cases A with
  | none=>cases e
  | some a =>
   have e:a.block=bt:=by simpa using e
   have:=hA a rfl
   rw[e] at this
   exact hne this
 have h1:=(h.alloc o).ag (fE.block bt (h.alloc o).lt hn)
 exact⟨h1,h1.stored j u⟩
theorem PE.later {hue zL:Nat→Nat} {w w':World} {S:Nat→Prop} {k:Nat} {r:List Value} {e:Ex} (h:PE hue w k r e) (hb:But S w w') (hS:∀ b,hue b=0→¬ S b) (hh:∀ b,b<w.heap.size→zL b=hue b):PE zL w' k r e :=
 aC.turn (fun b hb0 h0=>(hh b hb0).trans h0) (Kept.aN hb hS) _ (Nat.le_refl _) h
theorem xG {w:World} {T:TypeId} {g:Nat} (r:List Value) (sz:Nat) (hg:g=w.heap.size) (hr:r.length=sz):az (w.alloc (.cells r.toArray T)) sz (some ⟨g,0,none⟩) 1 1 [r] :=
 az.nG _ _ 1 hg (by simp) (by simp[hr]) rfl (by unfold maxLen;omega)
theorem iq {hue:Nat→Nat} {n bt i i':Nat} (hb:hue bt=1) (hne:i'≠i) (h1:i'≠1):∀ k,k<n→(hue k=i∨k=bt)→hue k≠i':=by
 rintro k _ (h|h) e
 ·omega
 ·subst h;omega
theorem xH {hue:Nat→Nat} {b:Nat} (h:hue b=1) (i:Nat) (hi:i≠1):hue b≠i:=by omega
theorem Dc {hue:Nat→Nat} {w:World} {bt i:Nat} (hb:hue bt=1) (hl:bt<w.heap.size):aK hue w i bt=1:=(aT bt hl).trans hb
theorem pJ.add {F:Nat→Prop} {w wr W3 W6 W9:World} {h0:Nat→Nat} {es:List Ex} {A0 A1 A2 B0 B1 B2:Option Addr} {c0 c1 c2 d0 d1 d2 k:Nat} {v3 v4 v5:Value} (h:pJ F w wr h0 es A0 c0 A1 c1 A2 c2 v3 v4 v5) {E:Ex} (hk:es.length=k) (h50:k<50) {SE SG:Int} (hte:bZ E=(SE,SG))
  {rows:List (List Value)} (uT:∀ (j:Nat) (r:List Value) (e:Ex),rows[j]?=some r→es[j]?=some e→PE h0 wr j r e) {r0:List Value} (hr0:PE h0 wr k r0 E)
  (b1:But (fun b=>h0 b=2∨b=w.heap.size+1) wr W3) (b2:But (fun b=>aK h0 wr 2 b=3∨b=w.heap.size+1) W3 W6) (b3:But (fun b=>aK (aK h0 wr 2) W3 3 b=4∨b=w.heap.size+1) W6 W9)
  (r1:eQ (aK h0 wr 2) 2 w.heap.size W3 55 6 B0 (k+1) d0 (rows++[r0])) (r2:eQ (aK (aK h0 wr 2) W3 3) 3 w.heap.size W6 3 1 B1 (k+1) d1 (es.map (fun x=>[.int .i64 (bZ x).1])++[[.int .i64 SE]]))
  (r3:eQ (aK (aK (aK h0 wr 2) W3 3) W6 4) 4 w.heap.size W9 3 1 B2 (k+1) d2 (es.map (fun x=>[.int .i64 (bZ x).2])++[[.int .i64 SG]]))
  (hbox:af W9 (w.heap.size+1) 44 #[.slice B0 (k+1) d0,.slice B1 (k+1) d1,.slice B2 (k+1) d2,v3,v4,v5]) :
  pJ F w W9 (aK (aK (aK h0 wr 2) W3 3) W6 4) (es++[E]) B0 d0 B1 d1 B2 d2 v3 v4 v5:=by
 have z1:=b1.size
 have z2:=b2.size
 have z3:=b3.size
 have e1:∀ b,b<wr.heap.size→aK h0 wr 2 b=h0 b:=aT
 have e2:∀ b,b<wr.heap.size→aK (aK h0 wr 2) W3 3 b=h0 b:=fun b hb=>(aT b (by omega)).trans (e1 b hb)
 have e3:∀ b,b<wr.heap.size→aK (aK (aK h0 wr 2) W3 3) W6 4 b=h0 b:=fun b hb=>(aT b (by omega)).trans (e2 b hb)
 have hbl:=h.box.lt
 have hl:(es++[E]).length=k+1:=by simp[hk]
 have hlow:=h.low.size
 -- all in one
 have hall:But (fun b=>b<wr.heap.size∧(h0 b=2∨h0 b=3∨h0 b=4∨b=w.heap.size+1)) wr W9:=by
  refine⟨b3.os.trans (b2.os.trans b1.os),b3.tape.trans (b2.tape.trans b1.tape),b3.output.trans (b2.output.trans b1.output),by omega,fun b hb hn=>?_⟩
  have n1:¬ (h0 b=2∨b=w.heap.size+1):=fun hx=>hn ⟨hb,by rcases hx with hx|hx<;>simp[hx]⟩
  have n2:¬ (aK h0 wr 2 b=3∨b=w.heap.size+1):=fun hx=>hn ⟨hb,by rw[e1 b hb] at hx;rcases hx with hx|hx<;>simp[hx]⟩
  have n3:¬ (aK (aK h0 wr 2) W3 3 b=4∨b=w.heap.size+1):=fun hx=>hn ⟨hb,by rw[e2 b hb] at hx;rcases hx with hx|hx<;>simp[hx]⟩
  exact(b3.block b (by omega) n3).trans ((b2.block b (by omega) n2).trans (b1.block b hb n1))
 have hP0:∀ {j r e},PE h0 wr j r e→PE (aK (aK (aK h0 wr 2) W3 3) W6 4) W9 j r e:=fun hp=>PE.later hp hall (fun b h0b hx=>by
  obtain⟨hb,hx⟩:=hx
  rcases hx with hx|hx|hx|hx
  ·omega
  ·omega
  ·omega
  ·rw[hx,h.hb] at h0b;omega) e3
 have aiR:aK h0 wr 2 (w.heap.size+1)=1:=(e1 _ hbl).trans h.hb
 have ac2:aK (aK h0 wr 2) W3 3 (w.heap.size+1)=1:=(e2 _ hbl).trans h.hb
 have r1':=(r1.keep b2 (iq aiR (by omega) (by omega)) (aT (i:=3))).keep b3 (iq ac2 (by omega) (by omega)) (aT (i:=4))
 have r2':=r2.keep b3 (iq ac2 (by omega) (by omega)) (aT (i:=4))
 refine⟨by rw[hl];exact hbox,?_,(e3 _ hbl).trans h.hb,(e3 _ h.res.lt).trans h.hr,fun b hb=>by rw[e3 b (by omega)];exact h.old b hb,⟨⟨rows++[r0],by rw[hl];exact r1',fun j r e hr he=>?_⟩,?_,?_⟩,?_,by rw[hl];omega⟩
 ·refine h.res.ag (hall.block _ h.res.lt fun hx=>?_)
  obtain⟨_,hx⟩:=hx
  rw[h.hr] at hx
  omega
 ·have hrl:=r1.len
  have aiS:rows.length=k:=by simp at hrl;omega
  rcases Nat.lt_or_ge j k with hj|hj
  ·rw[List.getElem?_append_left (by omega)] at hr he
   exact hP0 (uT j r e hr he)
  ·rw[List.getElem?_append_right (by omega)] at hr he
   have hj0:j=k:=by
    have:=(List.getElem?_eq_some_iff.1 he).1
    simp at this;omega
   subst hj0
   rw[hk,Nat.sub_self] at he
   rw[aiS,Nat.sub_self] at hr
   simp at hr he
   subst hr he
   exact hP0 hr0
 ·rw[hl,List.map_append,List.map_cons,List.map_nil,hte];exact r2'
 ·rw[hl,List.map_append,List.map_cons,List.map_nil,hte];exact r3
 ·exact h.low.trans (hall.below' hlow fun b hx=>by
   obtain⟨hb,hx⟩:=hx
   rcases Nat.lt_or_ge b w.heap.size with hlt|hlt
   ·have:=ac1 (h.old b hlt);omega
   ·exact hlt)
end Go.Proofs.YtjjfkhbajidmdaaGreatDoor

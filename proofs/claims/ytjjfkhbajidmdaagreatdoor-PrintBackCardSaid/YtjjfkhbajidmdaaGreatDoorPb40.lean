/- Parts of this proof, one behind the other: ParDp, ParZ6. -/
import Derived.Test.YtjjfkhbajidmdaaGreatDoorPb39
import Derived.Test.YtjjfkhbajidmdaaGreatDoorPb6
set_option maxRecDepth 1000000
set_option maxHeartbeats 40000000
namespace Go.Proofs.YtjjfkhbajidmdaaGreatDoor
open Go.RowKit Go.Afx
theorem Eh {l:List Nat} {x:Nat} (h:x∈l):x≤iJ l:=by
 induction l with
 | nil=>cases h
 | cons a l ih =>
  rw[lu]
  rcases List.mem_cons.1 h with rfl|h
  ·omega
  ·have:=ih h;omega
def Lj (e:Ex) (k:Nat):Prop:=∀ D,dQ D e≤k
def JJ (x:St) (k:Nat):Prop:=∀ D,dN D x≤k
theorem Lj.le {e:Ex} {k m:Nat} (h:Lj e k) (hm:k≤m):Lj e m:=fun D=>Nat.le_trans (h D) hm
theorem JJ.le {e:St} {k m:Nat} (h:JJ e k) (hm:k≤m):JJ e m:=fun D=>Nat.le_trans (h D) hm
theorem zX {op n:Int} {a b c:ByteArray} {l:List Ex} {k:Nat} (h:∀ x∈l,Lj x k):Lj (.mk op n a b c l) (k+1):=fun D=>by
 cases D with
 | zero=>simp[dQ]
 | succ D =>
  rw[dQ]
  have:iJ ((Ex.mk op n a b c l).args.map (dQ D))≤k:=ny fun x hx=>by
   obtain⟨y,hy,rfl⟩:=List.mem_map.1 hx
   exact h y hy D
  omega
theorem jV {op n:Int} {a b c:ByteArray} (k:Nat) (hk:1≤k):Lj (.mk op n a b c []) k:=(zX (k:=0) (fun x hx=>by cases hx)).le hk
theorem uq {op n:Int} {a b:ByteArray} {c:List ByteArray} {l:List Ex} {bo el:List St} {k:Nat} (h:∀ x∈l,Lj x k) (hb:∀ x∈bo,JJ x k) (he:∀ x∈el,JJ x k):JJ (.mk op a b n c l bo el) (k+1):=fun D=>by
 cases D with
 | zero=>simp[dN]
 | succ D =>
  rw[dN]
  have h1:iJ ((St.mk op a b n c l bo el).exprs.map (dQ D))≤k:=ny fun x hx=>by
   obtain⟨y,hy,rfl⟩:=List.mem_map.1 hx
   exact h y hy D
  have h2:iJ ((St.mk op a b n c l bo el).body.map (dN D))≤k:=ny fun x hx=>by
   obtain⟨y,hy,rfl⟩:=List.mem_map.1 hx
   exact hb y hy D
  have h3:iJ ((St.mk op a b n c l bo el).els.map (dN D))≤k:=ny fun x hx=>by
   obtain⟨y,hy,rfl⟩:=List.mem_map.1 hx
   exact he y hy D
  omega
def DE (one:au→Ex×au):Prop:=∀ s,Lj (one s).1 (1+((one s).2.at_-s.at_))
section
variable (W:aV)
theorem ab9 (l:List (ByteArray×Int)) {one:au→Ex×au} (h:DE one) (hU:∀ s,Ge s (one s).2):∀ (k:Nat) (e:Ex) (s:au) (m:Nat),Lj e (1+m)→Lj (jq W l one k e s).1 (1+m+((jq W l one k e s).2.at_-s.at_)):=by
 intro k
 induction k with
 | zero=>intro e s m he;exact he.le (by omega)
 | succ k ih =>
  intro e s m he
  unfold jq
  split
  ·exact he.le (by omega)
  ·rename_i h0
   have h1:=xQ (W:=W) (l:=l) (s:=s)
   rw[if_neg h0] at h1
   have h2:=(hU (jH W l s).2).1
   have h3:=Ji W l hU k (cO (jH W l s).1 e (one (jH W l s).2).1) (one (jH W l s).2).2
   have h4:=ih (cO (jH W l s).1 e (one (jH W l s).2).1) (one (jH W l s).2).2 (1+m+((one (jH W l s).2).2.at_-(jH W l s).2.at_)) (by
    refine(zX (k:=1+m+((one (jH W l s).2).2.at_-(jH W l s).2.at_)) (fun x hx=>?_)).le (by omega)
    simp only[List.mem_cons,List.not_mem_nil,or_false] at hx
    rcases hx with rfl|rfl
    ·exact he.le (by omega)
    ·exact(h _).le (by omega))
   exact h4.le (by have:=h3.1;omega)
theorem xZ (l:List (ByteArray×Int)) {one:au→Ex×au} (h:DE one) (hU:∀ s,Ge s (one s).2):DE (ed W l one):=fun s=>by
 have h1:=ab9 W l h hU W.fuel (one s).1 (one s).2 ((one s).2.at_-s.at_) (h s)
 have h2:=hU s
 have h3:=Ji W l hU W.fuel (one s).1 (one s).2
 exact h1.le (by have:=h2.1;have:=h3.1;show _≤1+((jq W l one W.fuel (one s).1 (one s).2).2.at_-s.at_);omega)
variable {E:au→Ex×au} (hE:DE E) (hU:∀ s,Ge s (E s).2)
include hE hU
omit hU in
theorem Ei (s:au):Lj (bG W E s).1 (1+((bG W E s).2.at_-s.at_)):=by
 unfold bG
 split
 ·have h1:=(ja W (str [119,104,101,114,101]) s).1
  exact(hE _).le (by omega)
 ·exact jV _ (by omega)
omit hE hU in
theorem XU (s:au) (h:(jO W s (str [99,111,117,110,116])||jO W s (str [115,117,109])||jO W s (str [109,105,110])||jO W s (str [109,97,120]))=true) (hb:s.bad=false):s.at_+1≤(dE W s).2.at_:=by
 have key:∀ t:ByteArray,(ay W t s).1=true→s.at_+1≤(ay W t s).2.at_:=fun t ht=>by rw[(pX ht).1];exact Nat.le_refl _
 unfold dE
 split
 ·rename_i h1;exact key _ h1
 ·rename_i n1
  split
  ·rename_i h1;exact key _ h1
  ·rename_i n2
   split
   ·rename_i h1;exact key _ h1
   ·rename_i n3
    have e:∀ t,(ay W t s).1=jO W s t:=fun t=>by unfold ay;rw[hb];cases jO W s t<;>rfl
    rw[e] at n1 n2 n3
    simp only[Bool.not_eq_true] at n1 n2 n3
    rw[n1,n2,n3] at h
    simp only[Bool.or_false,Bool.false_or] at h
    have h2:(ay W (str [109,97,120]) s).1=true:=by rw[e];exact h
    show _≤(if (ay W (str [109,97,120]) s).1 then ak W [] (ay W (str [109,97,120]) s).2 else s.fail).at_
    rw[if_pos h2]
    exact key _ h2
theorem aeL (s:au) (h:(jO W s (str [99,111,117,110,116])||jO W s (str [115,117,109])||jO W s (str [109,105,110])||jO W s (str [109,97,120]))=true) (hb:s.bad=false):Lj (tY W E s).1 (1+((tY W E s).2.at_-s.at_)):=by
 have h0:=XU W s h hb
 have h1:=(bY W (str [40]) (dE W s).2).trans ((dW _).trans (kN W _))
 have h2:=jB W hU (bF W (aG (ak W [str [40]] (dE W s).2))).2
 have hw:=Ei W hE (bF W (aG (ak W [str [40]] (dE W s).2))).2
 unfold tY
 simp only
 generalize bG W E (bF W (aG (ak W [str [40]] (dE W s).2))).2=a at *
 generalize (bF W (aG (ak W [str [40]] (dE W s).2)))=r at *
 have h5:=h1.1
 have h6:=h2.1
 split
 ·have h3:=(bY W (str [41]) a.2).trans (jb _)
  have h7:=h3.1
  refine(zX (k:=1+(a.2.at_-r.2.at_)) (fun x hx=>?_)).le (by show _≤1+((dw (ak W [str [41]] a.2)).at_-s.at_);omega)
  simp only[List.mem_singleton] at hx
  subst hx
  exact hw
 ·have h3:=bY W (str [58]) a.2
  have h4:=hU (ak W [str [58]] a.2)
  have he:=hE (ak W [str [58]] a.2)
  generalize E (ak W [str [58]] a.2)=b at *
  have h8:=(bY W (str [41]) b.2).trans (jb _)
  have h7:=h3.1
  have h9:=h4.1
  have h10:=h8.1
  refine(zX (k:=1+((b.2.at_-r.2.at_))) (fun x hx=>?_)).le (by show _≤1+((dw (ak W [str [41]] b.2)).at_-s.at_);omega)
  simp only[List.mem_cons,List.not_mem_nil,or_false] at hx
  rcases hx with rfl|rfl
  ·exact hw.le (by omega)
  ·exact he.le (by omega)
theorem XV:DE (eY W E):=fun s=>by
 unfold eY
 split
 ·exact jV _ (by omega)
 ·rename_i hb
  have hb:s.bad=false:=by simpa using hb
  split
  ·exact jV _ (by omega)
  ·split
   ·exact jV _ (by omega)
   ·split
    ·exact jV _ (by omega)
    ·split
     ·exact jV _ (by omega)
     ·split
      ·rename_i h;exact aeL W hE hU s h hb
      ·split
       ·have h1:=(bY W (str [40]) s).trans (dW _)
        have h2:=hU (aG (ak W [str [40]] s))
        have h3:=(bY W (str [41]) (E (aG (ak W [str [40]] s))).2).trans (jb _)
        have h4:=h1.1
        have h5:=h2.1
        have h6:=h3.1
        exact(hE (aG (ak W [str [40]] s))).le (by show _≤1+((dw (ak W [str [41]] (E (aG (ak W [str [40]] s))).2)).at_-s.at_);omega)
       ·unfold Ko
        simp only
        split
        ·exact jV _ (by omega)
        ·exact jV _ (by omega)
theorem XW:∀ k,DE (dG W E k):=by
 intro k
 induction k with
 | zero=>intro s;exact jV _ (by omega)
 | succ k ih =>
  intro s
  unfold dG
  split
  ·rename_i h
   have h1:=(dW (ay W (str [45]) s).2)
   have h2:=xW W hU k (aG (ay W (str [45]) s).2)
   have h0:(ay W (str [45]) s).2.at_=s.at_+1:=by rw[(pX h).1];rfl
   have h3:=h1.1
   have h4:=h2.1
   refine(zX (k:=1+((dG W E k (aG (ay W (str [45]) s).2)).2.at_-(aG (ay W (str [45]) s).2).at_)) (fun x hx=>?_)).le (by show _≤1+((dG W E k (aG (ay W (str [45]) s).2)).2.at_-s.at_);omega)
   simp only[List.mem_singleton] at hx
   subst hx
   exact ih _
  ·exact XV W hE hU s
theorem UL:DE (uG W E):=xZ W _ (XW W hE hU _) (xW W hU _)
theorem aca:DE (sumP W E):=xZ W _ (UL W hE hU) (zQ W hU)
theorem aio:DE (DK W E):=fun s=>by
 have h1:=aca W hE hU s
 have h2:=EL W hU s
 unfold DK
 simp only
 have h3:=xQ (W:=W) (l:=ji) (s:=(sumP W E s).2)
 split
 ·exact h1.le (by have:=h2.1;have h9:(sumP W E s).2.at_≤(jH W ji (sumP W E s).2).2.at_:=(KR W _ _).1;show _≤1+((jH W ji (sumP W E s).2).2.at_-s.at_);omega)
 ·rename_i h0
  rw[if_neg h0] at h3
  have h4:=EL W hU (jH W ji (sumP W E s).2).2
  have h5:=aca W hE hU (jH W ji (sumP W E s).2).2
  have h6:=h2.1
  have h7:=h4.1
  refine(zX (k:=1+((sumP W E (jH W ji (sumP W E s).2).2).2.at_-s.at_-1)) (fun x hx=>?_)).le (by show _≤1+((sumP W E (jH W ji (sumP W E s).2).2).2.at_-s.at_);omega)
  simp only[List.mem_cons,List.not_mem_nil,or_false] at hx
  rcases hx with rfl|rfl
  ·exact h1.le (by omega)
  ·exact h5.le (by omega)
theorem aip:∀ k,DE (notP W E k):=by
 intro k
 induction k with
 | zero=>intro s;exact jV _ (by omega)
 | succ k ih =>
  intro s
  unfold notP
  split
  ·rename_i h
   have h1:=(dW (ay W (str [110,111,116]) s).2)
   have h2:=MS W hU k (aG (ay W (str [110,111,116]) s).2)
   have h0:(ay W (str [110,111,116]) s).2.at_=s.at_+1:=by rw[(pX h).1];rfl
   have h3:=h1.1
   have h4:=h2.1
   refine(zX (k:=1+((notP W E k (aG (ay W (str [110,111,116]) s).2)).2.at_-(aG (ay W (str [110,111,116]) s).2).at_)) (fun x hx=>?_)).le (by show _≤1+((notP W E k (aG (ay W (str [110,111,116]) s).2)).2.at_-s.at_);omega)
   simp only[List.mem_singleton] at hx
   subst hx
   exact ih _
  ·exact aio W hE hU s
theorem aeM:DE (Jb W E):=xZ W _ (aip W hE hU _) (MS W hU _)
end
theorem aeN (W:aV):∀ f,DE (ik W f):=by
 intro f
 induction f with
 | zero=>intro s;exact jV _ (by omega)
 | succ f ih=>exact xZ W _ (aeM W ih (Iq W f)) (MV W (Iq W f))
theorem oZ (W:aV):DE (aZ W):=aeN W _
theorem acb {α:Type} (W:aV) {one:au→α×au} (P:α→Nat→Prop) (hle:∀ x k m,P x k→k≤m→P x m) (h:∀ s,P (one s).1 (1+((one s).2.at_-s.at_))) (hU:∀ s,Ge s (one s).2):∀ (k:Nat) (l:List α) (s:au) (m:Nat),(∀ x∈l,P x (1+m))→∀ x∈(jC W one k l s).1,P x (1+m+((jC W one k l s).2.at_-s.at_)):=by
 intro k
 induction k with
 | zero=>intro l s m hl x hx;exact hle _ _ _ (hl x hx) (by omega)
 | succ k ih =>
  intro l s m hl x hx
  unfold jC at hx ⊢
  split at hx
  ·rename_i h0
   rw[if_pos h0]
   have h1:=(ja W (str [44]) s).1
   have h2:=(hU (ay W (str [44]) s).2).1
   have h3:=(xw W hU k (l++[(one (ay W (str [44]) s).2).1]) (one (ay W (str [44]) s).2).2).1
   have h4:=ih (l++[(one (ay W (str [44]) s).2).1]) (one (ay W (str [44]) s).2).2 (m+((one (ay W (str [44]) s).2).2.at_-(ay W (str [44]) s).2.at_)) (fun y hy=>by
    rcases List.mem_append.1 hy with hy|hy
    ·exact hle _ _ _ (hl y hy) (by omega)
    ·simp only[List.mem_singleton] at hy
     subst hy
     exact hle _ _ _ (h _) (by omega)) x hx
   exact hle _ _ _ h4 (by omega)
  ·rename_i h0
   rw[if_neg h0]
   exact hle _ _ _ (hl x hx) (by omega)
theorem Rj {α:Type} (W:aV) {one:au→α×au} (P:α→Nat→Prop) (hle:∀ x k m,P x k→k≤m→P x m) (h:∀ s,P (one s).1 (1+((one s).2.at_-s.at_))) (hU:∀ s,Ge s (one s).2) (s:au):∀ x∈(iE W one s).1,P x (1+((iE W one s).2.at_-s.at_)):=fun x hx=>by
 have h1:=acb W P hle h hU W.fuel [(one s).1] (one s).2 ((one s).2.at_-s.at_) (fun y hy=>by
  simp only[List.mem_singleton] at hy
  subst hy
  exact h s) x hx
 have h2:=(hU s).1
 have h3:=(xw W hU W.fuel [(one s).1] (one s).2).1
 exact hle _ _ _ h1 (by show _≤1+((jC W one W.fuel [(one s).1] (one s).2).2.at_-s.at_);omega)
theorem Rk (W:aV) (s:au):∀ x∈(fG W s).1,Lj x (1+((fG W s).2.at_-s.at_)):=Rj W Lj (fun _ _ _ h hm=>h.le hm) (oZ W) (dJ W) s
theorem aeO (W:aV) (s:au):∀ x∈(iE W (kY W) s).1,Lj x.2 (1+((iE W (kY W) s).2.at_-s.at_)) :=
 Rj W (fun (x:ByteArray×Ex) k=>Lj x.2 k) (fun (x:ByteArray×Ex) k m (h:Lj x.2 k) (hm:k≤m)=>(h.le hm:Lj x.2 m)) (fun s=>by
  have h1:=((jK W s).trans (bY W (str [61]) _)).1
  exact(oZ W (ak W [str [61]] (aS W s).2)).le (by show _≤1+((aZ W (ak W [str [61]] (aS W s).2)).2.at_-s.at_);have:=(dJ W (ak W [str [61]] (aS W s).2)).1;omega)) (Nk W) s
def DS (one:au→St×au):Prop:=∀ s,JJ (one s).1 (1+((one s).2.at_-s.at_))
theorem uO {e:Ex} {k m:Nat} (h:Lj e k) (hm:k≤m):∀ x∈[e],Lj x m:=fun x hx=>by
 simp only[List.mem_singleton] at hx
 subst hx
 exact h.le hm
theorem kG {k:Nat}:∀ x∈([]:List St),JJ x k:=fun x hx=>by cases hx
theorem Ll (W:aV) (op:Int) (s:au):JJ (iF W op s).1 (2+((iF W op s).2.at_-s.at_)):=by
 have h1:=((jK W s).trans (bY W (str [61]) _)).1
 have h2:=(dJ W (ak W [str [61]] (aS W s).2)).1
 exact(uq (k:=1+((aZ W (ak W [str [61]] (aS W s).2)).2.at_-s.at_)) (uO (oZ W (ak W [str [61]] (aS W s).2)) (by omega)) kG kG).le (by show _≤2+((aZ W (ak W [str [61]] (aS W s).2)).2.at_-s.at_);omega)
theorem V6 (W:aV) (op:Int) (s:au):JJ (oU W op s).1 (2+((oU W op s).2.at_-s.at_)):=by
 have h1:=((jK W s).trans ((bY W (str [40]) _).trans (dW _))).1
 have h2:=(D9 W (aG (ak W [str [40]] (aS W s).2))).1
 have h3:=((bY W (str [41]) (fG W (aG (ak W [str [40]] (aS W s).2))).2).trans (jb _)).1
 exact(uq (k:=1+((fG W (aG (ak W [str [40]] (aS W s).2))).2.at_-s.at_)) (fun x hx=>(Rk W _ x hx).le (by omega)) kG kG).le (by show _≤2+((dw (ak W [str [41]] (fG W (aG (ak W [str [40]] (aS W s).2))).2)).at_-s.at_);omega)
theorem XX (W:aV) (s:au):JJ (jX W s).1 (2+((jX W s).2.at_-s.at_)):=by
 have h1:=(kN W s).1
 have h2:=(jB W (dJ W) (bF W s).2).1
 have h4:=Ei W (oZ W) (bF W s).2
 rw[Jt]
 generalize bG W (aZ W) (bF W s).2=a at *
 have h3:=(bY W (str [115,101,116]) a.2).1
 have h5:=(Jz W (Nk W) (ak W [str [115,101,116]] a.2)).1
 have h6:=aeO W (ak W [str [115,101,116]] a.2)
 generalize iE W (kY W) (ak W [str [115,101,116]] a.2)=l at *
 refine(uq (k:=1+(l.2.at_-s.at_)) (fun x hx=>?_) kG kG).le (by show _≤2+(l.2.at_-s.at_);omega)
 rcases List.mem_cons.1 hx with rfl|hx
 ·exact h4.le (by omega)
 ·obtain⟨y,hy,rfl⟩:=List.mem_map.1 hx
  exact(h6 y hy).le (by omega)
theorem acd (W:aV):DS (dH W):=fun s=>by
 have key:∀ (t:ByteArray) (x:St×au),(ay W t s).1=true→Ge (ay W t s).2 x.2→JJ x.1 (2+(x.2.at_-(ay W t s).2.at_))→JJ x.1 (1+(x.2.at_-s.at_)):=fun t x ht hg h=>by
  have e:(ay W t s).2.at_=s.at_+1:=by rw[(pX ht).1];rfl
  have:=hg.1
  exact h.le (by omega)
 have hdel:∀ s,JJ (abC W s).1 (2+((abC W s).2.at_-s.at_)):=fun s=>by
  have h1:=(kN W s).1
  have h2:=(jB W (dJ W) (bF W s).2).1
  exact(uq (k:=1+((bG W (aZ W) (bF W s).2).2.at_-s.at_)) (uO (Ei W (oZ W) (bF W s).2) (by omega)) kG kG).le (by show _≤2+((bG W (aZ W) (bF W s).2).2.at_-s.at_);omega)
 have aiq:∀ s,JJ (Jv W s).1 (2+((Jv W s).2.at_-s.at_)):=fun s=>(uq (k:=1+((aZ W s).2.at_-s.at_)) (uO (oZ W s) (Nat.le_refl _)) kG kG).le (by show _≤2+((aZ W s).2.at_-s.at_);omega)
 have air:∀ s,JJ (Jw W s).1 (2+((Jw W s).2.at_-s.at_)):=fun s=>(uq (k:=1+((fG W s).2.at_-s.at_)) (Rk W s) kG kG).le (by show _≤2+((fG W s).2.at_-s.at_);omega)
 rw[ER]
 split
 ·rename_i h;exact key _ _ h (xY W _ _) (Ll W _ _)
 ·split
  ·rename_i h;exact key _ _ h (xY W _ _) (Ll W _ _)
  ·split
   ·rename_i h;exact key _ _ h (Iw W _ _) (V6 W _ _)
   ·split
    ·rename_i h;exact key _ _ h (Iw W _ _) (V6 W _ _)
    ·split
     ·rename_i h;exact key _ _ h (KY W _) (XX W _)
     ·split
      ·rename_i h;exact key _ _ h ((kN W _).trans (jB W (dJ W) _)) (hdel _)
      ·split
       ·rename_i h;exact key _ _ h (dJ W _) (aiq _)
       ·split
        ·rename_i h;exact key _ _ h (D9 W _) (air _)
        ·exact(uq (k:=0) (fun x hx=>by cases hx) kG kG).le (by omega)
def DB (B:au→List St×au):Prop:=∀ s,∀ x∈(B s).1,JJ x (1+((B s).2.at_-s.at_))
section
variable (W:aV) {B:au→List St×au} (hB:DB B) (hU:∀ s,Ge s (B s).2)
include hB hU
theorem ais (s:au):JJ (MZ W B s).1 (2+((MZ W B s).2.at_-s.at_)):=by
 rw[VY]
 have h1:=(kN W s).1
 have h2:=(jB W (dJ W) (bF W s).2).1
 have h4:=Ei W (oZ W) (bF W s).2
 generalize bG W (aZ W) (bF W s).2=a at *
 have h3:a.2.at_≤(if (ay W (str [108,105,109,105,116]) a.2).1 then kE W (ay W (str [108,105,109,105,116]) a.2).2 else (0,a.2)).2.at_:=by
  split
  ·exact((ja W _ a.2).trans (JA W _)).1
  ·exact Nat.le_refl _
 generalize (if (ay W (str [108,105,109,105,116]) a.2).1 then kE W (ay W (str [108,105,109,105,116]) a.2).2 else (0,a.2))=n at *
 have h5:=(hU n.2).1
 have h6:=hB n.2
 generalize B n.2=b at *
 exact(uq (k:=1+(b.2.at_-s.at_)) (uO h4 (by omega)) (fun x hx=>(h6 x hx).le (by omega)) kG).le (by show _≤2+(b.2.at_-s.at_);omega)
theorem als (s:au):JJ (ifP W B s).1 (2+((ifP W B s).2.at_-s.at_)):=by
 rw[abH]
 have h1:=(dJ W s).1
 have h2:=oZ W s
 generalize aZ W s=e at *
 have h3:=(hU e.2).1
 have h4:=hB e.2
 generalize B e.2=b at *
 split
 ·have h5:=(ja W (str [101,108,115,101]) b.2).1
  have h6:=(hU (ay W (str [101,108,115,101]) b.2).2).1
  have h7:=hB (ay W (str [101,108,115,101]) b.2).2
  generalize B (ay W (str [101,108,115,101]) b.2).2=c at *
  exact(uq (k:=1+(c.2.at_-s.at_)) (uO h2 (by omega)) (fun x hx=>(h4 x hx).le (by omega)) (fun x hx=>(h7 x hx).le (by omega))).le (by show _≤2+(c.2.at_-s.at_);omega)
 ·exact(uq (k:=1+(b.2.at_-s.at_)) (uO h2 (by omega)) (fun x hx=>(h4 x hx).le (by omega)) kG).le (by show _≤2+(b.2.at_-s.at_);omega)
theorem aeP:DS (jD W B):=fun s=>by
 have key:∀ (t:ByteArray) (x:St×au),(ay W t s).1=true→Ge (ay W t s).2 x.2→JJ x.1 (2+(x.2.at_-(ay W t s).2.at_))→JJ x.1 (1+(x.2.at_-s.at_)):=fun t x ht hg h=>by
  have e:(ay W t s).2.at_=s.at_+1:=by rw[(pX ht).1];rfl
  have:=hg.1
  exact h.le (by omega)
 rw[QO]
 split
 ·rename_i h;exact key _ _ h (abD W hU _) (ais W hB hU _)
 ·split
  ·rename_i h;exact key _ _ h (agD W hU _) (als W hB hU _)
  ·have h1:=(bY W (str [59]) (dH W s).2).1
   exact(acd W s).le (by show _≤1+((ak W [str [59]] (dH W s).2).at_-s.at_);omega)
end
theorem ace (W:aV) {one:au→St×au} (h:DS one) (hU:∀ s,Ge s (one s).2):∀ (k:Nat) (l:List St) (s:au) (m:Nat),(∀ x∈l,JJ x (1+m))→∀ x∈(jc W one k l s).1,JJ x (1+m+((jc W one k l s).2.at_-s.at_)):=by
 intro k
 induction k with
 | zero=>intro l s m hl x hx;exact(hl x hx).le (by omega)
 | succ k ih =>
  intro l s m hl x hx
  unfold jc at hx ⊢
  split at hx
  ·rename_i h0
   rw[if_pos h0]
   have h2:=(hU s).1
   have h3:=(JB W hU k (l++[(one s).1]) (one s).2).1
   have h4:=ih (l++[(one s).1]) (one s).2 (m+((one s).2.at_-s.at_)) (fun y hy=>by
    rcases List.mem_append.1 hy with hy|hy
    ·exact(hl y hy).le (by omega)
    ·simp only[List.mem_singleton] at hy
     subst hy
     exact(h s).le (by omega)) x hx
   exact h4.le (by omega)
  ·rename_i h0
   rw[if_neg h0]
   exact(hl x hx).le (by omega)
theorem acf (W:aV):∀ f,DB (gG W f):=by
 intro f
 induction f with
 | zero=>intro s x hx;cases hx
 | succ f ih =>
  intro s x hx
  have hU:=fun s=>(ES W (xx W f) s).1
  have h1:=((bY W (str [123]) s).trans (dW _)).1
  have h2:=(JB W hU W.fuel [] (aG (ak W [str [123]] s))).1
  have h3:=((bY W (str [125]) (jc W (jD W (gG W f)) W.fuel [] (aG (ak W [str [123]] s))).2).trans (jb _)).1
  have h4:=ace W (aeP W ih (xx W f)) hU W.fuel [] (aG (ak W [str [123]] s)) 0 (fun y hy=>by cases hy) x hx
  exact h4.le (by show _≤1+((dw (ak W [str [125]] (jc W (jD W (gG W f)) W.fuel [] (aG (ak W [str [123]] s))).2)).at_-s.at_);omega)
theorem aC.low {F:Nat→Prop} {w:World}:∀ (D:Nat) {r:List Value} {e:Ex},aC F D w r e→aC F (dQ D e) w r e:=by
 intro D
 induction D with
 | zero=>intro r e h;exact h.elim
 | succ D ih =>
  intro r e h
  obtain⟨h1,h2,h3,h4,h5,A,m,c,hr,hl⟩:=h.open_
  rw[dQ,Nat.add_comm]
  refine⟨h1,h2,h3,h4,h5,A,m,c,hr,ai.conv hl (Kept.refl _ _) (fun _ _ _ h=>h) (fun r x hx h=>?_)⟩
  exact aC.conv (fun _ h=>h) (Kept.refl _ _) _ (Eh (List.mem_map.2 ⟨x,hx,rfl⟩)) (ih h)
theorem bQ.low {F:Nat→Prop} {w:World}:∀ (D:Nat) {r:List Value} {e:St},bQ F D w r e→bQ F (dN D e) w r e:=by
 intro D
 induction D with
 | zero=>intro r e h;exact h.elim
 | succ D ih =>
  intro r e h
  obtain⟨h1,h2,h3,h4,Ac,nc,cc,Ae,ne,ce,Ab,nb,cb,Al,nl,cl,hr,hc,he,hb,hl⟩:=h.open_
  rw[dN,Nat.add_comm]
  refine⟨h1,h2,h3,h4,Ac,nc,cc,Ae,ne,ce,Ab,nb,cb,Al,nl,cl,hr,hc,ai.conv he (Kept.refl _ _) (fun _ _ _ h=>h) (fun r x hx h=>?_),ai.conv hb (Kept.refl _ _) (fun _ _ _ h=>h) (fun r x hx h=>?_),ai.conv hl (Kept.refl _ _) (fun _ _ _ h=>h) (fun r x hx h=>?_)⟩
  ·exact aC.conv (fun _ h=>h) (Kept.refl _ _) _ (Nat.le_trans (Eh (List.mem_map.2 ⟨x,hx,rfl⟩)) (by omega)) (aC.low D h)
  ·exact bQ.conv (fun _ h=>h) (Kept.refl _ _) _ (Nat.le_trans (Eh (List.mem_map.2 ⟨x,hx,rfl⟩)) (by omega)) (ih h)
  ·exact bQ.conv (fun _ h=>h) (Kept.refl _ _) _ (Nat.le_trans (Eh (List.mem_map.2 ⟨x,hx,rfl⟩)) (by omega)) (ih h)
theorem acg {F:Nat→Prop} {w:World} {D:Nat} {r:List Value} (W:aV) (s:au) (h:lH F D w r (jT W s).1) (hl:(jT W s).2.at_≤8999):lH F 9000 w r (jT W s).1:=by
 have hb:=acf W W.fuel
 rw[JF] at h hl ⊢
 generalize (uM W (oW W (dw (ak W [str [41]] (tZ W (aG (ak W [str [40]] (aS W (ak W [str [112,114,111,99]] s)).2))).2))).2)=u at *
 obtain⟨h1,h2,h3,h4,Ap,np,cp,Ab,nb,cb,hr,hp,hbl⟩:=h
 refine⟨h1,h2,h3,h4,Ap,np,cp,Ab,nb,cb,hr,hp,ai.conv hbl (Kept.refl _ _) (fun _ _ _ h=>h) (fun r x hx h=>?_)⟩
 exact bQ.conv (fun _ h=>h) (Kept.refl _ _) _ (Nat.le_trans (hb u.2 x hx D) (by have:(gG W W.fuel u.2).2.at_≤8999:=hl;omega)) (bQ.low D h)
open Go.RowKit Go.Afx
def Ib {α:Type} (z:α) (right:α→Bool) (W:aV) (r:α×au):α×Int×Int :=
 if r.2.over then (z,0,14) else if r.2.bad||decide (r.2.at_<W.l.length) then (z,(W.look r.2.at_).at_,12) else if right r.1 then (r.1,0,0) else (z,0,14)
def uP {α:Type} (z:α) (right:α→Bool) (run:aV→au→α×au) (L:List UInt8):α×Int×Int :=
 if 8000<L.length then (z,0,5) else match QY L with
  | .inl a=>(z,(a:Int),12)
  | .inr ws=>Ib z right ⟨ws,L.length⟩ (run ⟨ws,L.length⟩ au.start)
def V7:Pr:=⟨nil0,nil0,nil0,0,[],[]⟩
def vU (L:List UInt8):Pr×Int×Int:=uP V7 (cZ 9000) jT L
theorem UM {α:Type} {z:α} {right:α→Bool} {run:aV→au→α×au} {L:List UInt8} (h:8000<L.length):uP z right run L=(z,0,5):=by unfold uP;rw[if_pos h]
theorem XY {α:Type} {z:α} {right:α→Bool} {run:aV→au→α×au} {L:List UInt8} {a:Nat} (h:¬ 8000<L.length) (hl:QY L=.inl a):uP z right run L=(z,(a:Int),12):=by unfold uP;rw[if_neg h,hl]
theorem Lm {α:Type} {z:α} {right:α→Bool} {run:aV→au→α×au} {L:List UInt8} {ws:List Wd} (h:¬ 8000<L.length) (hl:QY L=.inr ws):uP z right run L=Ib z right ⟨ws,L.length⟩ (run ⟨ws,L.length⟩ au.start):=by unfold uP;rw[if_neg h,hl]
theorem XZ {α:Type} (W:aV) {one:au→α×au} (hU:∀ s,Ge s (one s).2):∀ (k:Nat) (l:List α) (s:au),(jC W one k l s).1.length≤l.length+((jC W one k l s).2.at_-s.at_):=by
 intro k
 induction k with
 | zero=>intro l s;show l.length≤_;omega
 | succ k ih =>
  intro l s
  unfold jC
  split
  ·rename_i h
   have h0:(ay W (str [44]) s).2.at_=s.at_+1:=by rw[(pX h).1];rfl
   have h1:=(hU (ay W (str [44]) s).2).1
   have h2:=ih (l++[(one (ay W (str [44]) s).2).1]) (one (ay W (str [44]) s).2).2
   have h3:=(xw W hU k (l++[(one (ay W (str [44]) s).2).1]) (one (ay W (str [44]) s).2).2).1
   rw[List.length_append,List.length_singleton] at h2
   omega
  ·show l.length≤_;omega
theorem UN (W:aV) (s:au):(jT W s).1.params.length≤1+(jT W s).2.at_:=by
 have hb:=fun s=>(xx W W.fuel s).1
 have hf:∀ s,s.at_≤(uM W s).2.at_:=fun s=>by
  rw[JE]
  split
  ·exact((ja W _ s).trans (Ue W _)).1
  ·exact Nat.le_refl _
 have hr:∀ s,s.at_≤(oW W s).2.at_:=fun s=>by
  unfold oW
  split
  ·exact((ja W _ s).trans (jK W _)).1
  ·split
   ·exact((ja W _ s).trans (jK W _)).1
   ·exact Nat.le_refl _
 have hh:∀ s,(tZ W s).1.length≤1+(tZ W s).2.at_:=fun s=>by
  unfold tZ
  split
  ·simp
  ·have h1:=XZ W (JD W) W.fuel [(dO W s).1] (dO W s).2
   have h2:=(xw W (JD W) W.fuel [(dO W s).1] (dO W s).2).1
   show (jC W (dO W) W.fuel [(dO W s).1] (dO W s).2).1.length≤1+(jC W (dO W) W.fuel [(dO W s).1] (dO W s).2).2.at_
   rw[List.length_singleton] at h1
   omega
 rw[JF]
 have h1:=hh (aG (ak W [str [40]] (aS W (ak W [str [112,114,111,99]] s)).2))
 generalize tZ W (aG (ak W [str [40]] (aS W (ak W [str [112,114,111,99]] s)).2))=l at *
 have h2:=((bY W (str [41]) l.2).trans (jb _)).1
 have h3:=hr (dw (ak W [str [41]] l.2))
 have h4:=hf (oW W (dw (ak W [str [41]] l.2))).2
 have h5:=hb (uM W (oW W (dw (ak W [str [41]] l.2))).2).2
 show l.1.length≤1+(gG W W.fuel (uM W (oW W (dw (ak W [str [41]] l.2))).2).2).2.at_
 omega
theorem Kw (F:Nat→Prop) (gx:Nat) (p:Pr) (row:List Value) (w:World) (hx:af w gx 30 row.toArray) (h:lH F 9000 w row p) (hbig:p.params.length≤1000000) :
  Calls Tryz.prog 22 #[.pointer (some ⟨gx,0,none⟩)] w fun e w'=>e=.returned (.bool (cZ 9000 p))∧Below w.heap.size w w':=by
 have hr:=KO F 9000 p row w h (by omega) hbig
 obtain⟨_,_,_,_,Ap,np,cp,Ab,nb,cb,rfl,_⟩:=h
 obtain⟨x0,x1,x2,x3,x4,x5,xl⟩:=aH hx
 generalize cZ 9000 p=q at *
 have Hr:=ae hr
 clear hr hx
 go_enter Tryz.func22,Tryz.ntmps22
 go_wp2_with (fail)
 refine Hr.out.mono ?_
 rintro e w2 ⟨rfl,hb⟩
 have Hb:=ae hb
 clear hb
 go_wp2
 go_ret
 exact⟨rfl,Hb.out⟩
def ach (gx:Nat) (w:World) (x:Pr×Int×Int) (e:Ending) (w':World):Prop:=e=.returned (.tuple #[.int .i64 x.2.1,.int .i64 x.2.2])∧But (fun k=>k=gx) w w'∧(x.2.2=0→(∃ row,af w' gx 30 row.toArray∧lH (Fr w) 9000 w' row x.1)∧x.1.params.length≤1000000)
theorem JK (s:ByteArray) (gx g0:Nat) (w:World) (hx:af w gx 30 Ea) (h0:g0<w.heap.size∧g0≠gx) :
  Calls Tryz.prog 19 #[.string s,.func (.func 20) #[] #[.pointer (some ⟨gx,0,none⟩)],.func (.func 22) #[] #[.pointer (some ⟨gx,0,none⟩)]] w (ach gx w (vU s.data.toList)):=by
 have hwd:=Nw s w
 have Hx:=ae hx
 unfold EW at hwd
 rw[zq] at hwd
 rcases Nat.lt_or_ge 8000 s.size with h8|h8
 ·simp only[if_pos h8] at hwd
  have e:vU s.data.toList=(V7,0,5):=UM (by rw[zq];exact h8)
  rw[e]
  have MN:=ae hwd
  clear hwd hx h0 h8 e
  go_enter Tryz.func19,Tryz.ntmps19
  go_wp2_with (fail)
  refine MN.out.mono ?_
  rintro e w1 ⟨rfl,hb⟩
  have Hb:=ae hb
  clear hb
  go_wp2
  go_ret2
  exact⟨rfl,But.of_below Hb.out,fun h=>by cases h⟩
 ·have h8n:¬ 8000<s.size:=by omega
  simp only[if_neg h8n] at hwd
  cases hl:QY s.data.toList with
  | inl a =>
   rw[hl] at hwd
   have e:vU s.data.toList=(V7,(a:Int),12):=XY (by rw[zq];exact h8n) hl
   rw[e]
   have MN:=ae hwd
   clear hwd hx h0 h8 h8n e hl
   go_enter Tryz.func19,Tryz.ntmps19
   go_wp2_with (fail)
   refine MN.out.mono ?_
   rintro e w1 ⟨hS,hb⟩
   have hS:e=.returned (.tuple #[.slice none 0 0,.int .i64 a,.int .i64 12]):=hS
   subst hS
   have Hb:=ae hb
   clear hb
   go_wp2
   go_ret2
   exact⟨rfl,But.of_below Hb.out,fun h=>by cases h⟩
  | inr ws =>
   rw[hl] at hwd
   have e:vU s.data.toList=Ib V7 (cZ 9000) ⟨ws,s.data.toList.length⟩ (jT ⟨ws,s.data.toList.length⟩ au.start):=Lm (by rw[zq];exact h8n) hl
   rw[zq] at e
   rw[e]
   have MN:=ae hwd
   obtain⟨W,HW⟩:∃ W:aV,Hid (W=⟨ws,s.size⟩):=⟨_,rfl⟩
   rw[← HW.out]
   have hWl:W.l=ws:=by rw[HW.out]
   have hWe:W.end_=s.size:=by rw[HW.out]
   have HWl:=ae (And.intro hWl hWe)
   have H8:=ae h8
   have H0:=ae h0
   clear hwd hx h0 h8 h8n e hl hWl hWe
   go_enter Tryz.func19,Tryz.ntmps19
   go_wp2_with (fail)
   refine MN.out.mono ?_
   rintro e w1 ⟨⟨A,c,rfl,hown,hok,hlen⟩,hb1⟩
   have hon:=on_any w.heap.size g0 A c W w1 (by rw[HWl.out.1];have:=H8.out;omega) (by rw[HWl.out.1];exact hown) (by rw[HWl.out.1];exact hok) (by rw[HWl.out.2];have:=H8.out;unfold okI;omega) (Nat.lt_of_lt_of_le H0.out.1 hb1.size)
   rw[HWl.out.1,HWl.out.2] at hon
   have H1:=ae (And.intro hb1 hlen)
   have Hon:=ae hon
   clear hown hok hlen hb1 hon
   go_wp2_with (fail)
   refine Hon.out.mono ?_
   rintro e w2 ⟨gc,gw,rfl,hcu,hgw,alv,hgc,hb2⟩
   have hx2:=(Hx.out.ag (H1.out.1.block _ Hx.out.lt)).ag (hb2.block _ (Nat.lt_of_lt_of_le Hx.out.lt H1.out.1.size))
   have hal:=(Below.refl w2.heap.size w2).alloc (Nat.le_refl _) (.cells #[.pointer (some ⟨gc,0,none⟩),.int .i64 0,.bool false,.bool false] 99)
   have hz1:=H1.out.1.size
   have hz2:=hb2.size
   have hz0:=H0.out
   have hzx:=Hx.out.lt
   have an9:=hcu.lt
   have hoff:=hcu.off
   obtain⟨gp,Hgp⟩:∃ gp,Hid (gp=w2.heap.size):=⟨_,rfl⟩
   have hP:aW gp gc gw W au.start (w2.alloc (.cells #[.pointer (some ⟨gc,0,none⟩),.int .i64 0,.bool false,.bool false] 99)):=by
    rw[Hgp.out]
    exact⟨af.laid _ _ _,hcu.below hal,by omega,by omega,by simp;omega⟩
   have hx3:=hx2.alloc (.cells #[.pointer (some ⟨gc,0,none⟩),.int .i64 0,.bool false,.bool false] 99)
   have hb3:=H1.out.1.trans ((hb2.trans (hal.mono hz2)).mono hz1)
   obtain⟨w3,KT⟩:∃ w3,Hid (w3=w2.alloc (.cells #[.pointer (some ⟨gc,0,none⟩),.int .i64 0,.bool false,.bool false] 99)):=⟨_,rfl⟩
   rw[← KT.out] at hP hx3 hb3
   have hne:gp≠gx∧gc≠gx∧gw≠gx:=by have:=Hgp.out;refine⟨by omega,by omega,?_⟩;rcases alv with e|e<;>omega
   have hfr:w.heap.size≤gp∧w.heap.size≤gc:=by have:=Hgp.out;omega
   have hW:W.l.length≤1000000:=by rw[HWl.out.1];have:=H1.out.2;have:=H8.out;omega
   have ait:=Q7 gp gc gw gx W hW au.start w3 _ hP hx3 rfl hne
   have aiu:∀ t:au,t.at_≤W.l.length→t.at_≤8000:=fun t ht=>by rw[HWl.out.1] at ht;have:=H1.out.2;have:=H8.out;omega
   have hlow:=fun w' row D (h:lH (Fr w3) D w' row (jT W au.start).1) (ht:(jT W au.start).2.at_≤W.l.length)=>acg W au.start h (by have:=aiu _ ht;omega)
   have hfew:=fun (ht:(jT W au.start).2.at_≤W.l.length)=>(show (jT W au.start).1.params.length≤1000000 by have:=UN W au.start;have:=aiu _ ht;omega)
   have H3:=ae (And.intro hP (And.intro hb3 (And.intro hne hfr)))
   generalize jT W au.start=r at *
   obtain⟨p,t⟩:=r
   simp only at hlow ait hfew
   have aoa:=ae ait
   have wG:=ae hlow
   have aiv:=ae hfew
   clear hfew
   clear hcu hgw alv hgc hb2 hx2 hal hz1 hz2 hz0 hzx an9 hoff hP hx3 hb3 hne hfr ait hlow aiu hW
   go_upto_region 5 with (fail)
   rw[← KT.out,← Hgp.out]
   go_wp2_with (fail)
   refine aoa.out.mono ?_
   rintro e w4 ⟨rfl,⟨row,D,hxr,hpr⟩,hP,hB⟩
   obtain⟨d0,d1,d2,d3,dg⟩:=cells4 hP.blk
   have alx:=wG.out w4 row D hpr hP.le
   have hB0:But (fun k=>k=gx) w w4:=(But.of_below H3.out.2.1).trans hB (fun i hi=>by have:=H3.out.2.2.2;rcases hi with e|e|e;exact .inr (by omega);exact .inr (by omega);exact .inl e)
   have H4:=ae (And.intro hP (And.intro hxr (And.intro alx hB0)))
   clear hpr alx hB hB0 hxr
   cases hov:t.over with
   | true =>
    rw[hov] at d2
    have e:Ib V7 (cZ 9000) W (p,t)=(V7,0,14):=by unfold Ib;rw[if_pos hov]
    have He:=ae e
    clear hov e hP
    go_wp2
    go_ret2
    rw[He.out]
    exact⟨rfl,H4.out.2.2.2,fun h=>by cases h⟩
   | false =>
    rw[hov] at d2
    have hlf:=Qp _ gc t.at_ W w4 hP.cu
    have hwo:=fun w5 (h5:aW gp gc gw W t w5)=>uH _ gc t.at_ W w5 h5.cu
    have Hlf:=ae hlf
    have Hwo:=ae hwo
    clear hlf hwo
    have Rl:(t.bad||decide (t.at_<W.l.length))=true→Ib V7 (cZ 9000) W (p,t)=(V7,(W.look t.at_).at_,12):=fun h=>by
     unfold Ib
     rw[if_neg (by rw[hov];decide),if_pos h]
    have hfd:∀ (a:Int) (b:ByteArray) (c d:Int) (W:World),(Instr.field 101 (.agg #[.int .i64 a,.string b,.int .i64 c,.int .i64 d]) 3).run Tryz.prog W=.ok (.int .i64 d) W:=fun _ _ _ _ _=>by kernel_rfl
    cases hbad:t.bad with
    | true =>
     rw[hbad] at d3
     have e:=Rl (by rw[hbad];rfl)
     have He:=ae e
     generalize hlk:W.look t.at_=y at *
     obtain⟨yk,yt,yn,ya⟩:=y
     clear hov hbad e Rl hP hlk
     simp only[iO] at Hwo
     go_wp2_with (fail)
     refine(Hwo.out _ H4.out.1).mono ?_
     rintro e w5 ⟨rfl,hb5⟩
     have Hb5:=ae hb5
     clear hb5
     go_wp2
     go_ret2
     rw[He.out]
     exact⟨rfl,H4.out.2.2.2.kT Hb5.out,fun h=>by cases h⟩
    | false =>
     rw[hbad] at d3
     rcases Nat.lt_or_ge t.at_ W.l.length with hlt|hge
     ·have e:=Rl (by rw[hbad];simpa using hlt)
      have He:=ae e
      have hpos:(0:Int)<((W.l.length-t.at_:Nat):Int):=by omega
      generalize W.l.length-t.at_=left at *
      generalize hlk:W.look t.at_=y at *
      obtain⟨yk,yt,yn,ya⟩:=y
      clear hov hbad e Rl hP hlk hlt
      simp only[iO] at Hwo
      go_wp2_with (fail)
      refine Hlf.out.mono ?_
      rintro e w5 ⟨rfl,hb5⟩
      have pz:=H4.out.1.below hb5
      have Hb5:=ae (And.intro pz hb5)
      have hk5:=pz.blk
      clear d0 d1 d2 d3 dg
      obtain⟨d0,d1,d2,d3,dg⟩:=cells4 hk5
      clear hb5 pz hk5
      go_wp2_with (fail)
      refine(Hwo.out _ Hb5.out.1).mono ?_
      rintro e w6 ⟨rfl,hb6⟩
      have X0:=ae hb6
      clear hb6
      go_wp2
      go_ret2
      rw[He.out]
      exact⟨rfl,(H4.out.2.2.2.kT Hb5.out.2).kT X0.out,fun h=>by cases h⟩
     ·have hz:W.l.length-t.at_=0:=by omega
      rw[hz] at Hlf
      have hend:Ib V7 (cZ 9000) W (p,t)=if cZ 9000 p then (p,0,0) else (V7,0,14):=by
       unfold Ib
       rw[if_neg (by rw[hov];decide),if_neg (by rw[hbad];simpa using hge)]
      have FM:=aiv.out hP.le
      have Hf6:=ae FM
      have hrc:=fun w5 (h5:Below w4.heap.size w4 w5)=>Kw (Fr w3) gx p row w5 (H4.out.2.1.ag (h5.block _ H4.out.2.1.lt)) (H4.out.2.2.1.below h5) FM
      have IG:=ae hend
      generalize cZ 9000 p=q at *
      have Hrc:=ae hrc
      clear hov hbad Rl hz hrc hP hge hend FM
      cases q with
      | true =>
       have hend:=IG.out
       rw[if_pos rfl] at hend
       have He:=ae hend
       clear hend
       go_wp2_with (fail)
       refine Hlf.out.mono ?_
       rintro e w5 ⟨rfl,hb5⟩
       have Hb5:=ae hb5
       clear hb5
       go_wp2_with (fail)
       refine(Hrc.out _ Hb5.out).mono ?_
       rintro e w6 ⟨rfl,hb6⟩
       have X0:=ae (Hb5.out.trans (hb6.mono Hb5.out.size))
       clear hb6
       go_wp2
       go_ret2
       rw[He.out]
       refine⟨rfl,H4.out.2.2.2.kT X0.out,fun _=>⟨⟨row,H4.out.2.1.ag (X0.out.block _ H4.out.2.1.lt),?_⟩,Hf6.out⟩⟩
       exact lH.conv (fun k (hk:w3.heap.size≤k)=>by show w.heap.size≤k;have:=H3.out.2.1.size;omega) (Kept.of_below X0.out) (Nat.le_refl 9000) H4.out.2.2.1
      | false =>
       have hend:=IG.out
       rw[if_neg (by decide)] at hend
       have He:=ae hend
       clear hend
       go_wp2_with (fail)
       refine Hlf.out.mono ?_
       rintro e w5 ⟨rfl,hb5⟩
       have Hb5:=ae hb5
       clear hb5
       go_wp2_with (fail)
       refine(Hrc.out _ Hb5.out).mono ?_
       rintro e w6 ⟨rfl,hb6⟩
       have X0:=ae (Hb5.out.trans (hb6.mono Hb5.out.size))
       clear hb6
       go_wp2
       go_ret2
       rw[He.out]
       exact⟨rfl,H4.out.2.2.2.kT X0.out,fun h=>by cases h⟩
end Go.Proofs.YtjjfkhbajidmdaaGreatDoor

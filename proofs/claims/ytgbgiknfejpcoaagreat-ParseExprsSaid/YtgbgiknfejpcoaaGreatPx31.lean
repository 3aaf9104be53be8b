/- Parts of this proof, one behind the other: ParDp. -/
import Derived.Test.YtgbgiknfejpcoaaGreatPx30
set_option maxRecDepth 1000000
set_option maxHeartbeats 40000000
namespace Go.Proofs.YtgbgiknfejpcoaaGreat
open Go.RowKit Go.Afx
theorem maxN_mem {l:List Nat} {x:Nat} (h:x∈l):x≤maxN l:=by
 induction l with
 | nil=>cases h
 | cons a l ih =>
  rw[maxN_cons]
  rcases List.mem_cons.1 h with rfl|h
  ·omega
  ·have:=ih h;omega
def DpE (e:Ex) (k:Nat):Prop:=∀ D,dptE D e≤k
def DpS (x:St) (k:Nat):Prop:=∀ D,dptS D x≤k
theorem DpE.le {e:Ex} {k m:Nat} (h:DpE e k) (hm:k≤m):DpE e m:=fun D=>Nat.le_trans (h D) hm
theorem DpS.le {e:St} {k m:Nat} (h:DpS e k) (hm:k≤m):DpS e m:=fun D=>Nat.le_trans (h D) hm
theorem dpE_mk {op n:Int} {a b c:ByteArray} {l:List Ex} {k:Nat} (h:∀ x∈l,DpE x k):DpE (.mk op n a b c l) (k+1):=fun D=>by
 cases D with
 | zero=>simp[dptE]
 | succ D =>
  rw[dptE]
  have:maxN ((Ex.mk op n a b c l).args.map (dptE D))≤k:=maxN_le fun x hx=>by
   obtain⟨y,hy,rfl⟩:=List.mem_map.1 hx
   exact h y hy D
  omega
theorem dpE_leaf {op n:Int} {a b c:ByteArray} (k:Nat) (hk:1≤k):DpE (.mk op n a b c []) k:=(dpE_mk (k:=0) (fun x hx=>by cases hx)).le hk
theorem dpS_mk {op n:Int} {a b:ByteArray} {c:List ByteArray} {l:List Ex} {bo el:List St} {k:Nat} (h:∀ x∈l,DpE x k) (hb:∀ x∈bo,DpS x k) (he:∀ x∈el,DpS x k):DpS (.mk op a b n c l bo el) (k+1):=fun D=>by
 cases D with
 | zero=>simp[dptS]
 | succ D =>
  rw[dptS]
  have h1:maxN ((St.mk op a b n c l bo el).exprs.map (dptE D))≤k:=maxN_le fun x hx=>by
   obtain⟨y,hy,rfl⟩:=List.mem_map.1 hx
   exact h y hy D
  have h2:maxN ((St.mk op a b n c l bo el).body.map (dptS D))≤k:=maxN_le fun x hx=>by
   obtain⟨y,hy,rfl⟩:=List.mem_map.1 hx
   exact hb y hy D
  have h3:maxN ((St.mk op a b n c l bo el).els.map (dptS D))≤k:=maxN_le fun x hx=>by
   obtain⟨y,hy,rfl⟩:=List.mem_map.1 hx
   exact he y hy D
  omega
def DE (one:PSt→Ex×PSt):Prop:=∀ s,DpE (one s).1 (1+((one s).2.at_-s.at_))
section
variable (W:Wds)
theorem dp_chain (l:List (ByteArray×Int)) {one:PSt→Ex×PSt} (h:DE one) (hU:∀ s,Ge s (one s).2):∀ (k:Nat) (e:Ex) (s:PSt) (m:Nat),DpE e (1+m)→DpE (chainP W l one k e s).1 (1+m+((chainP W l one k e s).2.at_-s.at_)):=by
 intro k
 induction k with
 | zero=>intro e s m he;exact he.le (by omega)
 | succ k ih =>
  intro e s m he
  unfold chainP
  split
  ·exact he.le (by omega)
  ·rename_i h0
   have h1:=op_more (W:=W) (l:=l) (s:=s)
   rw[if_neg h0] at h1
   have h2:=(hU (opP W l s).2).1
   have h3:=up_chain W l hU k (twoP (opP W l s).1 e (one (opP W l s).2).1) (one (opP W l s).2).2
   have h4:=ih (twoP (opP W l s).1 e (one (opP W l s).2).1) (one (opP W l s).2).2 (1+m+((one (opP W l s).2).2.at_-(opP W l s).2.at_)) (by
    refine(dpE_mk (k:=1+m+((one (opP W l s).2).2.at_-(opP W l s).2.at_)) (fun x hx=>?_)).le (by omega)
    simp only[List.mem_cons,List.not_mem_nil,or_false] at hx
    rcases hx with rfl|rfl
    ·exact he.le (by omega)
    ·exact(h _).le (by omega))
   exact h4.le (by have:=h3.1;omega)
theorem dp_chain1 (l:List (ByteArray×Int)) {one:PSt→Ex×PSt} (h:DE one) (hU:∀ s,Ge s (one s).2):DE (chain1 W l one):=fun s=>by
 have h1:=dp_chain W l h hU W.fuel (one s).1 (one s).2 ((one s).2.at_-s.at_) (h s)
 have h2:=hU s
 have h3:=up_chain W l hU W.fuel (one s).1 (one s).2
 exact h1.le (by have:=h2.1;have:=h3.1;show _≤1+((chainP W l one W.fuel (one s).1 (one s).2).2.at_-s.at_);omega)
variable {E:PSt→Ex×PSt} (hE:DE E) (hU:∀ s,Ge s (E s).2)
include hE hU
omit hU in
theorem dp_where (s:PSt):DpE (whereP W E s).1 (1+((whereP W E s).2.at_-s.at_)):=by
 unfold whereP
 split
 ·have h1:=(ge_may W (str [119,104,101,114,101]) s).1
  exact(hE _).le (by omega)
 ·exact dpE_leaf _ (by omega)
omit hE hU in
theorem fold_more (s:PSt) (h:(isP W s (str [99,111,117,110,116])||isP W s (str [115,117,109])||isP W s (str [109,105,110])||isP W s (str [109,97,120]))=true) (hb:s.bad=false):s.at_+1≤(foldOp W s).2.at_:=by
 have key:∀ t:ByteArray,(mayP W t s).1=true→s.at_+1≤(mayP W t s).2.at_:=fun t ht=>by rw[(may_yes ht).1];exact Nat.le_refl _
 unfold foldOp
 split
 ·rename_i h1;exact key _ h1
 ·rename_i n1
  split
  ·rename_i h1;exact key _ h1
  ·rename_i n2
   split
   ·rename_i h1;exact key _ h1
   ·rename_i n3
    have e:∀ t,(mayP W t s).1=isP W s t:=fun t=>by unfold mayP;rw[hb];cases isP W s t<;>rfl
    rw[e] at n1 n2 n3
    simp only[Bool.not_eq_true] at n1 n2 n3
    rw[n1,n2,n3] at h
    simp only[Bool.or_false,Bool.false_or] at h
    have h2:(mayP W (str [109,97,120]) s).1=true:=by rw[e];exact h
    show _≤(if (mayP W (str [109,97,120]) s).1 then mustP W [] (mayP W (str [109,97,120]) s).2 else s.fail).at_
    rw[if_pos h2]
    exact key _ h2
theorem dp_fold (s:PSt) (h:(isP W s (str [99,111,117,110,116])||isP W s (str [115,117,109])||isP W s (str [109,105,110])||isP W s (str [109,97,120]))=true) (hb:s.bad=false):DpE (foldP W E s).1 (1+((foldP W E s).2.at_-s.at_)):=by
 have h0:=fold_more W s h hb
 have h1:=(ge_must W (str [40]) (foldOp W s).2).trans ((ge_enter _).trans (up_rows W _))
 have h2:=up_where W hU (rowsP W (enterP (mustP W [str [40]] (foldOp W s).2))).2
 have hw:=dp_where W hE (rowsP W (enterP (mustP W [str [40]] (foldOp W s).2))).2
 unfold foldP
 simp only
 generalize whereP W E (rowsP W (enterP (mustP W [str [40]] (foldOp W s).2))).2=a at *
 generalize (rowsP W (enterP (mustP W [str [40]] (foldOp W s).2)))=r at *
 have h5:=h1.1
 have h6:=h2.1
 split
 ·have h3:=(ge_must W (str [41]) a.2).trans (ge_leave _)
  have h7:=h3.1
  refine(dpE_mk (k:=1+(a.2.at_-r.2.at_)) (fun x hx=>?_)).le (by show _≤1+((leaveP (mustP W [str [41]] a.2)).at_-s.at_);omega)
  simp only[List.mem_singleton] at hx
  subst hx
  exact hw
 ·have h3:=ge_must W (str [58]) a.2
  have h4:=hU (mustP W [str [58]] a.2)
  have he:=hE (mustP W [str [58]] a.2)
  generalize E (mustP W [str [58]] a.2)=b at *
  have h8:=(ge_must W (str [41]) b.2).trans (ge_leave _)
  have h7:=h3.1
  have h9:=h4.1
  have h10:=h8.1
  refine(dpE_mk (k:=1+((b.2.at_-r.2.at_))) (fun x hx=>?_)).le (by show _≤1+((leaveP (mustP W [str [41]] b.2)).at_-s.at_);omega)
  simp only[List.mem_cons,List.not_mem_nil,or_false] at hx
  rcases hx with rfl|rfl
  ·exact hw.le (by omega)
  ·exact he.le (by omega)
theorem dp_single:DE (singleP W E):=fun s=>by
 unfold singleP
 split
 ·exact dpE_leaf _ (by omega)
 ·rename_i hb
  have hb:s.bad=false:=by simpa using hb
  split
  ·exact dpE_leaf _ (by omega)
  ·split
   ·exact dpE_leaf _ (by omega)
   ·split
    ·exact dpE_leaf _ (by omega)
    ·split
     ·exact dpE_leaf _ (by omega)
     ·split
      ·rename_i h;exact dp_fold W hE hU s h hb
      ·split
       ·have h1:=(ge_must W (str [40]) s).trans (ge_enter _)
        have h2:=hU (enterP (mustP W [str [40]] s))
        have h3:=(ge_must W (str [41]) (E (enterP (mustP W [str [40]] s))).2).trans (ge_leave _)
        have h4:=h1.1
        have h5:=h2.1
        have h6:=h3.1
        exact(hE (enterP (mustP W [str [40]] s))).le (by show _≤1+((leaveP (mustP W [str [41]] (E (enterP (mustP W [str [40]] s))).2)).at_-s.at_);omega)
       ·unfold varP
        simp only
        split
        ·exact dpE_leaf _ (by omega)
        ·exact dpE_leaf _ (by omega)
theorem dp_signed:∀ k,DE (signedP W E k):=by
 intro k
 induction k with
 | zero=>intro s;exact dpE_leaf _ (by omega)
 | succ k ih =>
  intro s
  unfold signedP
  split
  ·rename_i h
   have h1:=(ge_enter (mayP W (str [45]) s).2)
   have h2:=up_signed W hU k (enterP (mayP W (str [45]) s).2)
   have h0:(mayP W (str [45]) s).2.at_=s.at_+1:=by rw[(may_yes h).1];rfl
   have h3:=h1.1
   have h4:=h2.1
   refine(dpE_mk (k:=1+((signedP W E k (enterP (mayP W (str [45]) s).2)).2.at_-(enterP (mayP W (str [45]) s).2).at_)) (fun x hx=>?_)).le (by show _≤1+((signedP W E k (enterP (mayP W (str [45]) s).2)).2.at_-s.at_);omega)
   simp only[List.mem_singleton] at hx
   subst hx
   exact ih _
  ·exact dp_single W hE hU s
theorem dp_product:DE (productP W E):=dp_chain1 W _ (dp_signed W hE hU _) (up_signed W hU _)
theorem dp_sum:DE (sumP W E):=dp_chain1 W _ (dp_product W hE hU) (up_product W hU)
theorem dp_cmp:DE (cmpP W E):=fun s=>by
 have h1:=dp_sum W hE hU s
 have h2:=up_sum W hU s
 unfold cmpP
 simp only
 have h3:=op_more (W:=W) (l:=lvCmp) (s:=(sumP W E s).2)
 split
 ·exact h1.le (by have:=h2.1;have h9:(sumP W E s).2.at_≤(opP W lvCmp (sumP W E s).2).2.at_:=(up_op W _ _).1;show _≤1+((opP W lvCmp (sumP W E s).2).2.at_-s.at_);omega)
 ·rename_i h0
  rw[if_neg h0] at h3
  have h4:=up_sum W hU (opP W lvCmp (sumP W E s).2).2
  have h5:=dp_sum W hE hU (opP W lvCmp (sumP W E s).2).2
  have h6:=h2.1
  have h7:=h4.1
  refine(dpE_mk (k:=1+((sumP W E (opP W lvCmp (sumP W E s).2).2).2.at_-s.at_-1)) (fun x hx=>?_)).le (by show _≤1+((sumP W E (opP W lvCmp (sumP W E s).2).2).2.at_-s.at_);omega)
  simp only[List.mem_cons,List.not_mem_nil,or_false] at hx
  rcases hx with rfl|rfl
  ·exact h1.le (by omega)
  ·exact h5.le (by omega)
theorem dp_not:∀ k,DE (notP W E k):=by
 intro k
 induction k with
 | zero=>intro s;exact dpE_leaf _ (by omega)
 | succ k ih =>
  intro s
  unfold notP
  split
  ·rename_i h
   have h1:=(ge_enter (mayP W (str [110,111,116]) s).2)
   have h2:=up_not W hU k (enterP (mayP W (str [110,111,116]) s).2)
   have h0:(mayP W (str [110,111,116]) s).2.at_=s.at_+1:=by rw[(may_yes h).1];rfl
   have h3:=h1.1
   have h4:=h2.1
   refine(dpE_mk (k:=1+((notP W E k (enterP (mayP W (str [110,111,116]) s).2)).2.at_-(enterP (mayP W (str [110,111,116]) s).2).at_)) (fun x hx=>?_)).le (by show _≤1+((notP W E k (enterP (mayP W (str [110,111,116]) s).2)).2.at_-s.at_);omega)
   simp only[List.mem_singleton] at hx
   subst hx
   exact ih _
  ·exact dp_cmp W hE hU s
theorem dp_both:DE (bothP W E):=dp_chain1 W _ (dp_not W hE hU _) (up_not W hU _)
end
theorem dp_expr (W:Wds):∀ f,DE (exprP W f):=by
 intro f
 induction f with
 | zero=>intro s;exact dpE_leaf _ (by omega)
 | succ f ih=>exact dp_chain1 W _ (dp_both W ih (up_expr W f)) (up_both W (up_expr W f))
theorem dp_expr1 (W:Wds):DE (expr1 W):=dp_expr W _
theorem dp_listP {α:Type} (W:Wds) {one:PSt→α×PSt} (P:α→Nat→Prop) (hle:∀ x k m,P x k→k≤m→P x m) (h:∀ s,P (one s).1 (1+((one s).2.at_-s.at_))) (hU:∀ s,Ge s (one s).2):∀ (k:Nat) (l:List α) (s:PSt) (m:Nat),(∀ x∈l,P x (1+m))→∀ x∈(listP W one k l s).1,P x (1+m+((listP W one k l s).2.at_-s.at_)):=by
 intro k
 induction k with
 | zero=>intro l s m hl x hx;exact hle _ _ _ (hl x hx) (by omega)
 | succ k ih =>
  intro l s m hl x hx
  unfold listP at hx ⊢
  split at hx
  ·rename_i h0
   rw[if_pos h0]
   have h1:=(ge_may W (str [44]) s).1
   have h2:=(hU (mayP W (str [44]) s).2).1
   have h3:=(up_listP W hU k (l++[(one (mayP W (str [44]) s).2).1]) (one (mayP W (str [44]) s).2).2).1
   have h4:=ih (l++[(one (mayP W (str [44]) s).2).1]) (one (mayP W (str [44]) s).2).2 (m+((one (mayP W (str [44]) s).2).2.at_-(mayP W (str [44]) s).2.at_)) (fun y hy=>by
    rcases List.mem_append.1 hy with hy|hy
    ·exact hle _ _ _ (hl y hy) (by omega)
    ·simp only[List.mem_singleton] at hy
     subst hy
     exact hle _ _ _ (h _) (by omega)) x hx
   exact hle _ _ _ h4 (by omega)
  ·rename_i h0
   rw[if_neg h0]
   exact hle _ _ _ (hl x hx) (by omega)
theorem dp_list1 {α:Type} (W:Wds) {one:PSt→α×PSt} (P:α→Nat→Prop) (hle:∀ x k m,P x k→k≤m→P x m) (h:∀ s,P (one s).1 (1+((one s).2.at_-s.at_))) (hU:∀ s,Ge s (one s).2) (s:PSt):∀ x∈(list1 W one s).1,P x (1+((list1 W one s).2.at_-s.at_)):=fun x hx=>by
 have h1:=dp_listP W P hle h hU W.fuel [(one s).1] (one s).2 ((one s).2.at_-s.at_) (fun y hy=>by
  simp only[List.mem_singleton] at hy
  subst hy
  exact h s) x hx
 have h2:=(hU s).1
 have h3:=(up_listP W hU W.fuel [(one s).1] (one s).2).1
 exact hle _ _ _ h1 (by show _≤1+((listP W one W.fuel [(one s).1] (one s).2).2.at_-s.at_);omega)
theorem dp_exprs (W:Wds) (s:PSt):∀ x∈(exprsP W s).1,DpE x (1+((exprsP W s).2.at_-s.at_)):=dp_list1 W DpE (fun _ _ _ h hm=>h.le hm) (dp_expr1 W) (up_expr1 W) s
theorem dp_sets (W:Wds) (s:PSt):∀ x∈(list1 W (setP W) s).1,DpE x.2 (1+((list1 W (setP W) s).2.at_-s.at_)) :=
 dp_list1 W (fun (x:ByteArray×Ex) k=>DpE x.2 k) (fun (x:ByteArray×Ex) k m (h:DpE x.2 k) (hm:k≤m)=>(h.le hm:DpE x.2 m)) (fun s=>by
  have h1:=((up_name W s).trans (ge_must W (str [61]) _)).1
  exact(dp_expr1 W (mustP W [str [61]] (nameP W s).2)).le (by show _≤1+((expr1 W (mustP W [str [61]] (nameP W s).2)).2.at_-s.at_);have:=(up_expr1 W (mustP W [str [61]] (nameP W s).2)).1;omega)) (up_set W) s
def DS (one:PSt→St×PSt):Prop:=∀ s,DpS (one s).1 (1+((one s).2.at_-s.at_))
theorem one_list {e:Ex} {k m:Nat} (h:DpE e k) (hm:k≤m):∀ x∈[e],DpE x m:=fun x hx=>by
 simp only[List.mem_singleton] at hx
 subst hx
 exact h.le hm
theorem no_sts {k:Nat}:∀ x∈([]:List St),DpS x k:=fun x hx=>by cases hx
theorem dp_assign (W:Wds) (op:Int) (s:PSt):DpS (assignP W op s).1 (2+((assignP W op s).2.at_-s.at_)):=by
 have h1:=((up_name W s).trans (ge_must W (str [61]) _)).1
 have h2:=(up_expr1 W (mustP W [str [61]] (nameP W s).2)).1
 exact(dpS_mk (k:=1+((expr1 W (mustP W [str [61]] (nameP W s).2)).2.at_-s.at_)) (one_list (dp_expr1 W (mustP W [str [61]] (nameP W s).2)) (by omega)) no_sts no_sts).le (by show _≤2+((expr1 W (mustP W [str [61]] (nameP W s).2)).2.at_-s.at_);omega)
theorem dp_into (W:Wds) (op:Int) (s:PSt):DpS (intoP W op s).1 (2+((intoP W op s).2.at_-s.at_)):=by
 have h1:=((up_name W s).trans ((ge_must W (str [40]) _).trans (ge_enter _))).1
 have h2:=(up_exprs W (enterP (mustP W [str [40]] (nameP W s).2))).1
 have h3:=((ge_must W (str [41]) (exprsP W (enterP (mustP W [str [40]] (nameP W s).2))).2).trans (ge_leave _)).1
 exact(dpS_mk (k:=1+((exprsP W (enterP (mustP W [str [40]] (nameP W s).2))).2.at_-s.at_)) (fun x hx=>(dp_exprs W _ x hx).le (by omega)) no_sts no_sts).le (by show _≤2+((leaveP (mustP W [str [41]] (exprsP W (enterP (mustP W [str [40]] (nameP W s).2))).2)).at_-s.at_);omega)
theorem dp_change (W:Wds) (s:PSt):DpS (changeP W s).1 (2+((changeP W s).2.at_-s.at_)):=by
 have h1:=(up_rows W s).1
 have h2:=(up_where W (up_expr1 W) (rowsP W s).2).1
 have h4:=dp_where W (dp_expr1 W) (rowsP W s).2
 rw[changeP_eq]
 generalize whereP W (expr1 W) (rowsP W s).2=a at *
 have h3:=(ge_must W (str [115,101,116]) a.2).1
 have h5:=(up_list1 W (up_set W) (mustP W [str [115,101,116]] a.2)).1
 have h6:=dp_sets W (mustP W [str [115,101,116]] a.2)
 generalize list1 W (setP W) (mustP W [str [115,101,116]] a.2)=l at *
 refine(dpS_mk (k:=1+(l.2.at_-s.at_)) (fun x hx=>?_) no_sts no_sts).le (by show _≤2+(l.2.at_-s.at_);omega)
 rcases List.mem_cons.1 hx with rfl|hx
 ·exact h4.le (by omega)
 ·obtain⟨y,hy,rfl⟩:=List.mem_map.1 hx
  exact(h6 y hy).le (by omega)
theorem dp_plain (W:Wds):DS (plainP W):=fun s=>by
 have key:∀ (t:ByteArray) (x:St×PSt),(mayP W t s).1=true→Ge (mayP W t s).2 x.2→DpS x.1 (2+(x.2.at_-(mayP W t s).2.at_))→DpS x.1 (1+(x.2.at_-s.at_)):=fun t x ht hg h=>by
  have e:(mayP W t s).2.at_=s.at_+1:=by rw[(may_yes ht).1];rfl
  have:=hg.1
  exact h.le (by omega)
 have hdel:∀ s,DpS (delP W s).1 (2+((delP W s).2.at_-s.at_)):=fun s=>by
  have h1:=(up_rows W s).1
  have h2:=(up_where W (up_expr1 W) (rowsP W s).2).1
  exact(dpS_mk (k:=1+((whereP W (expr1 W) (rowsP W s).2).2.at_-s.at_)) (one_list (dp_where W (dp_expr1 W) (rowsP W s).2) (by omega)) no_sts no_sts).le (by show _≤2+((whereP W (expr1 W) (rowsP W s).2).2.at_-s.at_);omega)
 have habort:∀ s,DpS (abortP W s).1 (2+((abortP W s).2.at_-s.at_)):=fun s=>(dpS_mk (k:=1+((expr1 W s).2.at_-s.at_)) (one_list (dp_expr1 W s) (Nat.le_refl _)) no_sts no_sts).le (by show _≤2+((expr1 W s).2.at_-s.at_);omega)
 have hreply:∀ s,DpS (replyP W s).1 (2+((replyP W s).2.at_-s.at_)):=fun s=>(dpS_mk (k:=1+((exprsP W s).2.at_-s.at_)) (dp_exprs W s) no_sts no_sts).le (by show _≤2+((exprsP W s).2.at_-s.at_);omega)
 rw[plainP_eq]
 split
 ·rename_i h;exact key _ _ h (up_assign W _ _) (dp_assign W _ _)
 ·split
  ·rename_i h;exact key _ _ h (up_assign W _ _) (dp_assign W _ _)
  ·split
   ·rename_i h;exact key _ _ h (up_into W _ _) (dp_into W _ _)
   ·split
    ·rename_i h;exact key _ _ h (up_into W _ _) (dp_into W _ _)
    ·split
     ·rename_i h;exact key _ _ h (up_change W _) (dp_change W _)
     ·split
      ·rename_i h;exact key _ _ h ((up_rows W _).trans (up_where W (up_expr1 W) _)) (hdel _)
      ·split
       ·rename_i h;exact key _ _ h (up_expr1 W _) (habort _)
       ·split
        ·rename_i h;exact key _ _ h (up_exprs W _) (hreply _)
        ·exact(dpS_mk (k:=0) (fun x hx=>by cases hx) no_sts no_sts).le (by omega)
def DB (B:PSt→List St×PSt):Prop:=∀ s,∀ x∈(B s).1,DpS x (1+((B s).2.at_-s.at_))
section
variable (W:Wds) {B:PSt→List St×PSt} (hB:DB B) (hU:∀ s,Ge s (B s).2)
include hB hU
theorem dp_for (s:PSt):DpS (forP W B s).1 (2+((forP W B s).2.at_-s.at_)):=by
 rw[forP_eq]
 have h1:=(up_rows W s).1
 have h2:=(up_where W (up_expr1 W) (rowsP W s).2).1
 have h4:=dp_where W (dp_expr1 W) (rowsP W s).2
 generalize whereP W (expr1 W) (rowsP W s).2=a at *
 have h3:a.2.at_≤(if (mayP W (str [108,105,109,105,116]) a.2).1 then limitP W (mayP W (str [108,105,109,105,116]) a.2).2 else (0,a.2)).2.at_:=by
  split
  ·exact((ge_may W _ a.2).trans (up_limit W _)).1
  ·exact Nat.le_refl _
 generalize (if (mayP W (str [108,105,109,105,116]) a.2).1 then limitP W (mayP W (str [108,105,109,105,116]) a.2).2 else (0,a.2))=n at *
 have h5:=(hU n.2).1
 have h6:=hB n.2
 generalize B n.2=b at *
 exact(dpS_mk (k:=1+(b.2.at_-s.at_)) (one_list h4 (by omega)) (fun x hx=>(h6 x hx).le (by omega)) no_sts).le (by show _≤2+(b.2.at_-s.at_);omega)
theorem dp_if (s:PSt):DpS (ifP W B s).1 (2+((ifP W B s).2.at_-s.at_)):=by
 rw[ifP_eq]
 have h1:=(up_expr1 W s).1
 have h2:=dp_expr1 W s
 generalize expr1 W s=e at *
 have h3:=(hU e.2).1
 have h4:=hB e.2
 generalize B e.2=b at *
 split
 ·have h5:=(ge_may W (str [101,108,115,101]) b.2).1
  have h6:=(hU (mayP W (str [101,108,115,101]) b.2).2).1
  have h7:=hB (mayP W (str [101,108,115,101]) b.2).2
  generalize B (mayP W (str [101,108,115,101]) b.2).2=c at *
  exact(dpS_mk (k:=1+(c.2.at_-s.at_)) (one_list h2 (by omega)) (fun x hx=>(h4 x hx).le (by omega)) (fun x hx=>(h7 x hx).le (by omega))).le (by show _≤2+(c.2.at_-s.at_);omega)
 ·exact(dpS_mk (k:=1+(b.2.at_-s.at_)) (one_list h2 (by omega)) (fun x hx=>(h4 x hx).le (by omega)) no_sts).le (by show _≤2+(b.2.at_-s.at_);omega)
theorem dp_stmt:DS (stmtP W B):=fun s=>by
 have key:∀ (t:ByteArray) (x:St×PSt),(mayP W t s).1=true→Ge (mayP W t s).2 x.2→DpS x.1 (2+(x.2.at_-(mayP W t s).2.at_))→DpS x.1 (1+(x.2.at_-s.at_)):=fun t x ht hg h=>by
  have e:(mayP W t s).2.at_=s.at_+1:=by rw[(may_yes ht).1];rfl
  have:=hg.1
  exact h.le (by omega)
 rw[stmtP_eq]
 split
 ·rename_i h;exact key _ _ h (up_for W hU _) (dp_for W hB hU _)
 ·split
  ·rename_i h;exact key _ _ h (up_if W hU _) (dp_if W hB hU _)
  ·have h1:=(ge_must W (str [59]) (plainP W s).2).1
   exact(dp_plain W s).le (by show _≤1+((mustP W [str [59]] (plainP W s).2).at_-s.at_);omega)
end
theorem dp_stmts (W:Wds) {one:PSt→St×PSt} (h:DS one) (hU:∀ s,Ge s (one s).2):∀ (k:Nat) (l:List St) (s:PSt) (m:Nat),(∀ x∈l,DpS x (1+m))→∀ x∈(stmtsP W one k l s).1,DpS x (1+m+((stmtsP W one k l s).2.at_-s.at_)):=by
 intro k
 induction k with
 | zero=>intro l s m hl x hx;exact(hl x hx).le (by omega)
 | succ k ih =>
  intro l s m hl x hx
  unfold stmtsP at hx ⊢
  split at hx
  ·rename_i h0
   rw[if_pos h0]
   have h2:=(hU s).1
   have h3:=(up_stmts W hU k (l++[(one s).1]) (one s).2).1
   have h4:=ih (l++[(one s).1]) (one s).2 (m+((one s).2.at_-s.at_)) (fun y hy=>by
    rcases List.mem_append.1 hy with hy|hy
    ·exact(hl y hy).le (by omega)
    ·simp only[List.mem_singleton] at hy
     subst hy
     exact(h s).le (by omega)) x hx
   exact h4.le (by omega)
  ·rename_i h0
   rw[if_neg h0]
   exact(hl x hx).le (by omega)
theorem dp_block (W:Wds):∀ f,DB (blockP W f):=by
 intro f
 induction f with
 | zero=>intro s x hx;cases hx
 | succ f ih =>
  intro s x hx
  have hU:=fun s=>(stmt_more W (up_block W f) s).1
  have h1:=((ge_must W (str [123]) s).trans (ge_enter _)).1
  have h2:=(up_stmts W hU W.fuel [] (enterP (mustP W [str [123]] s))).1
  have h3:=((ge_must W (str [125]) (stmtsP W (stmtP W (blockP W f)) W.fuel [] (enterP (mustP W [str [123]] s))).2).trans (ge_leave _)).1
  have h4:=dp_stmts W (dp_stmt W ih (up_block W f)) hU W.fuel [] (enterP (mustP W [str [123]] s)) 0 (fun y hy=>by cases hy) x hx
  exact h4.le (by show _≤1+((leaveP (mustP W [str [125]] (stmtsP W (stmtP W (blockP W f)) W.fuel [] (enterP (mustP W [str [123]] s))).2)).at_-s.at_);omega)
theorem ExAt.low {F:Nat→Prop} {w:World}:∀ (D:Nat) {r:List Value} {e:Ex},ExAt F D w r e→ExAt F (dptE D e) w r e:=by
 intro D
 induction D with
 | zero=>intro r e h;exact h.elim
 | succ D ih =>
  intro r e h
  obtain⟨h1,h2,h3,h4,h5,A,m,c,hr,hl⟩:=h.open_
  rw[dptE,Nat.add_comm]
  refine⟨h1,h2,h3,h4,h5,A,m,c,hr,LsAt.conv hl (Kept.refl _ _) (fun _ _ _ h=>h) (fun r x hx h=>?_)⟩
  exact ExAt.conv (fun _ h=>h) (Kept.refl _ _) _ (maxN_mem (List.mem_map.2 ⟨x,hx,rfl⟩)) (ih h)
theorem StAt.low {F:Nat→Prop} {w:World}:∀ (D:Nat) {r:List Value} {e:St},StAt F D w r e→StAt F (dptS D e) w r e:=by
 intro D
 induction D with
 | zero=>intro r e h;exact h.elim
 | succ D ih =>
  intro r e h
  obtain⟨h1,h2,h3,h4,Ac,nc,cc,Ae,ne,ce,Ab,nb,cb,Al,nl,cl,hr,hc,he,hb,hl⟩:=h.open_
  rw[dptS,Nat.add_comm]
  refine⟨h1,h2,h3,h4,Ac,nc,cc,Ae,ne,ce,Ab,nb,cb,Al,nl,cl,hr,hc,LsAt.conv he (Kept.refl _ _) (fun _ _ _ h=>h) (fun r x hx h=>?_),LsAt.conv hb (Kept.refl _ _) (fun _ _ _ h=>h) (fun r x hx h=>?_),LsAt.conv hl (Kept.refl _ _) (fun _ _ _ h=>h) (fun r x hx h=>?_)⟩
  ·exact ExAt.conv (fun _ h=>h) (Kept.refl _ _) _ (Nat.le_trans (maxN_mem (List.mem_map.2 ⟨x,hx,rfl⟩)) (by omega)) (ExAt.low D h)
  ·exact StAt.conv (fun _ h=>h) (Kept.refl _ _) _ (Nat.le_trans (maxN_mem (List.mem_map.2 ⟨x,hx,rfl⟩)) (by omega)) (ih h)
  ·exact StAt.conv (fun _ h=>h) (Kept.refl _ _) _ (Nat.le_trans (maxN_mem (List.mem_map.2 ⟨x,hx,rfl⟩)) (by omega)) (ih h)
theorem proc_low {F:Nat→Prop} {w:World} {D:Nat} {r:List Value} (W:Wds) (s:PSt) (h:PrAt F D w r (procP W s).1) (hl:(procP W s).2.at_≤8999):PrAt F 9000 w r (procP W s).1:=by
 have hb:=dp_block W W.fuel
 rw[procP_eq] at h hl ⊢
 generalize (fuelP W (fromP W (leaveP (mustP W [str [41]] (headP W (enterP (mustP W [str [40]] (nameP W (mustP W [str [112,114,111,99]] s)).2))).2))).2)=u at *
 obtain⟨h1,h2,h3,h4,Ap,np,cp,Ab,nb,cb,hr,hp,hbl⟩:=h
 refine⟨h1,h2,h3,h4,Ap,np,cp,Ab,nb,cb,hr,hp,LsAt.conv hbl (Kept.refl _ _) (fun _ _ _ h=>h) (fun r x hx h=>?_)⟩
 exact StAt.conv (fun _ h=>h) (Kept.refl _ _) _ (Nat.le_trans (hb u.2 x hx D) (by have:(blockP W W.fuel u.2).2.at_≤8999:=hl;omega)) (StAt.low D h)
theorem expr_low {F:Nat→Prop} {w:World} {D:Nat} {r:List Value} (W:Wds) (s:PSt) (h:ExAt F D w r (expr1 W s).1) (hl:(expr1 W s).2.at_≤8999):ExAt F 9000 w r (expr1 W s).1 :=
 ExAt.conv (fun _ h=>h) (Kept.refl _ _) _ (Nat.le_trans (dp_expr1 W s D) (by omega)) (ExAt.low D h)
end Go.Proofs.YtgbgiknfejpcoaaGreat

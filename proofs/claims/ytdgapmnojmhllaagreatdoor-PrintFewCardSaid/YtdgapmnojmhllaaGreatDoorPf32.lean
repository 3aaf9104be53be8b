/- Parts of this proof, one behind the other: ParZ5, ParDp, ParZ6, ParZ7, LwP, LxA, RtC. -/
import Derived.Test.YtdgapmnojmhllaaGreatDoorPf29
import Derived.Test.YtdgapmnojmhllaaGreatDoorPf31
import Derived.Test.YtdgapmnojmhllaaGreatDoorPf5
import Derived.Test.YtdgapmnojmhllaaGreatDoorPf21
set_option maxRecDepth 1000000
set_option maxHeartbeats 40000000
namespace Go.Proofs.YtdgapmnojmhllaaGreatDoor
open Go.RowKit Go.Afx
theorem words_ls {F:Nat→Prop} {base:Nat} {w:World} {A:Option Addr} {c:Nat} {ws:List Wd} (h:w.ownsRow base 125 4 (.slice A ws.length c) ws.length (ws.map wrow).flatten) (hok:∀ x∈ws,okW x) (hF:∀ a,A=some a→0<ws.length→F a.block):LsAt F w 4 WRow A ws.length c ws :=
 ⟨ws.map wrow,RowsAt.of_own h (wrow_len4 ws) (by simp),hF,by simp,fun k r x hr hx=>by
  rw[List.getElem?_map,hx] at hr
  simp only[Option.map_some,Option.some.injEq] at hr
  subst hr
  exact⟨rfl,rfl,hok x (List.mem_of_getElem? hx)⟩⟩
theorem cloneW_any (base:Nat) (A:Option Addr) (c:Nat) (ws:List Wd) (hn:ws.length≤1000000) (w:World) (hW:w.ownsRow base 125 4 (.slice A ws.length c) ws.length (ws.map wrow).flatten) :
  Calls Tryz.prog 101 #[.slice A ws.length c] w fun e w'=>∃ A2 c2,e=.returned (.slice A2 ws.length c2)∧w'.ownsRow w.heap.size 125 4 (.slice A2 ws.length c2) ws.length (ws.map wrow).flatten∧Below w.heap.size w w':=by
 have hR:=RowsAt.of_own hW (wrow_len4 ws) (by simp)
 have q22:∀ (w:World) (a:Option Addr) (n c n' c':Nat),(binOp .eql 117 (.slice a n c) (.slice none n' c')).run Tryz.prog w=.ok (.bool a.isNone) w:=fun w a n c n' c'=>Lib.run_eql_slice_nil w _ _ a n c n' c' Tryz.underlying117
 have h1:∀ r∈ws.map wrow,∀ u∈r,u.oneCell'=true:=by
  intro r hr u hu
  obtain⟨x,_,rfl⟩:=List.mem_map.1 hr
  simp only[wrow,List.mem_cons,List.not_mem_nil,or_false] at hu
  rcases hu with rfl|rfl|rfl|rfl<;>rfl
 have h4:=wrow_len4 ws
 have hl:(ws.map wrow).length=ws.length:=by simp
 generalize ws.map wrow=rows at *
 generalize ws.length=n at *
 clear hW
 cases A with
 | none =>
  have h0:rows=[]:=by
   cases rows with
   | nil=>rfl
   | cons a r =>
    obtain⟨b,o,e,_⟩:=hR.at_ 0 a rfl
    cases e
  subst h0
  obtain rfl:n=0:=by simpa using hl.symm
  go_enter Tryz.func101,Tryz.ntmps101
  go_wp2
  go_ret
  exact⟨none,0,rfl,World.ownsRow_nil _ _ _ _,Below.refl _ _⟩
 | some a =>
  have hW2:RowsAt (w.alloc (.cells #[] 125)) 4 (some a) n c rows:=hR.below ((Below.refl _ _).alloc (Nat.le_refl _) _)
  have hown:(w.alloc (.cells #[] 125)).ownsRow w.heap.size 125 4 (.slice (some ⟨w.heap.size,0,none⟩) 0 0) 0 ([]:List (List Value)).flatten:=World.ownsRow_made w #[] 0 (Nat.le_refl _) (Nat.zero_le _) (by simp)
  go_enter Tryz.func101,Tryz.ntmps101
  go_wp2_with (at_builtin;refine wpList_app rfl rfl tyWd rfl hown rfl hW2 h4 h1 ?_ ?_ ?_ ?_;(unfold maxLen;omega);omega;(simp);intro A3 c3 w3 hown3 hbut3 hf3)
  go_ret
  refine⟨A3,c3,by simp,?_,?_⟩
  ·simpa using hown3
  ·refine((Below.refl _ _).alloc (Nat.le_refl _) _).trans (hbut3.below' (by simp) (fun i hi=>?_))
   simp at hi;omega
def OnSaid (g0:Nat) (W:Wds) (w:World) (e:Ending) (w':World):Prop:=∃ gc gw,e=.returned (.pointer (some ⟨gc,0,none⟩))∧CuAt (fun b=>b=gw) gc W 0 w'∧gw<w'.heap.size∧(gw=g0∨w.heap.size≤gw)∧w.heap.size≤gc∧Below w.heap.size w w'
theorem on_any (base g0:Nat) (A:Option Addr) (c:Nat) (W:Wds) (w:World) (hn:W.l.length≤1000000) (hW:w.ownsRow base 125 4 (.slice A W.l.length c) W.l.length (W.l.map wrow).flatten) (hok:∀ x∈W.l,okW x) (he:okI W.end_) (h0:g0<w.heap.size) :
  Calls Tryz.prog 55 #[.slice A W.l.length c,.int .i64 W.end_] w (OnSaid g0 W w):=by
 have hc:=cloneW_any base A c W.l hn w hW
 have Hc:=Lhd hc
 obtain⟨n,Hn⟩:∃ n,Hid (n=W.l.length):=⟨_,rfl⟩
 have hc:Calls Tryz.prog 101 #[.slice A n c] w fun e w'=>∃ A2 c2,e=.returned (.slice A2 n c2)∧w'.ownsRow w.heap.size 125 4 (.slice A2 n c2) n (W.l.map wrow).flatten∧Below w.heap.size w w':=by rw[Hn.out];exact Hc.out
 rw[← Hn.out]
 have Hc:=Lhd hc
 clear hc hW
 go_enter Tryz.func55,Tryz.ntmps55
 go_wp2_with (fail)
 refine Hc.out.mono ?_
 rintro e w2 ⟨A2,c2,rfl,hown,hb⟩
 have H2:=Lhd (And.intro hown hb)
 clear hown hb
 go_wp2
 go_ret
 have hen:=Hn.out
 subst hen
 have hown:=H2.out.1
 have hb:=H2.out.2
 have hal:=(Below.refl w2.heap.size w2).alloc (Nat.le_refl _) (.cells #[.int .i64 0,.int .i64 W.end_,.slice A2 W.l.length c2] 169)
 have hk:IsBlk (w2.alloc (.cells #[.int .i64 0,.int .i64 W.end_,.slice A2 W.l.length c2] 169)) w2.heap.size 169 #[.int .i64 0,.int .i64 W.end_,.slice A2 W.l.length c2]:=IsBlk.laid _ _ _
 have hsz:=hb.size
 have hmax:W.l.length≤1000000000000:=by omega
 rcases Nat.eq_zero_or_pos W.l.length with h9|h9
 ·refine⟨w2.heap.size,g0,rfl,⟨⟨A2,_,c2,hk,?_⟩,Nat.zero_le _,hmax,he,by omega⟩,by simp;omega,.inl rfl,hsz,hb.trans (hal.mono hsz)⟩
  exact words_ls (own_below hown hal) hok (fun _ _ h=>by omega)
 ·obtain⟨g,cap,hv,hgb,hg⟩:=hown.form h9
  simp only[Value.slice.injEq] at hv
  obtain⟨rfl,_,_⟩:=hv
  refine⟨w2.heap.size,g,rfl,⟨⟨_,_,c2,hk,?_⟩,Nat.zero_le _,hmax,he,by omega⟩,by simp;omega,.inr hgb,hsz,hb.trans (hal.mono hsz)⟩
  exact words_ls (own_below hown hal) hok (fun a ha _=>by cases ha;rfl)
theorem PAt.aside {gp gc gw g:Nat} {W:Wds} {s:PSt} {w w':World} (h:PAt gp gc gw W s w) (hb:But (fun k=>k=g) w w') (hg:gp≠g∧gc≠g∧gw≠g):PAt gp gc gw W s w':=h.off hb (fun k hk=>by subst hk;exact hg)
theorem maxN_mem {l:List Nat} {x:Nat} (h:x∈l):x≤maxN l:=by
 induction l with
 | nil=>cases h
 | cons a l ih =>
  rw[maxN_cons]
  rcases List.mem_cons.1 h with rfl|h
  ·omega
  ·have:=ih h;omega
def DpE (e:Ex) (k:Nat):Prop:=∀ D,dptE D e≤k
def DpS (x:St) (k:Nat):Prop:=∀ D,dptS D x≤k
theorem DpE.le {e:Ex} {k m:Nat} (h:DpE e k) (hm:k≤m):DpE e m:=fun D=>Nat.le_trans (h D) hm
theorem DpS.le {e:St} {k m:Nat} (h:DpS e k) (hm:k≤m):DpS e m:=fun D=>Nat.le_trans (h D) hm
theorem dpE_mk {op n:Int} {a b c:ByteArray} {l:List Ex} {k:Nat} (h:∀ x∈l,DpE x k):DpE (.mk op n a b c l) (k+1):=fun D=>by
 cases D with
 | zero=>simp[dptE]
 | succ D =>
  rw[dptE]
  have:maxN ((Ex.mk op n a b c l).args.map (dptE D))≤k:=maxN_le fun x hx=>by
   obtain⟨y,hy,rfl⟩:=List.mem_map.1 hx
   exact h y hy D
  omega
theorem dpE_leaf {op n:Int} {a b c:ByteArray} (k:Nat) (hk:1≤k):DpE (.mk op n a b c []) k:=(dpE_mk (k:=0) (fun x hx=>by cases hx)).le hk
def DE (one:PSt→Ex×PSt):Prop:=∀ s,DpE (one s).1 (1+((one s).2.at_-s.at_))
section
variable (W:Wds)
theorem dp_chain (l:List (ByteArray×Int)) {one:PSt→Ex×PSt} (h:DE one) (hU:∀ s,Ge s (one s).2):∀ (k:Nat) (e:Ex) (s:PSt) (m:Nat),DpE e (1+m)→DpE (chainP W l one k e s).1 (1+m+((chainP W l one k e s).2.at_-s.at_)):=by
 intro k
 induction k with
 | zero=>intro e s m he;exact he.le (by omega)
 | succ k ih =>
  intro e s m he
  unfold chainP
  split
  ·exact he.le (by omega)
  ·rename_i h0
   have h1:=op_more (W:=W) (l:=l) (s:=s)
   rw[if_neg h0] at h1
   have h2:=(hU (opP W l s).2).1
   have h3:=up_chain W l hU k (twoP (opP W l s).1 e (one (opP W l s).2).1) (one (opP W l s).2).2
   have h4:=ih (twoP (opP W l s).1 e (one (opP W l s).2).1) (one (opP W l s).2).2 (1+m+((one (opP W l s).2).2.at_-(opP W l s).2.at_)) (by
    refine(dpE_mk (k:=1+m+((one (opP W l s).2).2.at_-(opP W l s).2.at_)) (fun x hx=>?_)).le (by omega)
    simp only[List.mem_cons,List.not_mem_nil,or_false] at hx
    rcases hx with rfl|rfl
    ·exact he.le (by omega)
    ·exact(h _).le (by omega))
   exact h4.le (by have:=h3.1;omega)
theorem dp_chain1 (l:List (ByteArray×Int)) {one:PSt→Ex×PSt} (h:DE one) (hU:∀ s,Ge s (one s).2):DE (chain1 W l one):=fun s=>by
 have h1:=dp_chain W l h hU W.fuel (one s).1 (one s).2 ((one s).2.at_-s.at_) (h s)
 have h2:=hU s
 have h3:=up_chain W l hU W.fuel (one s).1 (one s).2
 exact h1.le (by have:=h2.1;have:=h3.1;show _≤1+((chainP W l one W.fuel (one s).1 (one s).2).2.at_-s.at_);omega)
variable {E:PSt→Ex×PSt} (hE:DE E) (hU:∀ s,Ge s (E s).2)
include hE hU
omit hU in
theorem dp_where (s:PSt):DpE (whereP W E s).1 (1+((whereP W E s).2.at_-s.at_)):=by
 unfold whereP
 split
 ·have h1:=(ge_may W (str [119,104,101,114,101]) s).1
  exact(hE _).le (by omega)
 ·exact dpE_leaf _ (by omega)
omit hE hU in
theorem fold_more (s:PSt) (h:(isP W s (str [99,111,117,110,116])||isP W s (str [115,117,109])||isP W s (str [109,105,110])||isP W s (str [109,97,120]))=true) (hb:s.bad=false):s.at_+1≤(foldOp W s).2.at_:=by
 have key:∀ t:ByteArray,(mayP W t s).1=true→s.at_+1≤(mayP W t s).2.at_:=fun t ht=>by rw[(may_yes ht).1];exact Nat.le_refl _
 unfold foldOp
 split
 ·rename_i h1;exact key _ h1
 ·rename_i n1
  split
  ·rename_i h1;exact key _ h1
  ·rename_i n2
   split
   ·rename_i h1;exact key _ h1
   ·rename_i n3
    have e:∀ t,(mayP W t s).1=isP W s t:=fun t=>by unfold mayP;rw[hb];cases isP W s t<;>rfl
    rw[e] at n1 n2 n3
    simp only[Bool.not_eq_true] at n1 n2 n3
    rw[n1,n2,n3] at h
    simp only[Bool.or_false,Bool.false_or] at h
    have h2:(mayP W (str [109,97,120]) s).1=true:=by rw[e];exact h
    show _≤(if (mayP W (str [109,97,120]) s).1 then mustP W [] (mayP W (str [109,97,120]) s).2 else s.fail).at_
    rw[if_pos h2]
    exact key _ h2
theorem dp_fold (s:PSt) (h:(isP W s (str [99,111,117,110,116])||isP W s (str [115,117,109])||isP W s (str [109,105,110])||isP W s (str [109,97,120]))=true) (hb:s.bad=false):DpE (foldP W E s).1 (1+((foldP W E s).2.at_-s.at_)):=by
 have h0:=fold_more W s h hb
 have h1:=(ge_must W (str [40]) (foldOp W s).2).trans ((ge_enter _).trans (up_rows W _))
 have h2:=up_where W hU (rowsP W (enterP (mustP W [str [40]] (foldOp W s).2))).2
 have hw:=dp_where W hE (rowsP W (enterP (mustP W [str [40]] (foldOp W s).2))).2
 unfold foldP
 simp only
 generalize whereP W E (rowsP W (enterP (mustP W [str [40]] (foldOp W s).2))).2=a at *
 generalize (rowsP W (enterP (mustP W [str [40]] (foldOp W s).2)))=r at *
 have h5:=h1.1
 have h6:=h2.1
 split
 ·have h3:=(ge_must W (str [41]) a.2).trans (ge_leave _)
  have h7:=h3.1
  refine(dpE_mk (k:=1+(a.2.at_-r.2.at_)) (fun x hx=>?_)).le (by show _≤1+((leaveP (mustP W [str [41]] a.2)).at_-s.at_);omega)
  simp only[List.mem_singleton] at hx
  subst hx
  exact hw
 ·have h3:=ge_must W (str [58]) a.2
  have h4:=hU (mustP W [str [58]] a.2)
  have he:=hE (mustP W [str [58]] a.2)
  generalize E (mustP W [str [58]] a.2)=b at *
  have h8:=(ge_must W (str [41]) b.2).trans (ge_leave _)
  have h7:=h3.1
  have h9:=h4.1
  have h10:=h8.1
  refine(dpE_mk (k:=1+((b.2.at_-r.2.at_))) (fun x hx=>?_)).le (by show _≤1+((leaveP (mustP W [str [41]] b.2)).at_-s.at_);omega)
  simp only[List.mem_cons,List.not_mem_nil,or_false] at hx
  rcases hx with rfl|rfl
  ·exact hw.le (by omega)
  ·exact he.le (by omega)
theorem dp_single:DE (singleP W E):=fun s=>by
 unfold singleP
 split
 ·exact dpE_leaf _ (by omega)
 ·rename_i hb
  have hb:s.bad=false:=by simpa using hb
  split
  ·exact dpE_leaf _ (by omega)
  ·split
   ·exact dpE_leaf _ (by omega)
   ·split
    ·exact dpE_leaf _ (by omega)
    ·split
     ·exact dpE_leaf _ (by omega)
     ·split
      ·rename_i h;exact dp_fold W hE hU s h hb
      ·split
       ·have h1:=(ge_must W (str [40]) s).trans (ge_enter _)
        have h2:=hU (enterP (mustP W [str [40]] s))
        have h3:=(ge_must W (str [41]) (E (enterP (mustP W [str [40]] s))).2).trans (ge_leave _)
        have h4:=h1.1
        have h5:=h2.1
        have h6:=h3.1
        exact(hE (enterP (mustP W [str [40]] s))).le (by show _≤1+((leaveP (mustP W [str [41]] (E (enterP (mustP W [str [40]] s))).2)).at_-s.at_);omega)
       ·unfold varP
        simp only
        split
        ·exact dpE_leaf _ (by omega)
        ·exact dpE_leaf _ (by omega)
theorem dp_signed:∀ k,DE (signedP W E k):=by
 intro k
 induction k with
 | zero=>intro s;exact dpE_leaf _ (by omega)
 | succ k ih =>
  intro s
  unfold signedP
  split
  ·rename_i h
   have h1:=(ge_enter (mayP W (str [45]) s).2)
   have h2:=up_signed W hU k (enterP (mayP W (str [45]) s).2)
   have h0:(mayP W (str [45]) s).2.at_=s.at_+1:=by rw[(may_yes h).1];rfl
   have h3:=h1.1
   have h4:=h2.1
   refine(dpE_mk (k:=1+((signedP W E k (enterP (mayP W (str [45]) s).2)).2.at_-(enterP (mayP W (str [45]) s).2).at_)) (fun x hx=>?_)).le (by show _≤1+((signedP W E k (enterP (mayP W (str [45]) s).2)).2.at_-s.at_);omega)
   simp only[List.mem_singleton] at hx
   subst hx
   exact ih _
  ·exact dp_single W hE hU s
theorem dp_product:DE (productP W E):=dp_chain1 W _ (dp_signed W hE hU _) (up_signed W hU _)
theorem dp_sum:DE (sumP W E):=dp_chain1 W _ (dp_product W hE hU) (up_product W hU)
theorem dp_cmp:DE (cmpP W E):=fun s=>by
 have h1:=dp_sum W hE hU s
 have h2:=up_sum W hU s
 unfold cmpP
 simp only
 have h3:=op_more (W:=W) (l:=lvCmp) (s:=(sumP W E s).2)
 split
 ·exact h1.le (by have:=h2.1;have h9:(sumP W E s).2.at_≤(opP W lvCmp (sumP W E s).2).2.at_:=(up_op W _ _).1;show _≤1+((opP W lvCmp (sumP W E s).2).2.at_-s.at_);omega)
 ·rename_i h0
  rw[if_neg h0] at h3
  have h4:=up_sum W hU (opP W lvCmp (sumP W E s).2).2
  have h5:=dp_sum W hE hU (opP W lvCmp (sumP W E s).2).2
  have h6:=h2.1
  have h7:=h4.1
  refine(dpE_mk (k:=1+((sumP W E (opP W lvCmp (sumP W E s).2).2).2.at_-s.at_-1)) (fun x hx=>?_)).le (by show _≤1+((sumP W E (opP W lvCmp (sumP W E s).2).2).2.at_-s.at_);omega)
  simp only[List.mem_cons,List.not_mem_nil,or_false] at hx
  rcases hx with rfl|rfl
  ·exact h1.le (by omega)
  ·exact h5.le (by omega)
theorem dp_not:∀ k,DE (notP W E k):=by
 intro k
 induction k with
 | zero=>intro s;exact dpE_leaf _ (by omega)
 | succ k ih =>
  intro s
  unfold notP
  split
  ·rename_i h
   have h1:=(ge_enter (mayP W (str [110,111,116]) s).2)
   have h2:=up_not W hU k (enterP (mayP W (str [110,111,116]) s).2)
   have h0:(mayP W (str [110,111,116]) s).2.at_=s.at_+1:=by rw[(may_yes h).1];rfl
   have h3:=h1.1
   have h4:=h2.1
   refine(dpE_mk (k:=1+((notP W E k (enterP (mayP W (str [110,111,116]) s).2)).2.at_-(enterP (mayP W (str [110,111,116]) s).2).at_)) (fun x hx=>?_)).le (by show _≤1+((notP W E k (enterP (mayP W (str [110,111,116]) s).2)).2.at_-s.at_);omega)
   simp only[List.mem_singleton] at hx
   subst hx
   exact ih _
  ·exact dp_cmp W hE hU s
theorem dp_both:DE (bothP W E):=dp_chain1 W _ (dp_not W hE hU _) (up_not W hU _)
end
theorem dp_expr (W:Wds):∀ f,DE (exprP W f):=by
 intro f
 induction f with
 | zero=>intro s;exact dpE_leaf _ (by omega)
 | succ f ih=>exact dp_chain1 W _ (dp_both W ih (up_expr W f)) (up_both W (up_expr W f))
theorem dp_expr1 (W:Wds):DE (expr1 W):=dp_expr W _
def DS (one:PSt→St×PSt):Prop:=∀ s,DpS (one s).1 (1+((one s).2.at_-s.at_))
def DB (B:PSt→List St×PSt):Prop:=∀ s,∀ x∈(B s).1,DpS x (1+((B s).2.at_-s.at_))
section
variable (W:Wds) {B:PSt→List St×PSt} (hB:DB B) (hU:∀ s,Ge s (B s).2)
include hB hU
end
theorem ExAt.low {F:Nat→Prop} {w:World}:∀ (D:Nat) {r:List Value} {e:Ex},ExAt F D w r e→ExAt F (dptE D e) w r e:=by
 intro D
 induction D with
 | zero=>intro r e h;exact h.elim
 | succ D ih =>
  intro r e h
  obtain⟨h1,h2,h3,h4,h5,A,m,c,hr,hl⟩:=h.open_
  rw[dptE,Nat.add_comm]
  refine⟨h1,h2,h3,h4,h5,A,m,c,hr,LsAt.conv hl (Kept.refl _ _) (fun _ _ _ h=>h) (fun r x hx h=>?_)⟩
  exact ExAt.conv (fun _ h=>h) (Kept.refl _ _) _ (maxN_mem (List.mem_map.2 ⟨x,hx,rfl⟩)) (ih h)
theorem StAt.low {F:Nat→Prop} {w:World}:∀ (D:Nat) {r:List Value} {e:St},StAt F D w r e→StAt F (dptS D e) w r e:=by
 intro D
 induction D with
 | zero=>intro r e h;exact h.elim
 | succ D ih =>
  intro r e h
  obtain⟨h1,h2,h3,h4,Ac,nc,cc,Ae,ne,ce,Ab,nb,cb,Al,nl,cl,hr,hc,he,hb,hl⟩:=h.open_
  rw[dptS,Nat.add_comm]
  refine⟨h1,h2,h3,h4,Ac,nc,cc,Ae,ne,ce,Ab,nb,cb,Al,nl,cl,hr,hc,LsAt.conv he (Kept.refl _ _) (fun _ _ _ h=>h) (fun r x hx h=>?_),LsAt.conv hb (Kept.refl _ _) (fun _ _ _ h=>h) (fun r x hx h=>?_),LsAt.conv hl (Kept.refl _ _) (fun _ _ _ h=>h) (fun r x hx h=>?_)⟩
  ·exact ExAt.conv (fun _ h=>h) (Kept.refl _ _) _ (Nat.le_trans (maxN_mem (List.mem_map.2 ⟨x,hx,rfl⟩)) (by omega)) (ExAt.low D h)
  ·exact StAt.conv (fun _ h=>h) (Kept.refl _ _) _ (Nat.le_trans (maxN_mem (List.mem_map.2 ⟨x,hx,rfl⟩)) (by omega)) (ih h)
  ·exact StAt.conv (fun _ h=>h) (Kept.refl _ _) _ (Nat.le_trans (maxN_mem (List.mem_map.2 ⟨x,hx,rfl⟩)) (by omega)) (ih h)
theorem expr_low {F:Nat→Prop} {w:World} {D:Nat} {r:List Value} (W:Wds) (s:PSt) (h:ExAt F D w r (expr1 W s).1) (hl:(expr1 W s).2.at_≤8999):ExAt F 9000 w r (expr1 W s).1 :=
 ExAt.conv (fun _ h=>h) (Kept.refl _ _) _ (Nat.le_trans (dp_expr1 W s D) (by omega)) (ExAt.low D h)
open Go.RowKit Go.Afx
def endX {α:Type} (z:α) (right:α→Bool) (W:Wds) (r:α×PSt):α×Int×Int :=
 if r.2.over then (z,0,14) else if r.2.bad||decide (r.2.at_<W.l.length) then (z,(W.look r.2.at_).at_,12) else if right r.1 then (r.1,0,0) else (z,0,14)
def textX {α:Type} (z:α) (right:α→Bool) (run:Wds→PSt→α×PSt) (L:List UInt8):α×Int×Int :=
 if 8000<L.length then (z,0,5) else match lexL L with
  | .inl a=>(z,(a:Int),12)
  | .inr ws=>endX z right ⟨ws,L.length⟩ (run ⟨ws,L.length⟩ PSt.start)
def pr0:Pr:=⟨nil0,nil0,nil0,0,[],[]⟩
def procX (L:List UInt8):Pr×Int×Int:=textX pr0 (rightB 9000) procP L
theorem textX_long {α:Type} {z:α} {right:α→Bool} {run:Wds→PSt→α×PSt} {L:List UInt8} (h:8000<L.length):textX z right run L=(z,0,5):=by unfold textX;rw[if_pos h]
theorem textX_inl {α:Type} {z:α} {right:α→Bool} {run:Wds→PSt→α×PSt} {L:List UInt8} {a:Nat} (h:¬ 8000<L.length) (hl:lexL L=.inl a):textX z right run L=(z,(a:Int),12):=by unfold textX;rw[if_neg h,hl]
theorem textX_inr {α:Type} {z:α} {right:α→Bool} {run:Wds→PSt→α×PSt} {L:List UInt8} {ws:List Wd} (h:¬ 8000<L.length) (hl:lexL L=.inr ws):textX z right run L=endX z right ⟨ws,L.length⟩ (run ⟨ws,L.length⟩ PSt.start):=by unfold textX;rw[if_neg h,hl]
def SaidProc (gx:Nat) (w:World) (x:Pr×Int×Int) (e:Ending) (w':World):Prop:=e=.returned (.tuple #[.int .i64 x.2.1,.int .i64 x.2.2])∧But (fun k=>k=gx) w w'∧(x.2.2=0→(∃ row,IsBlk w' gx 50 row.toArray∧PrAt (Fr w) 9000 w' row x.1)∧x.1.params.length≤1000000)
theorem textX_zero {α:Type} (z:α) (right:α→Bool) (run:Wds→PSt→α×PSt) (L:List UInt8):((textX z right run L).2.2=0→(textX z right run L).2.1=0)∧((textX z right run L).2.2≠0→(textX z right run L).1=z):=by
 unfold textX
 split
 ·exact⟨fun h=>(by cases h),fun _=>rfl⟩
 ·split
  ·exact⟨fun h=>(by cases h),fun _=>rfl⟩
  ·unfold endX
   split
   ·exact⟨fun h=>(by cases h),fun _=>rfl⟩
   ·split
    ·exact⟨fun h=>(by cases h),fun _=>rfl⟩
    ·split
     ·exact⟨fun _=>rfl,fun h=>absurd rfl h⟩
     ·exact⟨fun h=>(by cases h),fun _=>rfl⟩
def ProcGives (w:World) (x:Pr×Int×Int) (e:Ending) (w':World):Prop:=(∃ row,e=.returned (.tuple #[.agg row.toArray,.int .i64 x.2.1,.int .i64 x.2.2])∧PrAt (Fr w) 9000 w' row x.1)∧Below w.heap.size w w'∧x.1.params.length≤1000000
def NoBlank (L:List UInt8) (k:Nat):Prop:=k<L.length∧∃ c,L[k]?=some c∧wsB c=false
theorem lexH_at (L:List UInt8):∀ (f at_:Nat),at_≤L.length→L.length-at_<f→(∀ c,(L.drop at_).head?=some c→wsB c=false)→match lexH f at_ (L.drop at_) with
  | .inl a=>NoBlank L a
  | .inr ws=>∀ x∈ws,∃ k:Nat,x.at_=k∧NoBlank L k:=by
 intro f
 induction f with
 | zero=>intro at_ h1 h2;omega
 | succ f ih =>
  intro at_ h1 h2 h3
  rcases Nat.lt_or_ge at_ L.length with hlt|hge
  ·have hd:L.drop at_=L[at_]::L.drop (at_+1):=List.drop_eq_getElem_cons hlt
   have hnb:NoBlank L at_:=⟨hlt,L[at_],List.getElem?_eq_getElem hlt,h3 _ (by rw[hd];rfl)⟩
   rw[lexH_go _ _ _ (by rw[hd];exact List.cons_ne_nil _ _)]
   cases hn:nextX (L.drop at_) with
   | none=>exact hnb
   | some x =>
    obtain⟨l1,l2⟩:=next_len hn
    rw[List.length_drop] at l2
    simp only
    rw[List.drop_drop]
    have hb:=blk_le (L.drop (at_+x.len)) false
    have hs:=(blk_stop (L.drop (at_+x.len))).1
    rw[List.length_drop] at hb
    rw[List.drop_drop] at hs ⊢
    have h4:=ih (at_+x.len+blk false (L.drop (at_+x.len))) (by omega) (by omega) hs
    cases hr:lexH f (at_+x.len+blk false (L.drop (at_+x.len))) (L.drop (at_+x.len+blk false (L.drop (at_+x.len)))) with
    | inl a=>rw[hr] at h4;exact h4
    | inr ws =>
     rw[hr] at h4
     intro y hy
     rcases List.mem_cons.1 hy with rfl|hy
     ·exact⟨at_,rfl,hnb⟩
     ·exact h4 y hy
  ·rw[List.drop_eq_nil_of_le hge]
   intro y hy
   cases hy
theorem lexL_at (L:List UInt8):match lexL L with
  | .inl a=>NoBlank L a
  | .inr ws=>∀ x∈ws,∃ k:Nat,x.at_=k∧NoBlank L k :=
 lexH_at L (L.length+1) (blk false L) (blk_le L false) (by omega) (blk_stop L).1
def PosSaid (L:List UInt8) (at_ er:Int):Prop :=
 (er=0∧at_=0)∨(er=5∧at_=0∧8000<L.length)∨(er=14∧at_=0∧¬ 8000<L.length)∨(er=12∧∃ k:Nat,at_=k∧(k=L.length∨NoBlank L k))
def key (x:Wd):Int×ByteArray×Int:=(x.kind,x.text,x.n)
def keyX (x:Nx):Int×ByteArray×Int:=(x.kind,str x.text,x.n)
inductive LexR:List UInt8→List (Int×ByteArray×Int)→Prop
 | nil:LexR [] []
 | cons {s:List UInt8} {x:Nx} {ks:List (Int×ByteArray×Int)} (hs:s≠[]) (hx:nextX s=some x) (h:LexR ((s.drop x.len).drop (blk false (s.drop x.len))) ks):LexR s (keyX x::ks)
def LexB (s:List UInt8) (ks:List (Int×ByteArray×Int)):Prop:=LexR (s.drop (blk false s)) ks
theorem lexH_of {s:List UInt8} {ks:List (Int×ByteArray×Int)} (h:LexR s ks):∀ (f a:Nat),s.length<f→∃ ws,lexH f a s=.inr ws∧ws.map key=ks:=by
 induction h with
 | nil =>
  intro f a hf
  obtain⟨f,rfl⟩:∃ k,f=k+1:=⟨f-1,by omega⟩
  exact⟨[],rfl,rfl⟩
 | @cons s x ks hs hx h ih =>
  intro f a hf
  obtain⟨f,rfl⟩:∃ k,f=k+1:=⟨f-1,by omega⟩
  obtain⟨l1,l2⟩:=next_len hx
  obtain⟨ws,h1,h2⟩:=ih f (a+x.len+blk false (s.drop x.len)) (by rw[List.length_drop,List.length_drop];omega)
  refine⟨⟨x.kind,str x.text,x.n,a⟩::ws,?_,by rw[List.map_cons,h2];rfl⟩
  rw[lexH_go _ _ _ hs,hx]
  simp only
  rw[h1]
  rfl
theorem lexL_of {L:List UInt8} {ks:List (Int×ByteArray×Int)} (h:LexB L ks):∃ ws,lexL L=.inr ws∧ws.map key=ks:=lexH_of h _ _ (by rw[List.length_drop];omega)
/- what stands behind -/
theorem nextX_cons (a:UInt8) (r:List UInt8):nextX (a::r)=if lexB a then plainX (a::r) else if a.toNat=39 then quotedX (a::r) else signX (a::r):=by simp[nextX]
def tailT:List UInt8:=[41,32,47,47,32,41,32,109,111,114,101,10]
def wrapT (s:List UInt8):List UInt8:=32::40::32::(s++32::10::tailT)
end Go.Proofs.YtdgapmnojmhllaaGreatDoor
namespace Go.Afx
open Go.RowKit
theorem le_maxN {l:List Nat} {x:Nat} (h:x∈l):x≤maxN l:=by
 induction l with
 | nil=>cases h
 | cons a r ih =>
  rw[maxN_cons]
  rcases List.mem_cons.1 h with rfl|h
  ·omega
  ·have:=ih h;omega
theorem dpt_arg {d:Nat} {op n:Int} {s name src:ByteArray} {l:List Ex} {x:Ex} (h:x∈l):dptE d x+1≤dptE (d+1) (.mk op n s name src l):=by
 have:=le_maxN (List.mem_map.2 ⟨x,h,rfl⟩:dptE d x∈l.map (dptE d))
 rw[dptE]
 show _≤1+maxN (l.map (dptE d))
 omega
theorem free_says {b:ByteArray} (h:freeB b=true) {t:ByteArray} (ht:freeB t=false):keySays (idK b) t=false:=by
 have:b≠t:=by rintro rfl;rw[h] at ht;cases ht
 unfold keySays idK
 simp[this]
theorem free_res {b:ByteArray} (h:freeB b=true):resB b=false:=by
 unfold freeB at h
 simp only[Bool.and_eq_true,Bool.not_eq_true'] at h
 exact h.2
theorem noS_eq {b:ByteArray} (h:noS b=true):b=nil0:=of_decide_eq_true h
/- how words are laid -/
theorem opndK_in {L:Nat} {op:Int} {t:List Key} (h:lvlN op<L):opndK L op t=[sgK [40]]++t++[sgK [41]]:=by unfold opndK;rw[if_pos h]
theorem opndK_out {L:Nat} {op:Int} {t:List Key} (h:¬ lvlN op<L):opndK L op t=t:=by unfold opndK;rw[if_neg h]
section
variable {d:Nat} {op n:Int} {s name src:ByteArray} {a b:Ex} {l:List Ex}
theorem tok_two (h1:6≤op) (h2:op≤18):tokE (d+1) (.mk op n s name src [a,b])=opndK (lvlN op+if lvlN op=4 then 1 else 0) a.op (tokE d a)++(sgnK op::opndK (lvlN op+1) b.op (tokE d b)):=by
 have g1:¬ op=1:=by omega
 have g2:¬ op=2:=by omega
 have g3:¬ op=3:=by omega
 have g4:¬ op=4:=by omega
 have g5:¬ op=5:=by omega
 have g6:¬ (op=19∨op=20):=by omega
 have g7:¬ 21≤op:=by omega
 simp only[tokE,Ex.op,Ex.args,g1,g2,g3,g4,g5,g6,g7,if_false]
 rfl
theorem tok_one (h:op=19∨op=20):tokE (d+1) (.mk op n s name src [a])=sgnK op::opndK (lvlN op) a.op (tokE d a):=by
 have g1:¬ op=1:=by omega
 have g2:¬ op=2:=by omega
 have g3:¬ op=3:=by omega
 have g4:¬ op=4:=by omega
 have g5:¬ op=5:=by omega
 simp only[tokE,Ex.op,Ex.args,g1,g2,g3,g4,g5,h,if_false,if_true]
theorem tok_count:tokE (d+1) (.mk 21 n s name src [a])=[sgnK 21,sgK [40]]++(rowsK name src a.op a.n (tokE d a)++[sgK [41]]):=by
 rw[tokE]
 simp only[Ex.op,Ex.args,Ex.name,Ex.src]
 rfl
theorem tok_fold (h1:22≤op):tokE (d+1) (.mk op n s name src [a,b])=[sgnK op,sgK [40]]++(rowsK name src a.op a.n (tokE d a)++(sgK [58]::(tokE d b++[sgK [41]]))):=by
 have g1:¬ op=1:=by omega
 have g2:¬ op=2:=by omega
 have g3:¬ op=3:=by omega
 have g4:¬ op=4:=by omega
 have g5:¬ op=5:=by omega
 have g6:¬ (op=19∨op=20):=by omega
 have g7:21≤op:=by omega
 have g8:¬ op=21:=by omega
 simp only[tokE,Ex.op,Ex.args,Ex.name,Ex.src,g1,g2,g3,g4,g5,g6,g7,g8,if_false,if_true]
 rfl
end
theorem built_cases {d:Nat} {e:Ex} (h:builtE (d+1) e=true) :
  (∃ n,0≤n∧e=.mk 1 n nil0 nil0 nil0 [])∨(∃ s,s.size≤200∧e=.mk 2 0 s nil0 nil0 [])∨(∃ n,(n=0∨n=1)∧e=.mk 3 n nil0 nil0 nil0 []) ∨
  (∃ name,freeB name=true∧e=.mk 4 0 nil0 name nil0 [])∨(∃ s name,freeB name=true∧freeB s=true∧e=.mk 5 0 s name nil0 []) ∨
  (∃ op a b,6≤op∧op≤18∧builtE d a=true∧builtE d b=true∧e=twoP op a b)∨(∃ op a,(op=19∨op=20)∧builtE d a=true∧e=oneP op a) ∨
  (∃ name src a,freeB name=true∧freeB src=true∧builtE d a=true∧e=.mk 21 0 nil0 name src [a]) ∨
  (∃ op name src a b,22≤op∧op≤24∧freeB name=true∧freeB src=true∧builtE d a=true∧builtE d b=true∧e=.mk op 0 nil0 name src [a,b]):=by
 obtain⟨ha,hf,hb⟩:=built_parts h
 obtain⟨op,n,s,name,src,l⟩:=e
 simp only[Ex.op,Ex.n,Ex.s,Ex.name,Ex.src,Ex.args] at ha hf hb
 have h0:op=1∨op=2∨op=3∨op=4∨op=5∨(6≤op∧op≤18)∨(op=19∨op=20)∨op=21∨(22≤op∧op≤24):=by
  have:=arity_op ha
  omega
 have hl0:arityB op=0→l=[]:=fun h=>List.eq_nil_of_length_eq_zero (by omega)
 have hl1:arityB op=1→∃ a,l=[a]:=fun h=>List.length_eq_one_iff.1 (by omega)
 have hl2:arityB op=2→∃ a b,l=[a,b]:=fun h=>by
  have h2:l.length=2:=by omega
  match l,h2 with
  | [a,b],_=>exact⟨a,b,rfl⟩
 unfold fieldsR at hf
 rcases h0 with rfl|rfl|rfl|rfl|rfl|⟨h1,h2⟩|h1|rfl|⟨h1,h2⟩
 ·obtain rfl:=hl0 (by decide)
  simp at hf
  obtain⟨⟨⟨h1,h2⟩,h3⟩,h4⟩:=hf
  exact .inl ⟨n,h1,by rw[noS_eq h2,noS_eq h3,noS_eq h4]⟩
 ·obtain rfl:=hl0 (by decide)
  simp at hf
  obtain⟨⟨⟨h1,rfl⟩,h3⟩,h4⟩:=hf
  exact .inr (.inl ⟨s,h1,by rw[noS_eq h3,noS_eq h4]⟩)
 ·obtain rfl:=hl0 (by decide)
  simp at hf
  obtain⟨⟨⟨h1,h2⟩,h3⟩,h4⟩:=hf
  exact .inr (.inr (.inl ⟨n,h1,by rw[noS_eq h2,noS_eq h3,noS_eq h4]⟩))
 ·obtain rfl:=hl0 (by decide)
  simp at hf
  obtain⟨⟨⟨h1,rfl⟩,h3⟩,h4⟩:=hf
  exact .inr (.inr (.inr (.inl ⟨name,h1,by rw[noS_eq h3,noS_eq h4]⟩)))
 ·obtain rfl:=hl0 (by decide)
  simp at hf
  obtain⟨⟨⟨h1,h2⟩,rfl⟩,h4⟩:=hf
  exact .inr (.inr (.inr (.inr (.inl ⟨s,name,h1,h2,by rw[noS_eq h4]⟩))))
 ·obtain⟨a,b,rfl⟩:=hl2 (by unfold arityB;rw[if_neg (by omega),if_pos ⟨h1,h2⟩])
  rw[if_neg (by omega),if_neg (by omega),if_neg (by omega),if_neg (by omega),if_neg (by omega),if_neg (by unfold rowsB;simp;omega)] at hf
  simp only[Bool.and_eq_true,decide_eq_true_eq] at hf
  obtain⟨⟨⟨rfl,h4⟩,h5⟩,h6⟩:=hf
  exact .inr (.inr (.inr (.inr (.inr (.inl ⟨op,a,b,h1,h2,hb a (by simp),hb b (by simp),by rw[noS_eq h4,noS_eq h5,noS_eq h6];rfl⟩)))))
 ·obtain⟨a,rfl⟩:=hl1 (by rcases h1 with rfl|rfl<;>decide)
  rw[if_neg (by omega),if_neg (by omega),if_neg (by omega),if_neg (by omega),if_neg (by omega),if_neg (by unfold rowsB;simp;omega)] at hf
  simp only[Bool.and_eq_true,decide_eq_true_eq] at hf
  obtain⟨⟨⟨rfl,h4⟩,h5⟩,h6⟩:=hf
  exact .inr (.inr (.inr (.inr (.inr (.inr (.inl ⟨op,a,h1,hb a (by simp),by rw[noS_eq h4,noS_eq h5,noS_eq h6];rfl⟩))))))
 ·obtain⟨a,rfl⟩:=hl1 (by decide)
  simp[rowsB] at hf
  obtain⟨⟨⟨h1,h2⟩,rfl⟩,h4⟩:=hf
  exact .inr (.inr (.inr (.inr (.inr (.inr (.inr (.inl ⟨name,src,a,h1,h2,hb a (by simp),by rw[noS_eq h4]⟩)))))))
 ·obtain⟨a,b,rfl⟩:=hl2 (by unfold arityB;rw[if_neg (by omega),if_neg (by omega),if_neg (by omega),if_neg (by omega),if_pos ⟨h1,h2⟩])
  rw[if_neg (by omega),if_neg (by omega),if_neg (by omega),if_neg (by omega),if_neg (by omega),if_pos (by unfold rowsB;simp;omega)] at hf
  simp only[Bool.and_eq_true,decide_eq_true_eq] at hf
  obtain⟨⟨⟨h4,h5⟩,rfl⟩,h6⟩:=hf
  exact .inr (.inr (.inr (.inr (.inr (.inr (.inr (.inr ⟨op,name,src,a,b,h1,h2,h4,h5,hb a (by simp),hb b (by simp),by rw[noS_eq h6]⟩)))))))
theorem first_says:∀ (d:Nat) (e:Ex),builtE d e=true→∀ r,(4≤lvlN e.op→keySays (headK (tokE d e++r)) (str [110,111,116])=false)∧(lvlN e.op=8→keySays (headK (tokE d e++r)) (str [45])=false):=by
 intro d
 induction d with
 | zero=>intro e h;cases h
 | succ d ih =>
  intro e h r
  rcases built_cases h with ⟨n,_,rfl⟩|⟨s,_,rfl⟩|⟨n,hn,rfl⟩|⟨name,hf,rfl⟩|⟨s,name,hf,_,rfl⟩|⟨op,a,b,h1,h2,ha,_,rfl⟩|⟨op,a,h1,ha,rfl⟩|⟨name,src,a,_,_,_,rfl⟩|⟨op,name,src,a,b,h1,h2,_,_,_,_,rfl⟩
  ·exact⟨fun _=>rfl,fun _=>rfl⟩
  ·exact⟨fun _=>rfl,fun _=>rfl⟩
  ·rcases hn with rfl|rfl
   ·exact⟨fun _=>by show keySays (nmK falseL) _=false;decide +kernel,fun _=>by show keySays (nmK falseL) _=false;decide +kernel⟩
   ·exact⟨fun _=>by show keySays (nmK trueL) _=false;decide +kernel,fun _=>by show keySays (nmK trueL) _=false;decide +kernel⟩
  ·exact⟨fun _=>free_says hf (by decide +kernel),fun _=>free_says hf (by decide +kernel)⟩
  ·exact⟨fun _=>free_says hf (by decide +kernel),fun _=>free_says hf (by decide +kernel)⟩
  ·have e8:lvlN (twoP op a b).op≠8:=by show lvlN op≠8;unfold lvlN;(repeat' split)<;>omega
   refine⟨fun h4=>?_,fun h8=>absurd h8 e8⟩
   have h4:4≤lvlN op:=h4
   unfold twoP
   rw[tok_two h1 h2,List.append_assoc]
   have hL:4≤lvlN op+(if lvlN op=4 then 1 else 0):=by split<;>omega
   generalize lvlN op+(if lvlN op=4 then 1 else 0)=L at *
   by_cases hl:lvlN a.op<L
   ·rw[opndK_in hl,List.append_assoc,List.append_assoc]
    show keySays (sgK [40]) _=false
    decide +kernel
   ·rw[opndK_out hl]
    exact(ih a ha _).1 (by omega)
  ·unfold oneP
   rw[tok_one h1]
   rcases h1 with rfl|rfl
   ·exact⟨fun h=>absurd h (by show ¬ 4≤lvlN 19;decide),fun h=>absurd h (by show ¬ lvlN 19=8;decide)⟩
   ·exact⟨fun _=>by show keySays (sgnK 20) _=false;decide +kernel,fun h=>absurd h (by show ¬ lvlN 20=8;decide)⟩
  ·rw[tok_count]
   exact⟨fun _=>by show keySays (sgnK 21) _=false;decide +kernel,fun _=>by show keySays (sgnK 21) _=false;decide +kernel⟩
  ·rw[tok_fold h1]
   have:keySays (sgnK op) (str [110,111,116])=false∧keySays (sgnK op) (str [45])=false:=by
    obtain rfl|rfl|rfl:op=22∨op=23∨op=24:=by omega
    all_goals exact by decide +kernel
   exact⟨fun _=>this.1,fun _=>this.2⟩
end Go.Afx

/- Parts of this proof, one behind the other: RgS, RgV, RgW, RgX, RgY. -/
import Derived.Test.YtdgapmnojmhllaaGreatDoorPf47
import Derived.Test.YtdgapmnojmhllaaGreatDoorPf8
import Derived.Test.YtdgapmnojmhllaaGreatDoorPf6
import Derived.Test.YtdgapmnojmhllaaGreatDoorPf3
import Derived.Test.YtdgapmnojmhllaaGreatDoorPf32
import Derived.Test.YtdgapmnojmhllaaGreatDoorPf35
set_option maxRecDepth 1000000
set_option maxHeartbeats 40000000
namespace Go.Proofs.YtdgapmnojmhllaaGreatDoor
open Go.RowKit Go.Afx
theorem may_is {W:Wds} {s:PSt} (hb:s.bad=false) (t:ByteArray):isP W s t=(mayP W t s).1:=by
 rw[← may_split,hb]
 rfl
theorem kind_no {W:Wds} {s:PSt} {k:Int} (h:¬ (W.look s.at_).kind=k):(!s.bad&&((W.look s.at_).kind==k))=false:=by simp[h]
theorem signed_may {W:Wds} {E:PSt→Ex×PSt} {s:PSt} (h:mayP W (str [45]) s=(false,s)):signedP W E W.fuel s=singleP W E s:=by
 rw[signed_eq,h,if_neg Bool.false_ne_true]
theorem fold_any_of {W:Wds} {s:PSt} (hb:s.bad=false):(isP W s (str [99,111,117,110,116])||isP W s (str [115,117,109])||isP W s (str [109,105,110])||isP W s (str [109,97,120]))=((mayP W (str [99,111,117,110,116]) s).1||(mayP W (str [115,117,109]) s).1||(mayP W (str [109,105,110]) s).1||(mayP W (str [109,97,120]) s).1):=by
 rw[may_is hb,may_is hb,may_is hb,may_is hb]
theorem foldW_ne:∀ i:Nat,i<4→∀ j:Nat,j<4→foldW[i]?=foldW[j]?→i=j:=by decide +kernel
theorem fold_of_any {W:Wds} {s:PSt} (h:((mayP W (str [99,111,117,110,116]) s).1||(mayP W (str [115,117,109]) s).1||(mayP W (str [109,105,110]) s).1||(mayP W (str [109,97,120]) s).1)=true):∃ j,j<4∧FoldJ W s j:=by
 have key:∀ j:Nat,j<4→∀ t,foldW[j]?=some t→(mayP W t s).1=true→FoldJ W s j:=by
  intro j hj t ht hm i u hu
  by_cases e:i=j
  ·subst e
   rw[if_pos rfl]
   rw[ht] at hu
   cases hu
   exact(may_yes2 hm).1
  ·rw[if_neg e]
   refine may_no2 (may_other hm fun e2=>e ?_)
   have hi:i<4:=(List.getElem?_eq_some_iff.1 hu).1
   exact foldW_ne i hi j hj (by rw[hu,ht,e2])
 simp only[Bool.or_eq_true] at h
 rcases h with ((h|h)|h)|h
 ·exact⟨0,by omega,key 0 (by omega) _ rfl h⟩
 ·exact⟨1,by omega,key 1 (by omega) _ rfl h⟩
 ·exact⟨2,by omega,key 2 (by omega) _ rfl h⟩
 ·exact⟨3,by omega,key 3 (by omega) _ rfl h⟩
theorem dSingle_any (g gw:Nat) (W:Wds) (E:PSt→Ex×PSt) (hUE:∀ s,Ge s (E s).2) (s:PSt) (ihS:mayP W (str [45]) s=(true,s.on)→SingleD g gw W (signedP W E W.fuel) (enterP s.on)) (hE:s.bad=false→s.at_<W.l.length→∀ s',Ge s.on s'→ExprD g gw W 1 E s'):SingleD g gw W (signedP W E W.fuel) s:=by
 intro w h
 cases hbad:s.bad with
 | true =>
  have hm:mayP W (str [45]) s=(false,s):=by
   unfold mayP
   rw[hbad]
   rfl
  have e:signedP W E W.fuel s=(ex0,s):=by
   rw[signed_may hm]
   unfold singleP
   rw[if_pos hbad]
  rw[e]
  exact dSingle_bad g gw W s w h hbad
 | false =>
  rcases may_cases W (str [45]) s with h_neg|⟨h_neg,_,hat⟩
  ·rw [signed_may h_neg]
   unfold singleP
   rw[if_neg (by rw[hbad];decide)]
   by_cases k1:(W.look s.at_).kind=1
   ·rw[if_pos k1]
    exact dSingle_int g gw W s w h hbad h_neg k1
   ·rw [if_neg k1]
    by_cases k2:(W.look s.at_).kind=2
    ·rw[if_pos k2]
     exact dSingle_text g gw W s w h hbad h_neg (kind_no k1) k2
    ·rw [if_neg k2,may_is hbad,may_is hbad,fold_any_of hbad,may_is hbad (str [40])]
     rcases may_cases W (str [116,114,117,101]) s with ht|⟨ht,_,_⟩
     ·rw [ht,if_neg Bool.false_ne_true]
      rcases may_cases W (str [102,97,108,115,101]) s with hf|⟨hf,_,_⟩
      ·rw [hf,if_neg Bool.false_ne_true]
       rcases may_cases W (str [40]) s with hp|⟨hp,_,hat⟩
       ·cases hany:((mayP W (str [99,111,117,110,116]) s).1||(mayP W (str [115,117,109]) s).1||(mayP W (str [109,105,110]) s).1||(mayP W (str [109,97,120]) s).1) with
        | true =>
         rw[if_pos rfl]
         obtain⟨j,hj,hJ⟩:=fold_of_any hany
         have hlt:s.at_<W.l.length:=by
          obtain⟨t,ht⟩:∃ t,foldW[j]?=some t:=⟨_,List.getElem?_eq_getElem (show j<foldW.length from hj)⟩
          have h1:=hJ j t ht
          rw[if_pos rfl] at h1
          rcases may_cases W t s with e|⟨_,_,e⟩
          ·rw[e] at h1;cases h1
          ·exact e
         exact dSingle_fold g gw W s w h hbad h_neg (kind_no k1) (kind_no k2) ht hf hp E hUE j hj hJ (hE hbad hlt)
        | false =>
         rw[if_neg Bool.false_ne_true,hp,if_neg Bool.false_ne_true]
         simp only[Bool.or_eq_false_iff] at hany
         obtain⟨⟨⟨w0,w1⟩,w2⟩,w3⟩:=hany
         rw[varP_eq]
         rcases may_cases W (str [46]) (nameP W s).2 with hd|⟨hd,_,_⟩
         ·rw[hd,if_neg Bool.false_ne_true]
          exact dSingle_var g gw W s w h hbad h_neg (kind_no k1) (kind_no k2) ht hf hp w0 w1 w2 w3 hd
         ·rw[hd,if_pos rfl]
          exact dSingle_col g gw W s w h hbad h_neg (kind_no k1) (kind_no k2) ht hf hp w0 w1 w2 w3 hd
       ·have hno:∀ t,t≠str [40]→(mayP W t s).1=false:=fun t hn=>may_other (by rw[hp]) hn
        rw[hno _ (by decide +kernel),hno _ (by decide +kernel),hno _ (by decide +kernel),hno _ (by decide +kernel),hp,if_neg (by decide),if_pos rfl,parenP_eq]
        have hm:mustP W [str [40]] s=s.on:=by
         unfold mustP mustP
         rw[hp,if_pos rfl]
        rw[hm]
        exact dSingle_paren g gw W s w h hbad h_neg (kind_no k1) (kind_no k2) ht hf (E (enterP s.on)) hp (hE hbad hat _ (ge_enter _))
      ·rw[hf,if_pos rfl]
       exact dSingle_false g gw W s w h hbad h_neg (kind_no k1) (kind_no k2) ht hf
     ·rw[ht,if_pos rfl]
      exact dSingle_true g gw W s w h hbad h_neg (kind_no k1) (kind_no k2) ht
  ·have e:signedP W E W.fuel s=(oneP 20 (signedP W E W.fuel (enterP s.on)).1,leaveP (signedP W E W.fuel (enterP s.on)).2):=by
    rw[signed_eq,h_neg,if_pos rfl]
    unfold negX
    rw[h_neg]
   rw[e]
   exact dSingle_neg g gw W s w h hbad (signedP W E W.fuel (enterP s.on)) h_neg (ihS h_neg)
def QD (g gw:Nat) (W:Wds) (E:PSt→Ex×PSt) (s:PSt):Prop:=SingleD g gw W (signedP W E W.fuel) s∧(∀ L:Nat,1≤L→L≤6→ExprD g gw W L (lvlX W E L) s)∧NotD g gw W (notP W E W.fuel) s
theorem qd_core (g gw:Nat) (W:Wds) (E:PSt→Ex×PSt) (hUE:∀ s,Ge s (E s).2) (s:PSt) (hE:s.bad=false→s.at_<W.l.length→∀ s',Ge s.on s'→ExprD g gw W 1 E s') (hQ:s.bad=false→s.at_<W.l.length→∀ s',Ge s.on s'→QD g gw W E s'):QD g gw W E s:=by
 have hmay:∀ t,mayP W t s=(true,s.on)→s.bad=false∧s.at_<W.l.length:=fun t ht=>by
  rcases may_cases W t s with e|⟨_,h1,h2⟩
  ·rw[e] at ht;cases ht
  ·exact⟨h1,h2⟩
 have h1:=dSingle_any g gw W E hUE s (fun hc=>(hQ (hmay _ hc).1 (hmay _ hc).2 _ (ge_enter _)).1) hE
 have h2:∀ L:Nat,1≤L→L≤6→ExprD g gw W L (lvlX W E L) s:=fun L hL1 hL6 w h=>dExpr_any g gw W E hUE L hL1 hL6 s w h h1 (fun hc=>(hQ (hmay _ hc).1 (hmay _ hc).2 _ (ge_enter _)).2.2) (fun s' hg hb hlt w' hw'=>by
  have hs:s.bad=false:=by
   cases hsb:s.bad with
   | false=>rfl
   | true=>rw[hg.2 hsb] at hb;cases hb
  obtain⟨_,q2,q3⟩:=hQ hs (Nat.lt_of_le_of_lt hg.1 hlt) s'.on ⟨Nat.succ_le_succ hg.1,fun h=>by rw[show s.on.bad=s.bad from rfl,hs] at h;cases h⟩
  exact⟨q3 w' hw',q2 2 (by omega) (by omega) w' hw',fun p p1 p2=>by
   have e:rightX W E p s'.on=lvlX W E (p+1) s'.on:=by
    unfold rightX
    rw[if_neg (by omega),if_neg (by omega)]
   rw[e]
   exact q2 (p+1) (by omega) (by omega) w' hw'⟩)
 exact⟨h1,h2,fun w h=>dNot_any g gw W E s w h (fun hc=>(hQ (hmay _ hc).1 (hmay _ hc).2 _ (ge_enter _)).2.2) (fun _ w' hw'=>h2 3 (by omega) (by omega) w' hw')⟩
theorem qd_all (g gw:Nat) (W:Wds) (f:Nat) (ihE:1≤f→∀ s,Fit W f s→ExprD g gw W 1 (exprP W f) s):∀ (n:Nat) (s:PSt),W.l.length-s.at_≤n→Fit W (f+1) s→QD g gw W (exprP W f) s:=by
 have hE:∀ s:PSt,Fit W (f+1) s→s.bad=false→s.at_<W.l.length→∀ s',Ge s.on s'→ExprD g gw W 1 (exprP W f) s':=fun s hf hb hlt s' hg=>by
  have h1:W.l.length<s.at_+(f+1):=by
   rcases hf with h|h
   ·rw[hb] at h;cases h
   ·exact h
  have h2:s.at_+1≤s'.at_:=hg.1
  exact ihE (by omega) s' (.inr (by omega))
 intro n
 induction n with
 | zero =>
  intro s hn hf
  refine qd_core g gw W _ (up_expr W f) s (hE s hf) (fun _ hlt=>?_)
  omega
 | succ n ih =>
  intro s hn hf
  refine qd_core g gw W _ (up_expr W f) s (hE s hf) (fun _ hlt s' hg=>ih s' ?_ (hf.ge ((ge_on s).trans hg)))
  have h2:s.at_+1≤s'.at_:=hg.1
  omega
theorem exprD_fuel (g gw:Nat) (W:Wds):∀ f,1≤f→∀ s,Fit W f s→ExprD g gw W 1 (exprP W f) s:=by
 intro f
 induction f with
 | zero=>intro h;omega
 | succ f ih=>exact fun _ s hf=>(qd_all g gw W f ih _ s (Nat.le_refl _) hf).2.1 1 (by omega) (by omega)
theorem dExpr1_any (g gw:Nat) (W:Wds) (s:PSt) (w:World) (h:DAt g gw W s w):Calls Tryz.prog 27 #[.pointer (some ⟨g,0,none⟩),.int .i64 1] w (GivesD g gw W (expr1 W s).2 (expr1 W s).1 w) :=
 exprD_fuel g gw W W.fuel (by unfold Wds.fuel;omega) s (fit_all W s) w h
def endsX (W:Wds) (s:PSt) (n:Int):Int:=if s.over then -2 else if s.at_<W.l.length then (W.look s.at_).at_ else if s.bad then n else -1
theorem dEnds_any (g gw:Nat) (W:Wds) (s:PSt) (n:Int) (w:World) (h:DAt g gw W s w) :
  Calls Tryz.prog 28 #[.pointer (some ⟨g,0,none⟩),.int .i64 n] w fun e w'=>e=.returned (.int .i64 (endsX W s n))∧Below w.heap.size w w':=by
 obtain⟨A,m,c,c0,c1,c2,c3,c4,hg,hf⟩:=h.cells
 have hwd:=fun hi=>h.word (i:=s.at_) hi
 have hm:m=W.l.length:=by
  obtain⟨⟨A2,n2,k2,hk,hl⟩,_⟩:=h
  obtain⟨d0,_⟩:=cells5 hk
  rw[c0] at d0
  cases d0
  exact hl.len.symm
 have hle:=h.le
 cases hov:s.over with
 | true =>
  rw[hov] at c3
  unfold endsX
  rw[hov,if_pos rfl]
  clear hwd h hm hf hov
  go_enter Tryz.func28,Tryz.ntmps28
  go_wp2
  go_ret
  exact⟨rfl,Below.refl _ _⟩
 | false =>
  rw[hov] at c3
  unfold endsX
  rw[hov,if_neg Bool.false_ne_true]
  rcases Nat.lt_or_ge s.at_ W.l.length with hlt|hge
  ·rw[if_pos hlt]
   obtain⟨A3,m3,k3,b,o,e0,hw,hm3⟩:=hwd hlt
   rw[e0] at c0
   cases c0
   obtain⟨rfl,x0,x1,x2,x3,xb,xne,xin,xcap,_⟩:=hw
   have hd:decide (s.at_<m)=true:=by simp;omega
   have i0:(0:Int)≤(s.at_:Int):=by omega
   have i1:(s.at_:Int)<(m:Int):=by omega
   generalize (W.look s.at_).at_=y at *
   clear hwd h hf hov x0 x1 x2 hm3 hm hlt hle
   generalize s.at_=a at *
   go_enter Tryz.func28,Tryz.ntmps28
   go_wp2
   go_quiet (fail)
   go_wp2
   go_quiet (fail)
   go_wp2
   go_ret
   first|exact⟨rfl,below_drewN (Below.refl _ _) _⟩|exact⟨rfl,below_drewN (below_drewN (Below.refl _ _) _) _⟩
  ·rw[if_neg (by omega)]
   have hd:decide (s.at_<m)=false:=by simp;omega
   clear hwd h hf hov hm hge hle
   obtain⟨q,hq⟩:∃ q,s.bad=q:=⟨_,rfl⟩
   rw[hq] at c4 ⊢
   clear hq
   cases q
   all_goals
    go_enter Tryz.func28,Tryz.ntmps28
    go_wp2
    go_quiet (fail)
    go_wp2
    go_ret
    first|exact⟨rfl,below_drewN (Below.refl _ _) _⟩|exact⟨rfl,below_drewN (below_drewN (Below.refl _ _) _) _⟩
def CntsD (F:Nat→Prop) (d:Nat):Prop:=∀ (e:Ex) (row:List Value) (w:World),ExAt F d w row e→cntE d e≤1000000000000→dptE d e≤1000000000000 →
 Calls Tryz.prog 29 #[.agg row.toArray] w fun x w'=>x=.returned (.tuple #[.int .i64 (cntE d e),.int .i64 (dptE d e)])∧Below w.heap.size w w'
theorem sum_take1 {f:Ex→Nat} {l:List Ex} {k:Nat} {x:Ex} (h:l[k]?=some x):((l.take (k+1)).map f).sum=((l.take k).map f).sum+f x:=by
 rw[List.take_add_one,h,List.map_append,List.sum_append]
 simp
theorem max_take1 {f:Ex→Nat} {l:List Ex} {k:Nat} {x:Ex} (h:l[k]?=some x):maxN ((l.take (k+1)).map f)=max (maxN ((l.take k).map f)) (f x):=by
 rw[List.take_add_one,h,List.map_append,maxN_app]
 simp[maxN]
theorem max_take_le {f:Ex→Nat} {l:List Ex} (k:Nat):maxN ((l.take k).map f)≤maxN (l.map f) :=
 maxN_le fun y hy=>by
  obtain⟨z,hz,rfl⟩:=List.mem_map.1 hy
  exact maxN_mem (List.mem_map.2 ⟨z,List.mem_of_mem_take hz,rfl⟩)
theorem cnts_any (F:Nat→Prop) (d:Nat):CntsD F d:=by
 induction d with
 | zero=>intro e row w h;exact h.elim
 | succ d ih =>
  intro e row w h hcn hdn
  obtain⟨o1,o2,o3,o4,o5,A2,m,c2,rfl,hel⟩:=h.open_
  have hm:=LsAt.n_le hel
  have Hm:=Lhd (LsAt.len hel)
  rw[cntE] at hcn ⊢
  rw[dptE] at hdn ⊢
  obtain⟨T,HT⟩:∃ T,Hid ((e.args.map (cntE d)).sum=T):=⟨_,rfl⟩
  obtain⟨M,HM⟩:∃ M,Hid (maxN (e.args.map (dptE d))=M):=⟨_,rfl⟩
  rw[HT.out] at hcn ⊢
  rw[HM.out] at hdn ⊢
  clear h
  have hb1:Below w.heap.size w (w.alloc (.cells #[.int .i64 e.op,.int .i64 e.n,.string e.s,.string e.name,.string e.src,.slice A2 m c2] 32)):=(Below.refl _ _).alloc (Nat.le_refl _) _
  obtain⟨w1,Hw1⟩:∃ w1,Hid (w1=w.alloc (.cells #[.int .i64 e.op,.int .i64 e.n,.string e.s,.string e.name,.string e.src,.slice A2 m c2] 32)):=⟨_,rfl⟩
  rw[← Hw1.out] at hb1
  have he1:IsBlk w1 w.heap.size 32 #[.int .i64 e.op,.int .i64 e.n,.string e.s,.string e.name,.string e.src,.slice A2 m c2]:=by rw[Hw1.out];exact IsBlk.laid _ _ _
  have HE:=Lhd (fun W (hW:Below w1.heap.size w1 W)=>exBox (he1.as_was (hW.block _ he1.lt)))
  have Hel:=Lhd (fun W (hW:Below w.heap.size w W)=>ExsAt.below hel hW)
  have HB1:=Lhd hb1
  obtain⟨i0,i1,i2,i3,i4,i5,il⟩:=exBox he1
  clear hel he1
  have hz1:=hb1.size
  clear hb1
  go_enter Tryz.func29,Tryz.ntmps29
  go_upto_region 1 with (fail)
  rw[← Hw1.out]
  go_wp2
  go_loopw [4,5,6] (fun u4 u5 i wr=>∃ k:Nat,k≤m∧i=.int .i64 k∧(∃ t q:Nat,u4=.int .i64 (t:Int)∧u5=.int .i64 (q:Int)∧Hid (t=1+((e.args.take k).map (cntE d)).sum∧q=1+maxN ((e.args.take k).map (dptE d))))∧Below w1.heap.size w1 wr) (fun _ _ i _=>m-(intOf i).toNat)
  case atStart=>exact⟨0,Nat.zero_le _,rfl,⟨1,1,rfl,rfl,Lhd ⟨by simp,by simp[maxN]⟩⟩,Below.refl _ _⟩
  case round =>
   obtain⟨k,hk,rfl,⟨t,q,rfl,rfl,HQ⟩,hB⟩:=hrel
   have h03:=HB1.out.trans (hB.mono hz1)
   obtain⟨g0,g1,g2,g3,g4,g5,gl⟩:=HE.out wr hB
   by_cases hlt:k<m
   ·cases d with
    | zero =>
     obtain⟨b,o,r,e',hA,hbl,_,he,hl,hp,hc⟩:=LsAt.get (Hel.out wr h03) hlt
     exact hp.elim
    | succ d =>
     obtain⟨b,o,x,A5,m5,c5,rfl,hbl,hx,hc0,hc1,hc2,hc3,hc4,hc5,hp,_⟩:=ExsAt.get (Hel.out wr h03) hlt
     have Hx:=Lhd hx
     clear hx
     have t1:=sum_take (f:=cntE (d+1)) Hx.out
     have t2:=max_take_le (f:=dptE (d+1)) (l:=e.args) (k+1)
     have s1:=sum_take1 (f:=cntE (d+1)) Hx.out
     have s2:=max_take1 (f:=dptE (d+1)) Hx.out
     rw[HT.out] at t1
     rw[s2,HM.out] at t2
     obtain⟨q1,q2⟩:=HQ.out
     have Hc:=Lhd (ih x _ wr hp (by omega) (by omega))
     obtain⟨a,Ha⟩:∃ a,Hid (cntE (d+1) x=a):=⟨_,rfl⟩
     obtain⟨z,Hz⟩:∃ z,Hid (dptE (d+1) x=z):=⟨_,rfl⟩
     rw[Ha.out] at Hc t1 s1
     rw[Hz.out] at Hc t2 s2
     have n1:t+a≤1000000000000:=by omega
     have n2:z≤1000000000000:=by omega
     have n3:q≤1000000000001:=by omega
     have HQ2:=Lhd (And.intro (show t+a=1+((e.args.take (k+1)).map (cntE (d+1))).sum by omega) (show max q (z+1)=1+maxN ((e.args.take (k+1)).map (dptE (d+1))) by omega))
     clear t1 t2 s1 s2 q1 q2
     go_wp2_with (go_at_call 29;refine Hc.out.mono ?_;rintro y w5 ⟨rfl,hb6⟩)
     go_roundw
     case rel=>exact⟨k+1,by omega,by go_num,⟨t+a,max q (z+1),by go_num,by go_num,HQ2⟩,hB.trans (hb6.mono hB.size)⟩
     case measure=>simp[intOf];omega
   ·have hke:k=m:=by omega
    obtain⟨q1,q2⟩:=HQ.out
    rw[List.take_of_length_le (by rw[Hm.out];omega)] at q1 q2
    rw[HT.out] at q1
    rw[HM.out] at q2
    subst q1 q2
    go_wp2
    go_ret2
    exact⟨rfl,h03⟩
def CtE (e:Ex) (k:Nat):Prop:=∀ D,cntE D e≤k
theorem CtE.le {e:Ex} {k m:Nat} (h:CtE e k) (hm:k≤m):CtE e m:=fun D=>Nat.le_trans (h D) hm
theorem ctE_leaf {op n:Int} {a b c:ByteArray} (k:Nat) (hk:1≤k):CtE (.mk op n a b c []) k:=fun D=>by
 cases D with
 | zero=>simp[cntE]
 | succ D=>rw[cntE];show 1+0≤k;omega
theorem ct_one {op n:Int} {a b c:ByteArray} {x:Ex} {k:Nat} (h:CtE x k):CtE (.mk op n a b c [x]) (k+1):=fun D=>by
 cases D with
 | zero=>simp[cntE]
 | succ D=>rw[cntE];have:=h D;show 1+(cntE D x+0)≤k+1;omega
theorem ct_two {op n:Int} {a b c:ByteArray} {x y:Ex} {k m:Nat} (h:CtE x k) (h2:CtE y m):CtE (.mk op n a b c [x,y]) (k+m+1):=fun D=>by
 cases D with
 | zero=>simp[cntE]
 | succ D=>rw[cntE];have:=h D;have:=h2 D;show 1+(cntE D x+(cntE D y+0))≤k+m+1;omega
def CtD (one:PSt→Ex×PSt):Prop:=∀ s,CtE (one s).1 (1+2*((one s).2.at_-s.at_))
section
variable (W:Wds)
theorem ct_chain (l:List (ByteArray×Int)) {one:PSt→Ex×PSt} (h:CtD one) (hU:∀ s,Ge s (one s).2):∀ (k:Nat) (e:Ex) (s:PSt) (m:Nat),CtE e (1+2*m)→CtE (chainP W l one k e s).1 (1+2*(m+((chainP W l one k e s).2.at_-s.at_))):=by
 intro k
 induction k with
 | zero=>intro e s m he;exact he.le (by omega)
 | succ k ih =>
  intro e s m he
  unfold chainP
  split
  ·exact he.le (by omega)
  ·rename_i h0
   have h1:=op_more (W:=W) (l:=l) (s:=s)
   rw[if_neg h0] at h1
   have h2:=(hU (opP W l s).2).1
   have h3:=up_chain W l hU k (twoP (opP W l s).1 e (one (opP W l s).2).1) (one (opP W l s).2).2
   have h4:=ih (twoP (opP W l s).1 e (one (opP W l s).2).1) (one (opP W l s).2).2 (m+((one (opP W l s).2).2.at_-s.at_)) ((ct_two he (h (opP W l s).2)).le (by omega))
   exact h4.le (by have:=h3.1;omega)
theorem ct_chain1 (l:List (ByteArray×Int)) {one:PSt→Ex×PSt} (h:CtD one) (hU:∀ s,Ge s (one s).2):CtD (chain1 W l one):=fun s=>by
 have h1:=ct_chain W l h hU W.fuel (one s).1 (one s).2 ((one s).2.at_-s.at_) (h s)
 have h2:=hU s
 have h3:=up_chain W l hU W.fuel (one s).1 (one s).2
 exact h1.le (by have:=h2.1;have:=h3.1;show _≤1+2*((chainP W l one W.fuel (one s).1 (one s).2).2.at_-s.at_);omega)
variable {E:PSt→Ex×PSt} (hE:CtD E) (hU:∀ s,Ge s (E s).2)
include hE hU
omit hU in
theorem ct_where (s:PSt):CtE (whereP W E s).1 (1+2*((whereP W E s).2.at_-s.at_)):=by
 unfold whereP
 split
 ·have h1:=(ge_may W (str [119,104,101,114,101]) s).1
  exact(hE _).le (by omega)
 ·exact ctE_leaf _ (by omega)
theorem ct_fold (s:PSt) (h:(isP W s (str [99,111,117,110,116])||isP W s (str [115,117,109])||isP W s (str [109,105,110])||isP W s (str [109,97,120]))=true) (hb:s.bad=false):CtE (foldP W E s).1 (1+2*((foldP W E s).2.at_-s.at_)):=by
 have h0:=fold_more W s h hb
 have h1:=(ge_must W (str [40]) (foldOp W s).2).trans ((ge_enter _).trans (up_rows W _))
 have h2:=up_where W hU (rowsP W (enterP (mustP W [str [40]] (foldOp W s).2))).2
 have hw:=ct_where W hE (rowsP W (enterP (mustP W [str [40]] (foldOp W s).2))).2
 unfold foldP
 simp only
 generalize whereP W E (rowsP W (enterP (mustP W [str [40]] (foldOp W s).2))).2=a at *
 generalize (rowsP W (enterP (mustP W [str [40]] (foldOp W s).2)))=r at *
 have h5:=h1.1
 have h6:=h2.1
 split
 ·have h3:=(ge_must W (str [41]) a.2).trans (ge_leave _)
  have h7:=h3.1
  refine(ct_one hw).le (by show _≤1+2*((leaveP (mustP W [str [41]] a.2)).at_-s.at_);omega)
 ·have h3:=ge_must W (str [58]) a.2
  have h4:=hU (mustP W [str [58]] a.2)
  have he:=hE (mustP W [str [58]] a.2)
  generalize E (mustP W [str [58]] a.2)=b at *
  have h8:=(ge_must W (str [41]) b.2).trans (ge_leave _)
  have h7:=h3.1
  have h9:=h4.1
  have h10:=h8.1
  refine(ct_two hw he).le (by show _≤1+2*((leaveP (mustP W [str [41]] b.2)).at_-s.at_);omega)
theorem ct_single:CtD (singleP W E):=fun s=>by
 unfold singleP
 split
 ·exact ctE_leaf _ (by omega)
 ·rename_i hb
  have hb:s.bad=false:=by simpa using hb
  split
  ·exact ctE_leaf _ (by omega)
  ·split
   ·exact ctE_leaf _ (by omega)
   ·split
    ·exact ctE_leaf _ (by omega)
    ·split
     ·exact ctE_leaf _ (by omega)
     ·split
      ·rename_i h;exact ct_fold W hE hU s h hb
      ·split
       ·have h1:=(ge_must W (str [40]) s).trans (ge_enter _)
        have h2:=hU (enterP (mustP W [str [40]] s))
        have h3:=(ge_must W (str [41]) (E (enterP (mustP W [str [40]] s))).2).trans (ge_leave _)
        have h4:=h1.1
        have h5:=h2.1
        have h6:=h3.1
        exact(hE (enterP (mustP W [str [40]] s))).le (by show _≤1+2*((leaveP (mustP W [str [41]] (E (enterP (mustP W [str [40]] s))).2)).at_-s.at_);omega)
       ·unfold varP
        simp only
        split
        ·exact ctE_leaf _ (by omega)
        ·exact ctE_leaf _ (by omega)
theorem ct_signed:∀ k,CtD (signedP W E k):=by
 intro k
 induction k with
 | zero=>intro s;exact ctE_leaf _ (by omega)
 | succ k ih =>
  intro s
  unfold signedP
  split
  ·rename_i h
   have h1:=(ge_enter (mayP W (str [45]) s).2)
   have h2:=up_signed W hU k (enterP (mayP W (str [45]) s).2)
   have h0:(mayP W (str [45]) s).2.at_=s.at_+1:=by rw[(may_yes h).1];rfl
   have h3:=h1.1
   have h4:=h2.1
   refine(ct_one (ih _)).le (by show _≤1+2*((signedP W E k (enterP (mayP W (str [45]) s).2)).2.at_-s.at_);omega)
  ·exact ct_single W hE hU s
theorem ct_product:CtD (productP W E):=ct_chain1 W _ (ct_signed W hE hU _) (up_signed W hU _)
theorem ct_sum:CtD (sumP W E):=ct_chain1 W _ (ct_product W hE hU) (up_product W hU)
theorem ct_cmp:CtD (cmpP W E):=fun s=>by
 have h1:=ct_sum W hE hU s
 have h2:=up_sum W hU s
 unfold cmpP
 simp only
 have h3:=op_more (W:=W) (l:=lvCmp) (s:=(sumP W E s).2)
 split
 ·exact h1.le (by have:=h2.1;have h9:(sumP W E s).2.at_≤(opP W lvCmp (sumP W E s).2).2.at_:=(up_op W _ _).1;show _≤1+2*((opP W lvCmp (sumP W E s).2).2.at_-s.at_);omega)
 ·rename_i h0
  rw[if_neg h0] at h3
  have h4:=up_sum W hU (opP W lvCmp (sumP W E s).2).2
  have h5:=ct_sum W hE hU (opP W lvCmp (sumP W E s).2).2
  have h6:=h2.1
  have h7:=h4.1
  refine(ct_two h1 h5).le (by show _≤1+2*((sumP W E (opP W lvCmp (sumP W E s).2).2).2.at_-s.at_);omega)
theorem ct_not:∀ k,CtD (notP W E k):=by
 intro k
 induction k with
 | zero=>intro s;exact ctE_leaf _ (by omega)
 | succ k ih =>
  intro s
  unfold notP
  split
  ·rename_i h
   have h1:=(ge_enter (mayP W (str [110,111,116]) s).2)
   have h2:=up_not W hU k (enterP (mayP W (str [110,111,116]) s).2)
   have h0:(mayP W (str [110,111,116]) s).2.at_=s.at_+1:=by rw[(may_yes h).1];rfl
   have h3:=h1.1
   have h4:=h2.1
   refine(ct_one (ih _)).le (by show _≤1+2*((notP W E k (enterP (mayP W (str [110,111,116]) s).2)).2.at_-s.at_);omega)
  ·exact ct_cmp W hE hU s
theorem ct_both:CtD (bothP W E):=ct_chain1 W _ (ct_not W hE hU _) (up_not W hU _)
end
theorem ct_expr (W:Wds):∀ f,CtD (exprP W f):=by
 intro f
 induction f with
 | zero=>intro s;exact ctE_leaf _ (by omega)
 | succ f ih=>exact ct_chain1 W _ (ct_both W ih (up_expr W f)) (up_both W (up_expr W f))
theorem ct_expr1 (W:Wds):CtD (expr1 W):=ct_expr W _
open Go.RowKit Go.Afx
theorem dpt_kid {D k:Nat} {e:Ex} (h:dptE (D+1) e≤k+1):∀ x∈e.args,dptE D x≤k:=fun x hx=>by
 rw[dptE] at h
 have:=maxN_mem (List.mem_map.2 ⟨x,hx,rfl⟩:dptE D x∈e.args.map (dptE D))
 omega
theorem same_low:∀ (k D:Nat) (e:Ex),k<D→dptE D e≤k→cntE D e=cntE k e∧dptE D e=dptE k e∧∀ lv,sizeE D lv e=sizeE k lv e:=by
 intro k
 induction k with
 | zero =>
  intro D e hD h
  obtain⟨D,rfl⟩:∃ m,D=m+1:=⟨D-1,by omega⟩
  rw[dptE] at h
  omega
 | succ k ih =>
  intro D e hD h
  obtain⟨D,rfl⟩:∃ m,D=m+1:=⟨D-1,by omega⟩
  have hk:=dpt_kid h
  have a:=fun x hx=>ih D x (by omega) (hk x hx)
  refine⟨?_,?_,fun lv=>?_⟩
  ·rw[cntE,cntE,List.map_congr_left fun x hx=>(a x hx).1]
  ·rw[dptE,dptE,List.map_congr_left fun x hx=>(a x hx).2.1]
  ·rw[sizeE,sizeE,allZ_same e.args _ fun x hx=>(a x hx).2.2 (lv+1)]
theorem small_iff (e:Ex):smallZ (sizeE 9000 0 e)=(decide (cntE 9000 e≤300)&&decide (dptE 9000 e≤12)):=by
 by_cases hd:dptE 9000 e≤12
 ·obtain⟨h1,h2,h3⟩:=same_low 12 9000 e (by omega) hd
  have hz:=h3 0
  rw[h1,h2,hz]
  rw[h2] at hd
  obtain⟨c1,c2,_⟩:=sizeE_cts 12 0 e (by omega) (by omega)
  rw[Bool.eq_iff_iff]
  simp only[smallZ,Bool.and_eq_true,decide_eq_true_eq]
  constructor
  ·rintro⟨a,b⟩
   exact⟨by omega,hd⟩
  ·rintro⟨a,b⟩
   have:=c2 (by omega)
   exact⟨by omega,by omega⟩
 ·rw[decide_eq_false hd,Bool.and_false]
  cases hs:smallZ (sizeE 9000 0 e) with
  | false=>rfl
  | true=>exact absurd (small_dptE hs) hd
theorem rgt_cnt (e:Ex):rgtE 9000 e=(decide (cntE 9000 e≤300)&&decide (dptE 9000 e≤12)&&builtE 9000 e):=by
 unfold rgtE
 rw[small_iff]
end Go.Proofs.YtdgapmnojmhllaaGreatDoor

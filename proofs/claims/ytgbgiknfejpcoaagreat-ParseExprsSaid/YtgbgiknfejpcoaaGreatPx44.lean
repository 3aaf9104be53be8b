/- Parts of this proof, one behind the other: RgS, RgV, RgW, RtA, RtB, RtC, RtD, RtE, RtF, RtG, RtH, RtI, RtJ, RtK, RtL. -/
import Derived.Test.YtgbgiknfejpcoaaGreatPx43
import Derived.Test.YtgbgiknfejpcoaaGreatPx10
import Derived.Test.YtgbgiknfejpcoaaGreatPx8
import Derived.Test.YtgbgiknfejpcoaaGreatPx2
import Derived.Test.YtgbgiknfejpcoaaGreatPx31
import Derived.Test.YtgbgiknfejpcoaaGreatPx11
import Derived.Test.YtgbgiknfejpcoaaGreatPx28
import Derived.Test.YtgbgiknfejpcoaaGreatPx32
set_option maxRecDepth 1000000
set_option maxHeartbeats 40000000
namespace Go.Proofs.YtgbgiknfejpcoaaGreat
open Go.RowKit Go.Afx
theorem may_is {W:Wds} {s:PSt} (hb:s.bad=false) (t:ByteArray):isP W s t=(mayP W t s).1:=by
 rw[← may_split,hb]
 rfl
theorem kind_no {W:Wds} {s:PSt} {k:Int} (h:¬ (W.look s.at_).kind=k):(!s.bad&&((W.look s.at_).kind==k))=false:=by simp[h]
theorem signed_may {W:Wds} {E:PSt→Ex×PSt} {s:PSt} (h:mayP W (str [45]) s=(false,s)):signedP W E W.fuel s=singleP W E s:=by
 rw[signed_eq,h,if_neg Bool.false_ne_true]
theorem fold_any_of {W:Wds} {s:PSt} (hb:s.bad=false):(isP W s (str [99,111,117,110,116])||isP W s (str [115,117,109])||isP W s (str [109,105,110])||isP W s (str [109,97,120]))=((mayP W (str [99,111,117,110,116]) s).1||(mayP W (str [115,117,109]) s).1||(mayP W (str [109,105,110]) s).1||(mayP W (str [109,97,120]) s).1):=by
 rw[may_is hb,may_is hb,may_is hb,may_is hb]
theorem foldW_ne:∀ i:Nat,i<4→∀ j:Nat,j<4→foldW[i]?=foldW[j]?→i=j:=by decide +kernel
theorem fold_of_any {W:Wds} {s:PSt} (h:((mayP W (str [99,111,117,110,116]) s).1||(mayP W (str [115,117,109]) s).1||(mayP W (str [109,105,110]) s).1||(mayP W (str [109,97,120]) s).1)=true):∃ j,j<4∧FoldJ W s j:=by
 have key:∀ j:Nat,j<4→∀ t,foldW[j]?=some t→(mayP W t s).1=true→FoldJ W s j:=by
  intro j hj t ht hm i u hu
  by_cases e:i=j
  ·subst e
   rw[if_pos rfl]
   rw[ht] at hu
   cases hu
   exact(may_yes2 hm).1
  ·rw[if_neg e]
   refine may_no2 (may_other hm fun e2=>e ?_)
   have hi:i<4:=(List.getElem?_eq_some_iff.1 hu).1
   exact foldW_ne i hi j hj (by rw[hu,ht,e2])
 simp only[Bool.or_eq_true] at h
 rcases h with ((h|h)|h)|h
 ·exact⟨0,by omega,key 0 (by omega) _ rfl h⟩
 ·exact⟨1,by omega,key 1 (by omega) _ rfl h⟩
 ·exact⟨2,by omega,key 2 (by omega) _ rfl h⟩
 ·exact⟨3,by omega,key 3 (by omega) _ rfl h⟩
theorem dSingle_any (g gw:Nat) (W:Wds) (E:PSt→Ex×PSt) (hUE:∀ s,Ge s (E s).2) (s:PSt) (ihS:mayP W (str [45]) s=(true,s.on)→SingleD g gw W (signedP W E W.fuel) (enterP s.on)) (hE:s.bad=false→s.at_<W.l.length→∀ s',Ge s.on s'→ExprD g gw W 1 E s'):SingleD g gw W (signedP W E W.fuel) s:=by
 intro w h
 cases hbad:s.bad with
 | true =>
  have hm:mayP W (str [45]) s=(false,s):=by
   unfold mayP
   rw[hbad]
   rfl
  have e:signedP W E W.fuel s=(ex0,s):=by
   rw[signed_may hm]
   unfold singleP
   rw[if_pos hbad]
  rw[e]
  exact dSingle_bad g gw W s w h hbad
 | false =>
  rcases may_cases W (str [45]) s with h_neg|⟨h_neg,_,hat⟩
  ·rw [signed_may h_neg]
   unfold singleP
   rw[if_neg (by rw[hbad];decide)]
   by_cases k1:(W.look s.at_).kind=1
   ·rw[if_pos k1]
    exact dSingle_int g gw W s w h hbad h_neg k1
   ·rw [if_neg k1]
    by_cases k2:(W.look s.at_).kind=2
    ·rw[if_pos k2]
     exact dSingle_text g gw W s w h hbad h_neg (kind_no k1) k2
    ·rw [if_neg k2,may_is hbad,may_is hbad,fold_any_of hbad,may_is hbad (str [40])]
     rcases may_cases W (str [116,114,117,101]) s with ht|⟨ht,_,_⟩
     ·rw [ht,if_neg Bool.false_ne_true]
      rcases may_cases W (str [102,97,108,115,101]) s with hf|⟨hf,_,_⟩
      ·rw [hf,if_neg Bool.false_ne_true]
       rcases may_cases W (str [40]) s with hp|⟨hp,_,hat⟩
       ·cases hany:((mayP W (str [99,111,117,110,116]) s).1||(mayP W (str [115,117,109]) s).1||(mayP W (str [109,105,110]) s).1||(mayP W (str [109,97,120]) s).1) with
        | true =>
         rw[if_pos rfl]
         obtain⟨j,hj,hJ⟩:=fold_of_any hany
         have hlt:s.at_<W.l.length:=by
          obtain⟨t,ht⟩:∃ t,foldW[j]?=some t:=⟨_,List.getElem?_eq_getElem (show j<foldW.length from hj)⟩
          have h1:=hJ j t ht
          rw[if_pos rfl] at h1
          rcases may_cases W t s with e|⟨_,_,e⟩
          ·rw[e] at h1;cases h1
          ·exact e
         exact dSingle_fold g gw W s w h hbad h_neg (kind_no k1) (kind_no k2) ht hf hp E hUE j hj hJ (hE hbad hlt)
        | false =>
         rw[if_neg Bool.false_ne_true,hp,if_neg Bool.false_ne_true]
         simp only[Bool.or_eq_false_iff] at hany
         obtain⟨⟨⟨w0,w1⟩,w2⟩,w3⟩:=hany
         rw[varP_eq]
         rcases may_cases W (str [46]) (nameP W s).2 with hd|⟨hd,_,_⟩
         ·rw[hd,if_neg Bool.false_ne_true]
          exact dSingle_var g gw W s w h hbad h_neg (kind_no k1) (kind_no k2) ht hf hp w0 w1 w2 w3 hd
         ·rw[hd,if_pos rfl]
          exact dSingle_col g gw W s w h hbad h_neg (kind_no k1) (kind_no k2) ht hf hp w0 w1 w2 w3 hd
       ·have hno:∀ t,t≠str [40]→(mayP W t s).1=false:=fun t hn=>may_other (by rw[hp]) hn
        rw[hno _ (by decide +kernel),hno _ (by decide +kernel),hno _ (by decide +kernel),hno _ (by decide +kernel),hp,if_neg (by decide),if_pos rfl,parenP_eq]
        have hm:mustP W [str [40]] s=s.on:=by
         unfold mustP mustP
         rw[hp,if_pos rfl]
        rw[hm]
        exact dSingle_paren g gw W s w h hbad h_neg (kind_no k1) (kind_no k2) ht hf (E (enterP s.on)) hp (hE hbad hat _ (ge_enter _))
      ·rw[hf,if_pos rfl]
       exact dSingle_false g gw W s w h hbad h_neg (kind_no k1) (kind_no k2) ht hf
     ·rw[ht,if_pos rfl]
      exact dSingle_true g gw W s w h hbad h_neg (kind_no k1) (kind_no k2) ht
  ·have e:signedP W E W.fuel s=(oneP 20 (signedP W E W.fuel (enterP s.on)).1,leaveP (signedP W E W.fuel (enterP s.on)).2):=by
    rw[signed_eq,h_neg,if_pos rfl]
    unfold negX
    rw[h_neg]
   rw[e]
   exact dSingle_neg g gw W s w h hbad (signedP W E W.fuel (enterP s.on)) h_neg (ihS h_neg)
def QD (g gw:Nat) (W:Wds) (E:PSt→Ex×PSt) (s:PSt):Prop:=SingleD g gw W (signedP W E W.fuel) s∧(∀ L:Nat,1≤L→L≤6→ExprD g gw W L (lvlX W E L) s)∧NotD g gw W (notP W E W.fuel) s
theorem qd_core (g gw:Nat) (W:Wds) (E:PSt→Ex×PSt) (hUE:∀ s,Ge s (E s).2) (s:PSt) (hE:s.bad=false→s.at_<W.l.length→∀ s',Ge s.on s'→ExprD g gw W 1 E s') (hQ:s.bad=false→s.at_<W.l.length→∀ s',Ge s.on s'→QD g gw W E s'):QD g gw W E s:=by
 have hmay:∀ t,mayP W t s=(true,s.on)→s.bad=false∧s.at_<W.l.length:=fun t ht=>by
  rcases may_cases W t s with e|⟨_,h1,h2⟩
  ·rw[e] at ht;cases ht
  ·exact⟨h1,h2⟩
 have h1:=dSingle_any g gw W E hUE s (fun hc=>(hQ (hmay _ hc).1 (hmay _ hc).2 _ (ge_enter _)).1) hE
 have h2:∀ L:Nat,1≤L→L≤6→ExprD g gw W L (lvlX W E L) s:=fun L hL1 hL6 w h=>dExpr_any g gw W E hUE L hL1 hL6 s w h h1 (fun hc=>(hQ (hmay _ hc).1 (hmay _ hc).2 _ (ge_enter _)).2.2) (fun s' hg hb hlt w' hw'=>by
  have hs:s.bad=false:=by
   cases hsb:s.bad with
   | false=>rfl
   | true=>rw[hg.2 hsb] at hb;cases hb
  obtain⟨_,q2,q3⟩:=hQ hs (Nat.lt_of_le_of_lt hg.1 hlt) s'.on ⟨Nat.succ_le_succ hg.1,fun h=>by rw[show s.on.bad=s.bad from rfl,hs] at h;cases h⟩
  exact⟨q3 w' hw',q2 2 (by omega) (by omega) w' hw',fun p p1 p2=>by
   have e:rightX W E p s'.on=lvlX W E (p+1) s'.on:=by
    unfold rightX
    rw[if_neg (by omega),if_neg (by omega)]
   rw[e]
   exact q2 (p+1) (by omega) (by omega) w' hw'⟩)
 exact⟨h1,h2,fun w h=>dNot_any g gw W E s w h (fun hc=>(hQ (hmay _ hc).1 (hmay _ hc).2 _ (ge_enter _)).2.2) (fun _ w' hw'=>h2 3 (by omega) (by omega) w' hw')⟩
theorem qd_all (g gw:Nat) (W:Wds) (f:Nat) (ihE:1≤f→∀ s,Fit W f s→ExprD g gw W 1 (exprP W f) s):∀ (n:Nat) (s:PSt),W.l.length-s.at_≤n→Fit W (f+1) s→QD g gw W (exprP W f) s:=by
 have hE:∀ s:PSt,Fit W (f+1) s→s.bad=false→s.at_<W.l.length→∀ s',Ge s.on s'→ExprD g gw W 1 (exprP W f) s':=fun s hf hb hlt s' hg=>by
  have h1:W.l.length<s.at_+(f+1):=by
   rcases hf with h|h
   ·rw[hb] at h;cases h
   ·exact h
  have h2:s.at_+1≤s'.at_:=hg.1
  exact ihE (by omega) s' (.inr (by omega))
 intro n
 induction n with
 | zero =>
  intro s hn hf
  refine qd_core g gw W _ (up_expr W f) s (hE s hf) (fun _ hlt=>?_)
  omega
 | succ n ih =>
  intro s hn hf
  refine qd_core g gw W _ (up_expr W f) s (hE s hf) (fun _ hlt s' hg=>ih s' ?_ (hf.ge ((ge_on s).trans hg)))
  have h2:s.at_+1≤s'.at_:=hg.1
  omega
theorem exprD_fuel (g gw:Nat) (W:Wds):∀ f,1≤f→∀ s,Fit W f s→ExprD g gw W 1 (exprP W f) s:=by
 intro f
 induction f with
 | zero=>intro h;omega
 | succ f ih=>exact fun _ s hf=>(qd_all g gw W f ih _ s (Nat.le_refl _) hf).2.1 1 (by omega) (by omega)
theorem dExpr1_any (g gw:Nat) (W:Wds) (s:PSt) (w:World) (h:DAt g gw W s w):Calls Tryz.prog 39 #[.pointer (some ⟨g,0,none⟩),.int .i64 1] w (GivesD g gw W (expr1 W s).2 (expr1 W s).1 w) :=
 exprD_fuel g gw W W.fuel (by unfold Wds.fuel;omega) s (fit_all W s) w h
def endsX (W:Wds) (s:PSt) (n:Int):Int:=if s.over then -2 else if s.at_<W.l.length then (W.look s.at_).at_ else if s.bad then n else -1
theorem dEnds_any (g gw:Nat) (W:Wds) (s:PSt) (n:Int) (w:World) (h:DAt g gw W s w) :
  Calls Tryz.prog 28 #[.pointer (some ⟨g,0,none⟩),.int .i64 n] w fun e w'=>e=.returned (.int .i64 (endsX W s n))∧Below w.heap.size w w':=by
 obtain⟨A,m,c,c0,c1,c2,c3,c4,hg,hf⟩:=h.cells
 have hwd:=fun hi=>h.word (i:=s.at_) hi
 have hm:m=W.l.length:=by
  obtain⟨⟨A2,n2,k2,hk,hl⟩,_⟩:=h
  obtain⟨d0,_⟩:=cells5 hk
  rw[c0] at d0
  cases d0
  exact hl.len.symm
 have hle:=h.le
 cases hov:s.over with
 | true =>
  rw[hov] at c3
  unfold endsX
  rw[hov,if_pos rfl]
  clear hwd h hm hf hov
  go_enter Tryz.func28,Tryz.ntmps28
  go_wp2
  go_ret
  exact⟨rfl,Below.refl _ _⟩
 | false =>
  rw[hov] at c3
  unfold endsX
  rw[hov,if_neg Bool.false_ne_true]
  rcases Nat.lt_or_ge s.at_ W.l.length with hlt|hge
  ·rw[if_pos hlt]
   obtain⟨A3,m3,k3,b,o,e0,hw,hm3⟩:=hwd hlt
   rw[e0] at c0
   cases c0
   obtain⟨rfl,x0,x1,x2,x3,xb,xne,xin,xcap,_⟩:=hw
   have hd:decide (s.at_<m)=true:=by simp;omega
   have i0:(0:Int)≤(s.at_:Int):=by omega
   have i1:(s.at_:Int)<(m:Int):=by omega
   generalize (W.look s.at_).at_=y at *
   clear hwd h hf hov x0 x1 x2 hm3 hm hlt hle
   generalize s.at_=a at *
   go_enter Tryz.func28,Tryz.ntmps28
   go_wp2
   go_quiet (fail)
   go_wp2
   go_quiet (fail)
   go_wp2
   go_ret
   first|exact⟨rfl,below_drewN (Below.refl _ _) _⟩|exact⟨rfl,below_drewN (below_drewN (Below.refl _ _) _) _⟩
  ·rw[if_neg (by omega)]
   have hd:decide (s.at_<m)=false:=by simp;omega
   clear hwd h hf hov hm hge hle
   obtain⟨q,hq⟩:∃ q,s.bad=q:=⟨_,rfl⟩
   rw[hq] at c4 ⊢
   clear hq
   cases q
   all_goals
    go_enter Tryz.func28,Tryz.ntmps28
    go_wp2
    go_quiet (fail)
    go_wp2
    go_ret
    first|exact⟨rfl,below_drewN (Below.refl _ _) _⟩|exact⟨rfl,below_drewN (below_drewN (Below.refl _ _) _) _⟩
def CntsD (F:Nat→Prop) (d:Nat):Prop:=∀ (e:Ex) (row:List Value) (w:World),ExAt F d w row e→cntE d e≤1000000000000→dptE d e≤1000000000000 →
 Calls Tryz.prog 40 #[.agg row.toArray] w fun x w'=>x=.returned (.tuple #[.int .i64 (cntE d e),.int .i64 (dptE d e)])∧Below w.heap.size w w'
theorem sum_take1 {f:Ex→Nat} {l:List Ex} {k:Nat} {x:Ex} (h:l[k]?=some x):((l.take (k+1)).map f).sum=((l.take k).map f).sum+f x:=by
 rw[List.take_add_one,h,List.map_append,List.sum_append]
 simp
theorem max_take1 {f:Ex→Nat} {l:List Ex} {k:Nat} {x:Ex} (h:l[k]?=some x):maxN ((l.take (k+1)).map f)=max (maxN ((l.take k).map f)) (f x):=by
 rw[List.take_add_one,h,List.map_append,maxN_app]
 simp[maxN]
theorem max_take_le {f:Ex→Nat} {l:List Ex} (k:Nat):maxN ((l.take k).map f)≤maxN (l.map f) :=
 maxN_le fun y hy=>by
  obtain⟨z,hz,rfl⟩:=List.mem_map.1 hy
  exact maxN_mem (List.mem_map.2 ⟨z,List.mem_of_mem_take hz,rfl⟩)
theorem cnts_any (F:Nat→Prop) (d:Nat):CntsD F d:=by
 induction d with
 | zero=>intro e row w h;exact h.elim
 | succ d ih =>
  intro e row w h hcn hdn
  obtain⟨o1,o2,o3,o4,o5,A2,m,c2,rfl,hel⟩:=h.open_
  have hm:=LsAt.n_le hel
  have Hm:=Lhd (LsAt.len hel)
  rw[cntE] at hcn ⊢
  rw[dptE] at hdn ⊢
  obtain⟨T,HT⟩:∃ T,Hid ((e.args.map (cntE d)).sum=T):=⟨_,rfl⟩
  obtain⟨M,HM⟩:∃ M,Hid (maxN (e.args.map (dptE d))=M):=⟨_,rfl⟩
  rw[HT.out] at hcn ⊢
  rw[HM.out] at hdn ⊢
  clear h
  have hb1:Below w.heap.size w (w.alloc (.cells #[.int .i64 e.op,.int .i64 e.n,.string e.s,.string e.name,.string e.src,.slice A2 m c2] 60)):=(Below.refl _ _).alloc (Nat.le_refl _) _
  obtain⟨w1,Hw1⟩:∃ w1,Hid (w1=w.alloc (.cells #[.int .i64 e.op,.int .i64 e.n,.string e.s,.string e.name,.string e.src,.slice A2 m c2] 60)):=⟨_,rfl⟩
  rw[← Hw1.out] at hb1
  have he1:IsBlk w1 w.heap.size 60 #[.int .i64 e.op,.int .i64 e.n,.string e.s,.string e.name,.string e.src,.slice A2 m c2]:=by rw[Hw1.out];exact IsBlk.laid _ _ _
  have HE:=Lhd (fun W (hW:Below w1.heap.size w1 W)=>exBox (he1.as_was (hW.block _ he1.lt)))
  have Hel:=Lhd (fun W (hW:Below w.heap.size w W)=>ExsAt.below hel hW)
  have HB1:=Lhd hb1
  obtain⟨i0,i1,i2,i3,i4,i5,il⟩:=exBox he1
  clear hel he1
  have hz1:=hb1.size
  clear hb1
  go_enter Tryz.func40,Tryz.ntmps40
  go_upto_region 1 with (fail)
  rw[← Hw1.out]
  go_wp2
  go_loopw [4,5,6] (fun u4 u5 i wr=>∃ k:Nat,k≤m∧i=.int .i64 k∧(∃ t q:Nat,u4=.int .i64 (t:Int)∧u5=.int .i64 (q:Int)∧Hid (t=1+((e.args.take k).map (cntE d)).sum∧q=1+maxN ((e.args.take k).map (dptE d))))∧Below w1.heap.size w1 wr) (fun _ _ i _=>m-(intOf i).toNat)
  case atStart=>exact⟨0,Nat.zero_le _,rfl,⟨1,1,rfl,rfl,Lhd ⟨by simp,by simp[maxN]⟩⟩,Below.refl _ _⟩
  case round =>
   obtain⟨k,hk,rfl,⟨t,q,rfl,rfl,HQ⟩,hB⟩:=hrel
   have h03:=HB1.out.trans (hB.mono hz1)
   obtain⟨g0,g1,g2,g3,g4,g5,gl⟩:=HE.out wr hB
   by_cases hlt:k<m
   ·cases d with
    | zero =>
     obtain⟨b,o,r,e',hA,hbl,_,he,hl,hp,hc⟩:=LsAt.get (Hel.out wr h03) hlt
     exact hp.elim
    | succ d =>
     obtain⟨b,o,x,A5,m5,c5,rfl,hbl,hx,hc0,hc1,hc2,hc3,hc4,hc5,hp,_⟩:=ExsAt.get (Hel.out wr h03) hlt
     have Hx:=Lhd hx
     clear hx
     have t1:=sum_take (f:=cntE (d+1)) Hx.out
     have t2:=max_take_le (f:=dptE (d+1)) (l:=e.args) (k+1)
     have s1:=sum_take1 (f:=cntE (d+1)) Hx.out
     have s2:=max_take1 (f:=dptE (d+1)) Hx.out
     rw[HT.out] at t1
     rw[s2,HM.out] at t2
     obtain⟨q1,q2⟩:=HQ.out
     have Hc:=Lhd (ih x _ wr hp (by omega) (by omega))
     obtain⟨a,Ha⟩:∃ a,Hid (cntE (d+1) x=a):=⟨_,rfl⟩
     obtain⟨z,Hz⟩:∃ z,Hid (dptE (d+1) x=z):=⟨_,rfl⟩
     rw[Ha.out] at Hc t1 s1
     rw[Hz.out] at Hc t2 s2
     have n1:t+a≤1000000000000:=by omega
     have n2:z≤1000000000000:=by omega
     have n3:q≤1000000000001:=by omega
     have HQ2:=Lhd (And.intro (show t+a=1+((e.args.take (k+1)).map (cntE (d+1))).sum by omega) (show max q (z+1)=1+maxN ((e.args.take (k+1)).map (dptE (d+1))) by omega))
     clear t1 t2 s1 s2 q1 q2
     go_wp2_with (go_at_call 40;refine Hc.out.mono ?_;rintro y w5 ⟨rfl,hb6⟩)
     go_roundw
     case rel=>exact⟨k+1,by omega,by go_num,⟨t+a,max q (z+1),by go_num,by go_num,HQ2⟩,hB.trans (hb6.mono hB.size)⟩
     case measure=>simp[intOf];omega
   ·have hke:k=m:=by omega
    obtain⟨q1,q2⟩:=HQ.out
    rw[List.take_of_length_le (by rw[Hm.out];omega)] at q1 q2
    rw[HT.out] at q1
    rw[HM.out] at q2
    subst q1 q2
    go_wp2
    go_ret2
    exact⟨rfl,h03⟩
end Go.Proofs.YtgbgiknfejpcoaaGreat
namespace Go.Afx
open Go.RowKit
abbrev Key:=Int×ByteArray×Int
def Wd.key (x:Wd):Key:=(x.kind,x.text,x.n)
def sgK (t:List UInt8):Key:=(0,str t,0)
def nmK (t:List UInt8):Key:=(3,str t,0)
def idK (b:ByteArray):Key:=(3,b,0)
def keySays (k:Key) (t:ByteArray):Bool:=(decide (k.1=0)||decide (k.1=3))&&decide (k.2.1=t)
def headK (ks:List Key):Key:=ks.head?.getD (4,str [],0)
def At (W:Wds) (i:Nat) (ks:List Key):Prop:=(W.l.drop i).map Wd.key=ks∧i≤W.l.length
def stK (i:Nat) (k:Int):PSt:=⟨i,k,false,false⟩
theorem At.look {W:Wds} {i:Nat} {ks:List Key} (h:At W i ks):(W.look i).key=headK ks:=by
 obtain⟨rfl,_⟩:=h
 unfold headK Wds.look
 rw[List.head?_map,List.head?_drop]
 cases W.l[i]?<;>rfl
theorem At.next {W:Wds} {i:Nat} {k:Key} {ks:List Key} (h:At W i (k::ks)):At W (i+1) ks:=by
 obtain⟨h1,h2⟩:=h
 have h3:i<W.l.length:=by
  rcases Nat.lt_or_ge i W.l.length with h3|h3
  ·exact h3
  ·rw[List.drop_eq_nil_of_le h3] at h1;cases h1
 rw[List.drop_eq_getElem_cons h3] at h1
 exact⟨(List.cons.inj h1).2,h3⟩
theorem At.skip {W:Wds}:∀ {a:List Key} {i:Nat} {ks:List Key},At W i (a++ks)→At W (i+a.length) ks:=by
 intro a
 induction a with
 | nil=>intro i ks h;exact h
 | cons k a ih =>
  intro i ks h
  have:=ih (At.next h)
  rw[List.length_cons,show i+(a.length+1)=i+1+a.length by omega]
  exact this
theorem At.len {W:Wds} {i:Nat} {ks:List Key} (h:At W i ks):i+ks.length=W.l.length:=by
 obtain⟨rfl,h⟩:=h
 rw[List.length_map,List.length_drop];omega
section
variable {W:Wds} {i:Nat} {ks:List Key} {k:Int}
theorem isP_at (h:At W i ks) (t:ByteArray):isP W (stK i k) t=keySays (headK ks) t:=by
 have:=h.look
 unfold isP Wd.says keySays
 rw[← this]
 rfl
theorem mayP_at (h:At W i ks) (t:ByteArray):mayP W t (stK i k)=if keySays (headK ks) t then (true,stK (i+1) k) else (false,stK i k):=by
 unfold mayP
 rw[isP_at h]
 rfl
theorem may_no' (h:At W i ks) {t:ByteArray} (ht:keySays (headK ks) t=false):mayP W t (stK i k)=(false,stK i k):=by rw[mayP_at h,ht];rfl
end
def NoneK (l:List (ByteArray×Int)) (ks:List Key):Prop:=∀ x∈l,keySays (headK ks) x.1=false
theorem op_none {W:Wds} {i:Nat} {ks:List Key} {k:Int} (h:At W i ks):∀ {l:List (ByteArray×Int)},NoneK l ks→opP W l (stK i k)=(0,stK i k):=by
 intro l
 induction l with
 | nil=>intro _;rfl
 | cons x l ih =>
  intro hn
  obtain⟨t,op⟩:=x
  unfold opP
  rw[may_no' h (hn (t,op) (by simp)),if_neg Bool.false_ne_true]
  exact ih (fun y hy=>hn y (by simp[hy]))
def opOf:List (ByteArray×Int)→Key→Int
 | [],_=>0
 | (t,op)::r,k=>if keySays k t then op else opOf r k
end Go.Afx
namespace Go.Afx
open Go.RowKit
def sgnK (op:Int):Key:=if op=17 then nmK [97,110,100] else if op=18 then nmK [111,114] else if op=19 then nmK [110,111,116] else if 21≤op then nmK (sgnL op) else sgK (sgnL op)
def lvlN (op:Int):Nat:=if op=18 then 1 else if op=17 then 2 else if op=19 then 3 else if 11≤op∧op≤16 then 4 else if 6≤op∧op≤7 then 5 else if 8≤op∧op≤10 then 6 else if op=20 then 7 else 8
def opndK (L:Nat) (op:Int) (t:List Key):List Key:=if lvlN op<L then [sgK [40]]++t++[sgK [41]] else t
def whereK (op n:Int) (t:List Key):List Key:=if op=3∧n=1 then [] else nmK [119,104,101,114,101]::t
def rowsK (name src:ByteArray) (op n:Int) (t:List Key):List Key:=[idK name,nmK [105,110],idK src]++whereK op n t
def tokE:Nat→Ex→List Key
 | 0,_=>[]
 | d+1,e =>
  if e.op=1 then [(1,str (decS e.n),e.n)]
  else if e.op=2 then [(2,e.s,0)]
  else if e.op=3 then [nmK (if e.n=1 then trueL else falseL)]
  else if e.op=4 then [idK e.name]
  else if e.op=5 then [idK e.name,sgK [46],idK e.s]
  else match e.args with
   | []=>[]
   | a::r =>
    if e.op=19∨e.op=20 then sgnK e.op::opndK (lvlN e.op) a.op (tokE d a)
    else if 21≤e.op then [sgnK e.op,sgK [40]]++(rowsK e.name e.src a.op a.n (tokE d a)++((if e.op=21 then [] else sgK [58]::(match r with|[]=>[]|b::_=>tokE d b))++[sgK [41]]))
    else opndK (lvlN e.op+if lvlN e.op=4 then 1 else 0) a.op (tokE d a)++(sgnK e.op::(match r with|[]=>[]|b::_=>opndK (lvlN e.op+1) b.op (tokE d b)))
section
variable (W:Wds) (E:PSt→Ex×PSt)
def levP (g:Nat):Nat→PSt→Ex×PSt
 | 1=>chain1 W lvOr (bothP W E)
 | 2=>bothP W E
 | 3=>notP W E g
 | 4=>cmpP W E
 | 5=>sumP W E
 | 6=>productP W E
 | 7=>signedP W E g
 | _=>singleP W E
def isCh (L:Nat):Prop:=L=1∨L=2∨L=5∨L=6
instance (L:Nat):Decidable (isCh L):=by unfold isCh;exact inferInstance
def lstL (L:Nat):List (ByteArray×Int):=if L=1 then lvOr else if L=2 then lvAnd else if L=4 then lvCmp else if L=5 then lvSum else if L=6 then lvMul else []
theorem lev_ch {g L:Nat} (h:isCh L) (s:PSt):levP W E g L s=chainP W (lstL L) (levP W E W.fuel (L+1)) W.fuel (levP W E W.fuel (L+1) s).1 (levP W E W.fuel (L+1) s).2:=by
 rcases h with rfl|rfl|rfl|rfl<;>rfl
def Reach (g L:Nat) (s:PSt) (e:Ex) (s':PSt):Prop :=
 if isCh L then ∃ F,W.fuel≤F+(s'.at_-s.at_)∧levP W E g L s=chainP W (lstL L) (levP W E W.fuel (L+1)) F e s' else levP W E g L s=(e,s')
end
def NoOp (L:Nat) (ks:List Key):Prop:=(∀ M,L≤M→NoneK (lstL M) ks)∧keySays (headK ks) (str [46])=false
theorem NoOp.mono {L M:Nat} {ks:List Key} (h:NoOp L ks) (hL:L≤M):NoOp M ks:=⟨fun N hN=>h.1 N (Nat.le_trans hL hN),h.2⟩
theorem chain_end {W:Wds} {i:Nat} {ks:List Key} {k:Int} {l:List (ByteArray×Int)} {one:PSt→Ex×PSt} (h:At W i ks) (hn:NoneK l ks):∀ F e,chainP W l one F e (stK i k)=(e,stK i k):=by
 intro F e
 cases F with
 | zero=>rfl
 | succ F =>
  unfold chainP
  rw[op_none h hn,if_pos rfl]
theorem Reach.done {W:Wds} {E:PSt→Ex×PSt} {g L i j:Nat} {ks:List Key} {k:Int} {e:Ex} (h:Reach W E g L (stK i k) e (stK j k)) (hj:At W j ks) (hn:NoOp L ks):levP W E g L (stK i k)=(e,stK j k):=by
 unfold Reach at h
 split at h
 ·obtain⟨F,_,h⟩:=h
  rw[h]
  exact chain_end hj (hn.1 L (Nat.le_refl _)) F e
 ·exact h
theorem Reach.up {W:Wds} {E:PSt→Ex×PSt} {g L i j:Nat} {ks kz:List Key} {k:Int} {e:Ex} (hL:L<8) (hL1:1≤L) (hi:At W i kz) (h:levP W E W.fuel (L+1) (stK i k)=(e,stK j k)) (hg0:0<g) (hj:At W j ks) (hn:NoOp (if L=4 then 4 else L+1) ks)
  (h3:L=3→keySays (headK kz) (str [110,111,116])=false) (h7:L=7→keySays (headK kz) (str [45])=false):Reach W E g L (stK i k) e (stK j k):=by
 have hc:L=3∨L=4∨L=7∨isCh L:=by unfold isCh;omega
 obtain⟨g,rfl⟩:∃ m,g=m+1:=⟨g-1,by omega⟩
 unfold Reach
 rcases hc with rfl|rfl|rfl|hc
 ·rw[if_neg (by decide)]
  show notP W E (g+1) _=_
  unfold notP
  rw[may_no' hi (h3 rfl),if_neg Bool.false_ne_true]
  exact h
 ·rw[if_neg (by decide)]
  have h:sumP W E (stK i k)=(e,stK j k):=h
  show cmpP W E _=_
  unfold cmpP
  simp only
  rw[h]
  simp only
  have hn4:NoneK lvCmp ks:=hn.1 4 (by simp)
  rw[op_none hj hn4,if_pos rfl]
 ·rw[if_neg (by decide)]
  show signedP W E (g+1) _=_
  unfold signedP
  rw[may_no' hi (h7 rfl),if_neg Bool.false_ne_true]
  exact h
 ·rw[if_pos hc]
  refine⟨W.fuel,by omega,?_⟩
  rw[lev_ch W E hc,h]
end Go.Afx
namespace Go.Afx
open Go.RowKit
/- how words are laid -/
section
variable {d:Nat} {op n:Int} {s name src:ByteArray} {a b:Ex} {l:List Ex}
end
end Go.Afx
namespace Go.Afx
open Go.RowKit
def nxt (L:Nat):Nat:=if L=4 then 4 else L+1
def Claim (d:Nat) (e:Ex) (L:Nat):Prop :=
 ∀ (W:Wds) (f g i:Nat) (k:Int) (rest:List Key),At W i (opndK L e.op (tokE d e)++rest)→(opndK L e.op (tokE d e)).length≤f→(opndK L e.op (tokE d e)).length<g→NoOp (nxt L) rest→0≤k→k+2*(dptE d e:Int)≤(if lvlN e.op<L then 60 else 61) →
  Reach W (exprP W f) g L (stK i k) e (stK (i+(opndK L e.op (tokE d e)).length) k)
theorem le_nxt (L:Nat):L≤nxt L:=by unfold nxt;split<;>omega
theorem Claim.done {d:Nat} {e:Ex} {L:Nat} (hc:Claim d e L) {W:Wds} {f g i:Nat} {k:Int} {rest:List Key} (hA:At W i (opndK L e.op (tokE d e)++rest)) (hf:(opndK L e.op (tokE d e)).length≤f) (hg:(opndK L e.op (tokE d e)).length<g) (hn:NoOp L rest) (h0:0≤k) (hk:k+2*(dptE d e:Int)≤(if lvlN e.op<L then 60 else 61)) :
  levP W (exprP W f) g L (stK i k)=(e,stK (i+(opndK L e.op (tokE d e)).length) k) :=
 (hc W f g i k rest hA hf hg (hn.mono (le_nxt L)) h0 hk).done hA.skip hn
def stopK (L:Nat) (k:Key):Bool:=([1,2,4,5,6].all fun M=>decide (M<L)||(lstL M).all fun x=>!keySays k x.1)&&!keySays k (str [46])
end Go.Afx
namespace Go.Afx
open Go.RowKit
end Go.Afx
namespace Go.Afx
open Go.RowKit
end Go.Afx
namespace Go.Afx
open Go.RowKit
def sepsK (l:List (List Key)):List Key:=l.flatMap fun x=>sgK [44]::x
def joinK:List (List Key)→List Key
 | []=>[]
 | a::r=>a++sepsK r
def rowsKx (d:Nat) (name src:ByteArray):List Ex→List Key
 | []=>[]
 | a::_=>rowsK name src a.op a.n (tokE d a)
def setK (d:Nat) (x:ByteArray×Ex):List Key:=idK x.1::sgK [61]::tokE d x.2
def firstK (d:Nat):List Ex→List Key
 | []=>[]
 | a::_=>tokE d a
def exprsK (d:Nat) (es:List Ex):List Key:=joinK (es.map (tokE d))
def blockK (f:St→List Key) (l:List St):List Key:=sgK [123]::(l.flatMap f++[sgK [125]])
def plainK (d:Nat) (op:Int) (name src:ByteArray) (cols:List ByteArray) (exprs:List Ex):List Key :=
 if op=1 then nmK [108,101,116]::idK name::sgK [61]::exprsK d exprs
 else if op=2 then nmK [115,101,116]::idK name::sgK [61]::exprsK d exprs
 else if op=3 then nmK [105,110,115,101,114,116]::idK src::sgK [40]::(exprsK d exprs++[sgK [41]])
 else if op=8 then nmK [101,109,105,116]::idK src::sgK [40]::(exprsK d exprs++[sgK [41]])
 else if op=4 then nmK [117,112,100,97,116,101]::(rowsKx d name src exprs++(nmK [115,101,116]::joinK ((cols.zip exprs.tail).map (setK d))))
 else if op=5 then nmK [100,101,108,101,116,101]::rowsKx d name src exprs
 else if op=9 then nmK [97,98,111,114,116]::exprsK d exprs
 else nmK [114,101,112,108,121]::exprsK d exprs
def limitK (n:Int):List Key:=if 0<n then [nmK [108,105,109,105,116],(1,str (decS n),n)] else []
def tokS:Nat→St→List Key
 | 0,_=>[]
 | d+1,x =>
  if x.op=6 then nmK [102,111,114]::(rowsKx d x.name x.src x.exprs++(limitK x.n++blockK (tokS d) x.body))
  else if x.op=7 then nmK [105,102]::(firstK d x.exprs++(blockK (tokS d) x.body++(if x.els=[] then [] else nmK [101,108,115,101]::blockK (tokS d) x.els)))
  else plainK d x.op x.name x.src x.cols x.exprs++[sgK [59]]
def kindK (k:Int):Key:=nmK (kindT k)
def paramK (c:Co):List Key:=[idK c.name,kindK c.kind]
def tokP (d:Nat) (p:Pr):List Key :=
 nmK [112,114,111,99]::idK p.name::sgK [40]::(joinK (p.params.map paramK)++(sgK [41]::((if noS p.part then [] else [nmK [111,110],idK p.part])++((if noS p.src then [] else [nmK [102,114,111,109],idK p.src])++((if p.fuel=100 then [] else [nmK [102,117,101,108],(1,str (decS p.fuel),p.fuel)])++blockK (tokS d) p.body)))))
/- what a statement's first word says -/
section
variable {W:Wds} {i:Nat} {k:Int} {rest:List Key}
end
end Go.Afx
namespace Go.Afx
open Go.RowKit
section
variable {d:Nat} {op n:Int} {name src:ByteArray} {cols:List ByteArray} {es:List Ex} {body els:List St}
end
def HeadC (d:Nat) (x:St):Prop:=∃ a r,tokS d x=nmK a::r∧a≠[101,108,115,101]∧a≠[125]
end Go.Afx
namespace Go.Afx
open Go.RowKit
section
variable {d:Nat} {W:Wds} {i:Nat} {k:Int} {rest:List Key}
end
end Go.Afx
namespace Go.Afx
open Go.RowKit
def onK (b:ByteArray):List Key:=if noS b then [] else [nmK [111,110],idK b]
def fromK (b:ByteArray):List Key:=if noS b then [] else [nmK [102,114,111,109],idK b]
def fuelK (n:Int):List Key:=if n=100 then [] else [nmK [102,117,101,108],(1,str (decS n),n)]
end Go.Afx
namespace Go.Proofs.YtgbgiknfejpcoaaGreat
open Go.RowKit Go.Afx
def endB (c:UInt8):Bool:=decide (c=32)||decide (c=10)||decide (c=40)||decide (c=41)||decide (c=44)||decide (c=46)||decide (c=58)||decide (c=59)||decide (c=123)||decide (c=125)
def Bd (R:List UInt8):Prop:=∀ c,R.head?=some c→endB c=true
theorem endB_says {c:UInt8} (h:endB c=true):lexB c=false∧c.toNat≠39∧c≠61∧c≠47:=by
 unfold endB at h
 simp only[Bool.or_eq_true,decide_eq_true_eq] at h
 rcases h with ((((((((rfl|rfl)|rfl)|rfl)|rfl)|rfl)|rfl)|rfl)|rfl)|rfl
 all_goals exact⟨by decide,by decide,by decide,by decide⟩
theorem lx_word {t R:List UInt8} {ks:List Key} {x:Nx} (hx:nextX (t++R)=some x) (hl:x.len=t.length) (hb:∃ c r,t++R=c::r∧wsB c=false∧¬ (c.toNat=47∧r.head?=some 47)) (h:LexB R ks):LexB (t++R) (keyX x::ks):=by
 obtain⟨c,r,he,h1,h2⟩:=hb
 have e:blk false (t++R)=0:=by
  rw[he,blk,if_neg (by rw[h1];decide),if_neg h2]
 unfold LexB
 rw[e,List.drop_zero]
 refine .cons (by rw[he];exact List.cons_ne_nil _ _) hx ?_
 rw[hl,List.drop_left]
 exact h
theorem take_bd {t R:List UInt8} (ht:∀ c∈t,lexB c=true) (hR:Bd R):(t++R).takeWhile lexB=t:=by
 induction t with
 | nil =>
  cases R with
  | nil=>rfl
  | cons c r=>rw[List.nil_append,List.takeWhile_cons,(endB_says (hR c rfl)).1];rfl
 | cons a t ih =>
  rw[List.cons_append,List.takeWhile_cons,ht a (by simp),if_pos rfl,ih (fun c hc=>ht c (by simp[hc]))]
theorem part_lex {c:UInt8} (h:partB c=true):lexB c=true:=by
 unfold partB letterB at h
 unfold lexB
 simp only[Bool.or_eq_true,Bool.and_eq_true,decide_eq_true_eq] at *
 rcases h with (h|h)|h
 ·exact .inl (.inl (.inl h))
 ·exact .inl (.inr h)
 ·exact .inr h
theorem lex_nows {c:UInt8} (h:lexB c=true):wsB c=false∧c.toNat≠47:=by
 unfold lexB at h
 unfold wsB
 simp only[Bool.or_eq_true,Bool.and_eq_true,decide_eq_true_eq] at h
 simp
 omega
theorem str_list (b:ByteArray):str b.data.toList=b:=rfl
theorem lx_name {b:ByteArray} (hn:namedB b=true) {R:List UInt8} {ks:List Key} (hR:Bd R) (h:LexB R ks):LexB (b.data.toList++R) (idK b::ks):=by
 have hn2:=hn
 unfold namedB at hn2
 cases hd:b.data.toList with
 | nil=>rw[hd] at hn2;cases hn2
 | cons c r =>
  rw[hd] at hn2
  simp only[Bool.and_eq_true,decide_eq_true_eq,List.all_eq_true] at hn2
  obtain⟨⟨_,h2⟩,h3⟩:=hn2
  have hall:∀ a∈c::r,lexB a=true:=fun a ha=>by
   rcases List.mem_cons.1 ha with rfl|ha
   ·exact part_lex (by unfold partB;rw[h2];rfl)
   ·exact part_lex (h3 a ha)
  have hc:=hall c (by simp)
  have hdg:dgB c=false:=by
   unfold letterB at h2
   unfold dgB
   simp only[Bool.and_eq_true,decide_eq_true_eq] at h2
   simp
   omega
  have e:nextX ((c::r)++R)=some ⟨3,c::r,0,(c::r).length⟩:=by
   rw[List.cons_append,nextX_cons,hc,if_pos rfl]
   unfold plainX
   rw[← List.cons_append,take_bd hall hR]
   rw[if_neg (by simp[hdg])]
   rw[show namedB (str (c::r))=true by rw[← hd,str_list];exact hn,if_pos rfl]
  have:=lx_word e rfl ⟨c,r++R,rfl,(lex_nows hc).1,fun h=>(lex_nows hc).2 h.1⟩ h
  have ek:keyX (⟨3,c::r,0,(c::r).length⟩:Nx)=idK b:=by
   show (3,str (c::r),0)=(3,b,0)
   rw[← hd,str_list]
  rw[ek] at this
  exact this
theorem lx_sign {g:List UInt8} (hg:g∈signsL) {R:List UInt8} {ks:List Key} (hR:∀ c,R.head?=some c→c≠61∧c≠47) (h:LexB R ks):LexB (g++R) (sgK g::ks):=by
 have e:nextX (g++R)=some ⟨0,g,0,g.length⟩∧∃ c r,g++R=c::r∧wsB c=false∧¬ (c.toNat=47∧r.head?=some 47):=by
  cases R with
  | nil =>
   simp only[signsL,List.mem_cons,List.not_mem_nil,or_false] at hg
   rcases hg with rfl|rfl|rfl|rfl|rfl|rfl|rfl|rfl|rfl|rfl|rfl|rfl|rfl|rfl|rfl|rfl|rfl|rfl|rfl|rfl|rfl
   all_goals exact⟨rfl,_,_,rfl,by decide,by decide⟩
  | cons a r =>
   obtain⟨h1,h2⟩:=hR a rfl
   have h1':¬ (61:UInt8)=a:=fun h=>h1 h.symm
   have h2':¬ a=47:=h2
   simp only[signsL,List.mem_cons,List.not_mem_nil,or_false] at hg
   rcases hg with rfl|rfl|rfl|rfl|rfl|rfl|rfl|rfl|rfl|rfl|rfl|rfl|rfl|rfl|rfl|rfl|rfl|rfl|rfl|rfl|rfl
   all_goals exact⟨by simp[nextX,lexB,signX,signsL,List.isPrefixOf,h1'],_,_,rfl,by decide,by simp[h2']⟩
 exact lx_word e.1 rfl e.2 h
theorem bd_sign {R:List UInt8} (h:Bd R):∀ c,R.head?=some c→c≠61∧c≠47:=fun c hc=>by
 obtain⟨_,_,h1,h2⟩:=endB_says (h c hc)
 exact⟨h1,h2⟩
/- numbers -/
/- texts -/
def Lx (T:List UInt8) (K:List Key):Prop:=∀ R ks,Bd R→LexB R ks→LexB (T++R) (K++ks)
def NumE:Nat→Ex→Prop
 | 0,_=>True
 | d+1,e=>e.n≤9223372036854775807∧∀ x∈e.args,NumE d x
theorem named_of {b:ByteArray} (h:freeB b=true):namedB b=true:=by
 unfold freeB at h
 simp only[Bool.and_eq_true] at h
 exact h.1
theorem Lx.name {b:ByteArray} (h:freeB b=true):Lx b.data.toList [idK b]:=fun _ _ hR hl=>lx_name (named_of h) hR hl
theorem Lx.sign {t:List UInt8} (h:t∈signsL):Lx t [sgK t]:=fun _ _ hR hl=>lx_sign h (bd_sign hR) hl
/- how texts are laid -/
section
variable {d:Nat} {op n:Int} {s name src:ByteArray} {a b:Ex}
end
def Fst (T:List UInt8):Prop:=∃ c r,T=c::r∧c≠61∧c≠47
end Go.Proofs.YtgbgiknfejpcoaaGreat

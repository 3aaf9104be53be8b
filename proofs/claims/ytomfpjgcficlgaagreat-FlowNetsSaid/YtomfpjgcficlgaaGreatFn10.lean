/- Parts of this proof, one behind the other: SynT. -/
import Derived.Test.YtomfpjgcficlgaaGreatFn9
set_option maxRecDepth 1000000
set_option maxHeartbeats 40000000
namespace Go.Proofs.YtomfpjgcficlgaaGreat
open Go.RowKit Go.Afx Go.Maps Go.WideMaps
theorem uses_none (d:Nat) (ih:UsesS d) (b1 b2 b3:Nat) (op n:Int) (name src:ByteArray) (Ac Ae Ab Al:Option Addr) (nc cc ne ce nb cb nl cl:Nat) (exprs:List Ex) (body els:List St) (w:World) (L1 L2 L3:List ByteArray) (hop:op<3∨8<op∨op=7)
  (hel:ExsAt (NB b1 b2 b3) d w Ae ne ce exprs) (hbl:StsAt (NB b1 b2 b3) d w Ab nb cb body) (hll:StsAt (NB b1 b2 b3) d w Al nl cl els) (hu:Sets w b1 b2 b3 L1 L2 L3)
  (g1:L1.length+(1+(exprs.map (cntE d)).sum+(body.map (cntS d)).sum+(els.map (cntS d)).sum)≤1000000) (g2:L2.length+(1+(exprs.map (cntE d)).sum+(body.map (cntS d)).sum+(els.map (cntS d)).sum)≤1000000) (g3:L3.length+(1+(exprs.map (cntE d)).sum+(body.map (cntS d)).sum+(els.map (cntS d)).sum)≤1000000) :
  Calls Tryz.prog 82 #[.agg #[.map (some b1),.map (some b2),.map (some b3)],.agg #[.int .i64 op,.string name,.string src,.int .i64 n,.slice Ac nc cc,.slice Ae ne ce,.slice Ab nb cb,.slice Al nl cl]] w fun r w'=>r=.returned (.tuple #[]) ∧
   Sets w' b1 b2 b3 (L1++(([]:List ByteArray)++exprs.flatMap (srcsE d)++(body++els).flatMap (readsS d))) (L2++(([]:List ByteArray)++(body++els).flatMap (writesS d))) (L3++(([]:List ByteArray)++(body++els).flatMap (emitsS d)))∧But (S3 b1 b2 b3) w w':=by
 have hnel:=LsAt.n_le hel
 have cb':=sts_cnt hbl
 have cl':=sts_cnt hll
 have Hlen:=Lhd (LsAt.len hel)
 have HlenB:=Lhd (LsAt.len hbl)
 have HlenL:=Lhd (LsAt.len hll)
 have h1lt:=hu.one.lt
 have h2lt:=hu.two.lt
 have h3lt:=hu.three.lt
 obtain⟨w2,Hw2⟩:∃ w2,Hid (w2=(w.alloc (.cells #[.map (some b1),.map (some b2),.map (some b3)] 105)).alloc (.cells #[.int .i64 op,.string name,.string src,.int .i64 n,.slice Ac nc cc,.slice Ae ne ce,.slice Ab nb cb,.slice Al nl cl] 60)):=⟨_,rfl⟩
 have hb2:Below w.heap.size w w2:=by rw[Hw2.out];exact((Below.refl _ _).alloc (Nat.le_refl _) _).alloc (by simp) _
 have hu2:IsBlk w2 w.heap.size 105 #[.map (some b1),.map (some b2),.map (some b3)]:=by rw[Hw2.out];exact(IsBlk.laid _ _ _).alloc _
 have he2:IsBlk w2 (w.heap.size+1) 60 #[.int .i64 op,.string name,.string src,.int .i64 n,.slice Ac nc cc,.slice Ae ne ce,.slice Ab nb cb,.slice Al nl cl]:=by rw[Hw2.out];exact laid_at (by simp) _ _
 have hU2:=hu.below hb2
 have hz2:=hb2.size
 have Hx2:=Lhd (fun W (hW:But (S3 b1 b2 b3) w2 W)=>And.intro (usBox (hu2.as_was (hW.block _ hu2.lt (fun h=>by rcases h with h|h|h<;>omega)))) (stBox0 (he2.as_was (hW.block _ he2.lt (fun h=>by rcases h with h|h|h<;>omega)))))
 have Hel:=Lhd (fun W (hW:But (S3 b1 b2 b3) w2 W)=>ExsAt.kept hel (nb_kept ((But.of_below (S:=S3 b1 b2 b3) hb2).trans' hW)))
 have Hbl:=Lhd (fun W (hW:But (S3 b1 b2 b3) w2 W)=>StsAt.kept hbl (nb_kept ((But.of_below (S:=S3 b1 b2 b3) hb2).trans' hW)))
 have Hll:=Lhd (fun W (hW:But (S3 b1 b2 b3) w2 W)=>StsAt.kept hll (nb_kept ((But.of_below (S:=S3 b1 b2 b3) hb2).trans' hW)))
 obtain⟨⟨y0,y1,y2,yl⟩,x0,x2,x5,x6,x7,xl⟩:=Hx2.out w2 (But.refl _ _)
 clear hu2 he2 hel hbl hll
 have hb02:But (S3 b1 b2 b3) w w2:=But.of_below hb2
 have e4:(op==4)=false:=by simp;omega
 have e5:(op==5)=false:=by simp;omega
 have e6:(op==6)=false:=by simp;omega
 have e3:(op==3)=false:=by simp;omega
 have e8:(op==8)=false:=by simp;omega
 go_enter Tryz.func82,Tryz.ntmps82
 go_upto_region 1 with (fail)
 rw[← Hw2.out]
 have hU:Sets w2 b1 b2 b3 (L1++([]:List ByteArray)) (L2++([]:List ByteArray)) (L3++([]:List ByteArray)):=by simpa using hU2
 have hB:But (S3 b1 b2 b3) w2 w2:=But.refl _ _
 go_wp2_with (fail)
 go_loopw [42] (fun i wr=>∃ k:Nat,k≤ne∧i=.int .i64 k∧Sets wr b1 b2 b3 (L1++([]:List ByteArray)++(exprs.take k).flatMap (srcsE d)) (L2++([]:List ByteArray)) (L3++([]:List ByteArray))∧But (S3 b1 b2 b3) w2 wr) (fun i _=>ne-(intOf i).toNat)
 case atStart=>exact⟨0,Nat.zero_le _,rfl,by simpa using hU,hB⟩
 case round =>
  obtain⟨k,hk,rfl,hU4,hB4⟩:=hrel
  obtain⟨⟨z0,z1,z2,zl⟩,v0,v2,v5,v6,v7,vl⟩:=Hx2.out wr hB4
  by_cases hlt:k<ne
  ·cases d with
   | zero =>
    obtain⟨b,o,r,e,hA,hbl,_,he,hl,hp,hc⟩:=LsAt.get (Hel.out wr hB4) hlt
    exact hp.elim
   | succ d =>
    obtain⟨b,o,x,A2,m2,c2,rfl,hbl,hx,hc0,hc1,hc2,hc3,hc4,hc5,hp,_⟩:=ExsAt.get (Hel.out wr hB4) hlt
    have Hx:=Lhd hx
    clear hx
    have hbn:Below wr.heap.size wr (wr.alloc (.cells #[.int .i64 x.op,.int .i64 x.n,.string x.s,.string x.name,.string x.src,.slice A2 m2 c2] 58)):=(Below.refl _ _).alloc (Nat.le_refl _) _
    have hU4n:=hU4.below hbn
    have Hc:=Lhd (usesE_any _ _ x _ _ b1 b2 b3 _ (hp.below hbn) hU4n.one (fun k hk=>hk.1) (by have:=flat_le (f:=srcsE (d+1)) Hx.out;have:=flat_cnt (srcsE_le (d+1)) exprs;simp only[List.length_append,List.length_nil];omega))
    go_wp2_with (go_at_call 101;refine Hc.out.mono ?_;rintro y w5 ⟨rfl,hU5,hB5⟩)
    go_roundw
    case rel=>exact⟨k+1,by omega,by go_num,by rw[flat_take Hx.out,← List.append_assoc];exact hU4n.first hU5 hB5,(hB4.then_below hbn).trans' (but_s1 hB5)⟩
    case measure=>simp[intOf];omega
  ·have hU6:Sets wr b1 b2 b3 (L1++([]:List ByteArray)++exprs.flatMap (srcsE d)) (L2++([]:List ByteArray)) (L3++([]:List ByteArray)):=by rw[List.take_of_length_le (by rw[Hlen.out];omega)] at hU4;exact hU4
   clear hU4
   obtain⟨rB,hrB,h8B,h1B,hlB,hpB⟩:=ls_rows (Hbl.out wr hB4)
   obtain⟨rL,hrL,h8L,h1L,hlL,hpL⟩:=ls_rows (Hll.out wr hB4)
   have hS4:∀ k,S3 b1 b2 b3 k→k<wr.heap.size:=fun k h=>by rcases h with rfl|rfl|rfl<;>first|exact hU6.one.lt|exact hU6.two.lt|exact hU6.three.lt
   have HpB:=Lhd hpB
   have HpL:=Lhd hpL
   have H8B:=Lhd h8B
   have H8L:=Lhd h8L
   have H1B:=Lhd h1B
   have H1L:=Lhd h1L
   have HlB:=Lhd hlB
   have HlL:=Lhd hlL
   have HS4:=Lhd hS4
   clear hpB hpL h8B h8L h1B h1L hlB hlL hS4
   have hcnt:nb+nl≤1000000:=by omega
   have Hcell:=Lhd (fun W (hW:Below wr.heap.size wr W)=>(Hx2.out W (hB4.then_below hW)).2)
   have hm1:nb+nl≤maxLen:=by unfold maxLen;omega
   have hm2:(nb+nl)*144≤140737488355328:=by omega
   obtain⟨N,HN⟩:∃ N,Hid (nb+nl=N):=⟨_,rfl⟩
   go_upto_region 16 with (fail)
   go_cut [55,56,57] from 50 to 64 (Joined b1 b2 b3 d (body++els) N (fun W=>Sets W b1 b2 b3 (L1++([]:List ByteArray)++exprs.flatMap (srcsE d)) (L2++([]:List ByteArray)) (L3++([]:List ByteArray))∧But (S3 b1 b2 b3) w2 W))
   case first =>
    go_region_law (first
     | (refine step_app (base:=wr.drew.heap.size) (xs:=rB) (news:=rL) rfl rfl tySt rfl hown5 rfl ((RowsAt.drew hrL).below hb5) H8L.out H1L.out hm1 hm2 hm3 ?_;intro A6 c6 w6 hown6 hbut6 hf6)
     | (go_simp;go_at_call 102;refine(cloneSt_any _ _ _ _ (by omega) _ (RowsAt.drew hrB) H8B.out H1B.out).mono ?_;rintro x w5 ⟨A5,c5,rfl,hown5,hb5⟩;have hb45:Below wr.heap.size wr w5:=((Below.refl _ _).drew).trans hb5;obtain⟨u0,u2,u5,u6,u7,ul⟩:=Hcell.out w5 hb45;have hm3:=hb5.size))
    all_goals
     go_wp2
     go_meet
     have hb46:Below wr.heap.size wr w6:=hb45.trans (hbut6.below' hb45.size (fun i hi=>by
      cases A5 with
      | none=>cases hi
      | some a5 =>
       have h:=(hown5.lt a5.block rfl).1
       simp at hi
       subst hi
       exact h))
     exact⟨A6,c6,by rw[← HN.out],by rw[← HN.out];go_num,rfl,by rw[← HN.out];exact joined_ls HS4.out hown6 H8B.out H8L.out hrB.len hrL.len HlB.out HlL.out HpB.out HpL.out (But.of_below hb46),hU6.below hb46,hB4.then_below hb46⟩
   case rest =>
    obtain⟨A6,c6,rfl,rfl,rfl,hys,hU7,hB7⟩:=hcut
    obtain⟨es,Hes⟩:∃ l,Hid (exprs.flatMap (srcsE d)=l):=⟨_,rfl⟩
    obtain⟨ys,Hys⟩:∃ l,Hid (body++els=l):=⟨_,rfl⟩
    have hesl:es.length≤(exprs.map (cntE d)).sum:=by rw[← Hes.out];exact flat_cnt (srcsE_le d) exprs
    have hsum:(ys.map (cntS d)).sum=(body.map (cntS d)).sum+(els.map (cntS d)).sum:=by rw[← Hys.out,List.map_append,List.sum_append]
    have Hyl:Hid (ys.length=N):=Lhd (by rw[← Hys.out,List.length_append,HlenB.out,HlenL.out,HN.out])
    have hNb:N≤1000000:=by rw[← HN.out];exact hcnt
    have Hsum:=Lhd hsum
    rw[Hes.out] at hU7
    rw[Hys.out] at hys
    obtain⟨sE,HsE⟩:∃ s,Hid ((exprs.map (cntE d)).sum=s):=⟨_,rfl⟩
    obtain⟨sY,HsY⟩:∃ s,Hid ((ys.map (cntS d)).sum=s):=⟨_,rfl⟩
    have G1:L1.length+(1+sE+sY)≤1000000:=by rw[← HsE.out,← HsY.out];omega
    have G2:L2.length+(1+sE+sY)≤1000000:=by rw[← HsE.out,← HsY.out];omega
    have G3:L3.length+(1+sE+sY)≤1000000:=by rw[← HsE.out,← HsY.out];omega
    rw[HsE.out] at hesl
    clear hsum g1 g2 g3 cb' cl' Hel Hbl Hll hrB hrL hB4 hU6 HS4 HpB HpL H8B H8L H1B H1L HlB HlL Hcell Hsum z0 z1 z2 zl v0 v2 v5 v6 v7 vl hk
    have Hys2:=Lhd hys
    clear hys
    go_wp2_with (fail)
    go_loopw [57] (fun i wq=>∃ k:Nat,k≤N∧i=.int .i64 k∧Sets wq b1 b2 b3 (L1++([]:List ByteArray)++es++(ys.take k).flatMap (readsS d)) (L2++([]:List ByteArray)++(ys.take k).flatMap (writesS d)) (L3++([]:List ByteArray)++(ys.take k).flatMap (emitsS d))∧But (S3 b1 b2 b3) wc wq) (fun i _=>N-(intOf i).toNat)
    case atStart=>exact⟨0,Nat.zero_le _,rfl,by simpa using hU7,But.refl _ _⟩
    case round =>
     obtain⟨j,hj,rfl,hUq,hBq⟩:=hrel
     obtain⟨⟨z0,z1,z2,zl⟩,v0,v2,v5,v6,v7,vl⟩:=Hx2.out wr (hB7.trans' hBq)
     by_cases hlt2:j<N
     ·cases d with
      | zero =>
       obtain⟨b,o,r,e,hA,hbl,_,he,hl,hp,hc⟩:=LsAt.get (Hys2.out.kept (nb_kept hBq)) hlt2
       exact hp.elim
      | succ d =>
       obtain⟨b,o,x,Ac2,nc2,cc2,Ae2,ne2,ce2,Ab2,nb2,cb2,Al2,nl2,cl2,rfl,hbl,hx,hc0,hc1,hc2,hc3,hc4,hc5,hc6,hc7,hp,_⟩:=StsAt.get (Hys2.out.kept (nb_kept hBq)) hlt2
       have Hx:=Lhd hx
       clear hx
       have hbn:Below wr.heap.size wr (wr.alloc (.cells #[.int .i64 x.op,.string x.name,.string x.src,.int .i64 x.n,.slice Ac2 nc2 cc2,.slice Ae2 ne2 ce2,.slice Ab2 nb2 cb2,.slice Al2 nl2 cl2] 60)):=(Below.refl _ _).alloc (Nat.le_refl _) _
       have hUn:=hUq.below hbn
       have t0:=sum_take (f:=cntS (d+1)) Hx.out
       rw[HsY.out] at t0
       have t1:=flat_cnt (readsS_le (d+1)) (ys.take j)
       have t2:=flat_cnt (writesS_le (d+1)) (ys.take j)
       have t3:=flat_cnt (emitsS_le (d+1)) (ys.take j)
       have Hc:=Lhd (ih b1 b2 b3 x _ _ _ _ _ (hp.below hbn) hUn (by simp only[List.length_append,List.length_nil];omega) (by simp only[List.length_append,List.length_nil];omega) (by simp only[List.length_append,List.length_nil];omega))
       clear t0 t1 t2 t3 hUn
       go_wp2_with (go_at_call 82;refine Hc.out.mono ?_;rintro y w8 ⟨rfl,hU8,hB8⟩)
       go_roundw
       case rel=>exact⟨j+1,by omega,by go_num,by simp only[flat_take Hx.out,← List.append_assoc];exact hU8,(hBq.then_below hbn).trans' hB8⟩
       case measure=>simp[intOf];omega
     ·go_wp2
      go_end0
      refine⟨rfl,?_,hb02.trans' (hB7.trans' hBq)⟩
      rw[List.take_of_length_le (by rw[Hyl.out];omega)] at hUq
      rw[Hes.out,Hys.out]
      simp only[List.append_nil,List.append_assoc] at hUq ⊢
      exact hUq
theorem uses_6 (d:Nat) (ih:UsesS d) (b1 b2 b3:Nat) (n:Int) (name src:ByteArray) (Ac Ae Ab Al:Option Addr) (nc cc ne ce nb cb nl cl:Nat) (exprs:List Ex) (body els:List St) (w:World) (L1 L2 L3:List ByteArray) 
  (hsr:okS src) (hel:ExsAt (NB b1 b2 b3) d w Ae ne ce exprs) (hbl:StsAt (NB b1 b2 b3) d w Ab nb cb body) (hll:StsAt (NB b1 b2 b3) d w Al nl cl els) (hu:Sets w b1 b2 b3 L1 L2 L3)
  (g1:L1.length+(1+(exprs.map (cntE d)).sum+(body.map (cntS d)).sum+(els.map (cntS d)).sum)≤1000000) (g2:L2.length+(1+(exprs.map (cntE d)).sum+(body.map (cntS d)).sum+(els.map (cntS d)).sum)≤1000000) (g3:L3.length+(1+(exprs.map (cntE d)).sum+(body.map (cntS d)).sum+(els.map (cntS d)).sum)≤1000000) :
  Calls Tryz.prog 82 #[.agg #[.map (some b1),.map (some b2),.map (some b3)],.agg #[.int .i64 6,.string name,.string src,.int .i64 n,.slice Ac nc cc,.slice Ae ne ce,.slice Ab nb cb,.slice Al nl cl]] w fun r w'=>r=.returned (.tuple #[]) ∧
   Sets w' b1 b2 b3 (L1++([src]++exprs.flatMap (srcsE d)++(body++els).flatMap (readsS d))) (L2++(([]:List ByteArray)++(body++els).flatMap (writesS d))) (L3++(([]:List ByteArray)++(body++els).flatMap (emitsS d)))∧But (S3 b1 b2 b3) w w':=by
 have hnel:=LsAt.n_le hel
 have cb':=sts_cnt hbl
 have cl':=sts_cnt hll
 have Hlen:=Lhd (LsAt.len hel)
 have HlenB:=Lhd (LsAt.len hbl)
 have HlenL:=Lhd (LsAt.len hll)
 have h1lt:=hu.one.lt
 have h2lt:=hu.two.lt
 have h3lt:=hu.three.lt
 obtain⟨w2,Hw2⟩:∃ w2,Hid (w2=(w.alloc (.cells #[.map (some b1),.map (some b2),.map (some b3)] 105)).alloc (.cells #[.int .i64 6,.string name,.string src,.int .i64 n,.slice Ac nc cc,.slice Ae ne ce,.slice Ab nb cb,.slice Al nl cl] 60)):=⟨_,rfl⟩
 have hb2:Below w.heap.size w w2:=by rw[Hw2.out];exact((Below.refl _ _).alloc (Nat.le_refl _) _).alloc (by simp) _
 have hu2:IsBlk w2 w.heap.size 105 #[.map (some b1),.map (some b2),.map (some b3)]:=by rw[Hw2.out];exact(IsBlk.laid _ _ _).alloc _
 have he2:IsBlk w2 (w.heap.size+1) 60 #[.int .i64 6,.string name,.string src,.int .i64 n,.slice Ac nc cc,.slice Ae ne ce,.slice Ab nb cb,.slice Al nl cl]:=by rw[Hw2.out];exact laid_at (by simp) _ _
 have hU2:=hu.below hb2
 have hz2:=hb2.size
 have Hx2:=Lhd (fun W (hW:But (S3 b1 b2 b3) w2 W)=>And.intro (usBox (hu2.as_was (hW.block _ hu2.lt (fun h=>by rcases h with h|h|h<;>omega)))) (stBox0 (he2.as_was (hW.block _ he2.lt (fun h=>by rcases h with h|h|h<;>omega)))))
 have Hel:=Lhd (fun W (hW:But (S3 b1 b2 b3) w2 W)=>ExsAt.kept hel (nb_kept ((But.of_below (S:=S3 b1 b2 b3) hb2).trans' hW)))
 have Hbl:=Lhd (fun W (hW:But (S3 b1 b2 b3) w2 W)=>StsAt.kept hbl (nb_kept ((But.of_below (S:=S3 b1 b2 b3) hb2).trans' hW)))
 have Hll:=Lhd (fun W (hW:But (S3 b1 b2 b3) w2 W)=>StsAt.kept hll (nb_kept ((But.of_below (S:=S3 b1 b2 b3) hb2).trans' hW)))
 obtain⟨⟨y0,y1,y2,yl⟩,x0,x2,x5,x6,x7,xl⟩:=Hx2.out w2 (But.refl _ _)
 clear hu2 he2 hel hbl hll
 have hb02:But (S3 b1 b2 b3) w w2:=But.of_below hb2
 go_enter Tryz.func82,Tryz.ntmps82
 go_upto_region 1 with (fail)
 rw[← Hw2.out]
 go_wp2_with (at_mapUpdate;refine wpList_mapUpdate_own _ rfl _ _ _ 89 rfl 9 4 strKeyed Tryz.underlying89 _ b1 _ _ rfl hU2.one (by unfold maxLen;omega) _ _ _ rfl rfl (keyS hsr) _ [] (plainElem_bool Tryz.underlying4 true) ?_;intro w3 hM3 hg3;have hB:But (S3 b1 b2 b3) w2 w3:=but_s1 (grown_but hg3);obtain⟨⟨p0,p1,p2,pl⟩,q0,q2,q5,q6,q7,ql⟩:=Hx2.out _ hB)
 have hU:Sets w3 b1 b2 b3 (L1++[src]) (L2++([]:List ByteArray)) (L3++([]:List ByteArray)):=by simpa using hU2.first (UseAt.put hM3) (grown_but hg3)
 go_loopw [42] (fun i wr=>∃ k:Nat,k≤ne∧i=.int .i64 k∧Sets wr b1 b2 b3 (L1++[src]++(exprs.take k).flatMap (srcsE d)) (L2++([]:List ByteArray)) (L3++([]:List ByteArray))∧But (S3 b1 b2 b3) w2 wr) (fun i _=>ne-(intOf i).toNat)
 case atStart=>exact⟨0,Nat.zero_le _,rfl,by simpa using hU,hB⟩
 case round =>
  obtain⟨k,hk,rfl,hU4,hB4⟩:=hrel
  obtain⟨⟨z0,z1,z2,zl⟩,v0,v2,v5,v6,v7,vl⟩:=Hx2.out wr hB4
  by_cases hlt:k<ne
  ·cases d with
   | zero =>
    obtain⟨b,o,r,e,hA,hbl,_,he,hl,hp,hc⟩:=LsAt.get (Hel.out wr hB4) hlt
    exact hp.elim
   | succ d =>
    obtain⟨b,o,x,A2,m2,c2,rfl,hbl,hx,hc0,hc1,hc2,hc3,hc4,hc5,hp,_⟩:=ExsAt.get (Hel.out wr hB4) hlt
    have Hx:=Lhd hx
    clear hx
    have hbn:Below wr.heap.size wr (wr.alloc (.cells #[.int .i64 x.op,.int .i64 x.n,.string x.s,.string x.name,.string x.src,.slice A2 m2 c2] 58)):=(Below.refl _ _).alloc (Nat.le_refl _) _
    have hU4n:=hU4.below hbn
    have Hc:=Lhd (usesE_any _ _ x _ _ b1 b2 b3 _ (hp.below hbn) hU4n.one (fun k hk=>hk.1) (by have:=flat_le (f:=srcsE (d+1)) Hx.out;have:=flat_cnt (srcsE_le (d+1)) exprs;simp only[List.length_append,List.length_cons,List.length_nil];omega))
    go_wp2_with (go_at_call 101;refine Hc.out.mono ?_;rintro y w5 ⟨rfl,hU5,hB5⟩)
    go_roundw
    case rel=>exact⟨k+1,by omega,by go_num,by rw[flat_take Hx.out,← List.append_assoc];exact hU4n.first hU5 hB5,(hB4.then_below hbn).trans' (but_s1 hB5)⟩
    case measure=>simp[intOf];omega
  ·have hU6:Sets wr b1 b2 b3 (L1++[src]++exprs.flatMap (srcsE d)) (L2++([]:List ByteArray)) (L3++([]:List ByteArray)):=by rw[List.take_of_length_le (by rw[Hlen.out];omega)] at hU4;exact hU4
   clear hU4
   obtain⟨rB,hrB,h8B,h1B,hlB,hpB⟩:=ls_rows (Hbl.out wr hB4)
   obtain⟨rL,hrL,h8L,h1L,hlL,hpL⟩:=ls_rows (Hll.out wr hB4)
   have hS4:∀ k,S3 b1 b2 b3 k→k<wr.heap.size:=fun k h=>by rcases h with rfl|rfl|rfl<;>first|exact hU6.one.lt|exact hU6.two.lt|exact hU6.three.lt
   have HpB:=Lhd hpB
   have HpL:=Lhd hpL
   have H8B:=Lhd h8B
   have H8L:=Lhd h8L
   have H1B:=Lhd h1B
   have H1L:=Lhd h1L
   have HlB:=Lhd hlB
   have HlL:=Lhd hlL
   have HS4:=Lhd hS4
   clear hpB hpL h8B h8L h1B h1L hlB hlL hS4
   have hcnt:nb+nl≤1000000:=by omega
   have Hcell:=Lhd (fun W (hW:Below wr.heap.size wr W)=>(Hx2.out W (hB4.then_below hW)).2)
   have hm1:nb+nl≤maxLen:=by unfold maxLen;omega
   have hm2:(nb+nl)*144≤140737488355328:=by omega
   obtain⟨N,HN⟩:∃ N,Hid (nb+nl=N):=⟨_,rfl⟩
   go_upto_region 16 with (fail)
   go_cut [55,56,57] from 50 to 64 (Joined b1 b2 b3 d (body++els) N (fun W=>Sets W b1 b2 b3 (L1++[src]++exprs.flatMap (srcsE d)) (L2++([]:List ByteArray)) (L3++([]:List ByteArray))∧But (S3 b1 b2 b3) w2 W))
   case first =>
    go_region_law (first
     | (refine step_app (base:=wr.drew.heap.size) (xs:=rB) (news:=rL) rfl rfl tySt rfl hown5 rfl ((RowsAt.drew hrL).below hb5) H8L.out H1L.out hm1 hm2 hm3 ?_;intro A6 c6 w6 hown6 hbut6 hf6)
     | (go_simp;go_at_call 102;refine(cloneSt_any _ _ _ _ (by omega) _ (RowsAt.drew hrB) H8B.out H1B.out).mono ?_;rintro x w5 ⟨A5,c5,rfl,hown5,hb5⟩;have hb45:Below wr.heap.size wr w5:=((Below.refl _ _).drew).trans hb5;obtain⟨u0,u2,u5,u6,u7,ul⟩:=Hcell.out w5 hb45;have hm3:=hb5.size))
    all_goals
     go_wp2
     go_meet
     have hb46:Below wr.heap.size wr w6:=hb45.trans (hbut6.below' hb45.size (fun i hi=>by
      cases A5 with
      | none=>cases hi
      | some a5 =>
       have h:=(hown5.lt a5.block rfl).1
       simp at hi
       subst hi
       exact h))
     exact⟨A6,c6,by rw[← HN.out],by rw[← HN.out];go_num,rfl,by rw[← HN.out];exact joined_ls HS4.out hown6 H8B.out H8L.out hrB.len hrL.len HlB.out HlL.out HpB.out HpL.out (But.of_below hb46),hU6.below hb46,hB4.then_below hb46⟩
   case rest =>
    obtain⟨A6,c6,rfl,rfl,rfl,hys,hU7,hB7⟩:=hcut
    obtain⟨es,Hes⟩:∃ l,Hid (exprs.flatMap (srcsE d)=l):=⟨_,rfl⟩
    obtain⟨ys,Hys⟩:∃ l,Hid (body++els=l):=⟨_,rfl⟩
    have hesl:es.length≤(exprs.map (cntE d)).sum:=by rw[← Hes.out];exact flat_cnt (srcsE_le d) exprs
    have hsum:(ys.map (cntS d)).sum=(body.map (cntS d)).sum+(els.map (cntS d)).sum:=by rw[← Hys.out,List.map_append,List.sum_append]
    have Hyl:Hid (ys.length=N):=Lhd (by rw[← Hys.out,List.length_append,HlenB.out,HlenL.out,HN.out])
    have hNb:N≤1000000:=by rw[← HN.out];exact hcnt
    have Hsum:=Lhd hsum
    rw[Hes.out] at hU7
    rw[Hys.out] at hys
    obtain⟨sE,HsE⟩:∃ s,Hid ((exprs.map (cntE d)).sum=s):=⟨_,rfl⟩
    obtain⟨sY,HsY⟩:∃ s,Hid ((ys.map (cntS d)).sum=s):=⟨_,rfl⟩
    have G1:L1.length+(1+sE+sY)≤1000000:=by rw[← HsE.out,← HsY.out];omega
    have G2:L2.length+(1+sE+sY)≤1000000:=by rw[← HsE.out,← HsY.out];omega
    have G3:L3.length+(1+sE+sY)≤1000000:=by rw[← HsE.out,← HsY.out];omega
    rw[HsE.out] at hesl
    clear hsum g1 g2 g3 cb' cl' Hel Hbl Hll hrB hrL hB4 hU6 HS4 HpB HpL H8B H8L H1B H1L HlB HlL Hcell Hsum z0 z1 z2 zl v0 v2 v5 v6 v7 vl hk
    have Hys2:=Lhd hys
    clear hys
    go_wp2_with (fail)
    go_loopw [57] (fun i wq=>∃ k:Nat,k≤N∧i=.int .i64 k∧Sets wq b1 b2 b3 (L1++[src]++es++(ys.take k).flatMap (readsS d)) (L2++([]:List ByteArray)++(ys.take k).flatMap (writesS d)) (L3++([]:List ByteArray)++(ys.take k).flatMap (emitsS d))∧But (S3 b1 b2 b3) wc wq) (fun i _=>N-(intOf i).toNat)
    case atStart=>exact⟨0,Nat.zero_le _,rfl,by simpa using hU7,But.refl _ _⟩
    case round =>
     obtain⟨j,hj,rfl,hUq,hBq⟩:=hrel
     obtain⟨⟨z0,z1,z2,zl⟩,v0,v2,v5,v6,v7,vl⟩:=Hx2.out wr (hB7.trans' hBq)
     by_cases hlt2:j<N
     ·cases d with
      | zero =>
       obtain⟨b,o,r,e,hA,hbl,_,he,hl,hp,hc⟩:=LsAt.get (Hys2.out.kept (nb_kept hBq)) hlt2
       exact hp.elim
      | succ d =>
       obtain⟨b,o,x,Ac2,nc2,cc2,Ae2,ne2,ce2,Ab2,nb2,cb2,Al2,nl2,cl2,rfl,hbl,hx,hc0,hc1,hc2,hc3,hc4,hc5,hc6,hc7,hp,_⟩:=StsAt.get (Hys2.out.kept (nb_kept hBq)) hlt2
       have Hx:=Lhd hx
       clear hx
       have hbn:Below wr.heap.size wr (wr.alloc (.cells #[.int .i64 x.op,.string x.name,.string x.src,.int .i64 x.n,.slice Ac2 nc2 cc2,.slice Ae2 ne2 ce2,.slice Ab2 nb2 cb2,.slice Al2 nl2 cl2] 60)):=(Below.refl _ _).alloc (Nat.le_refl _) _
       have hUn:=hUq.below hbn
       have t0:=sum_take (f:=cntS (d+1)) Hx.out
       rw[HsY.out] at t0
       have t1:=flat_cnt (readsS_le (d+1)) (ys.take j)
       have t2:=flat_cnt (writesS_le (d+1)) (ys.take j)
       have t3:=flat_cnt (emitsS_le (d+1)) (ys.take j)
       have Hc:=Lhd (ih b1 b2 b3 x _ _ _ _ _ (hp.below hbn) hUn (by simp only[List.length_append,List.length_cons,List.length_nil];omega) (by simp only[List.length_append,List.length_nil];omega) (by simp only[List.length_append,List.length_nil];omega))
       clear t0 t1 t2 t3 hUn
       go_wp2_with (go_at_call 82;refine Hc.out.mono ?_;rintro y w8 ⟨rfl,hU8,hB8⟩)
       go_roundw
       case rel=>exact⟨j+1,by omega,by go_num,by simp only[flat_take Hx.out,← List.append_assoc];exact hU8,(hBq.then_below hbn).trans' hB8⟩
       case measure=>simp[intOf];omega
     ·go_wp2
      go_end0
      refine⟨rfl,?_,hb02.trans' (hB7.trans' hBq)⟩
      rw[List.take_of_length_le (by rw[Hyl.out];omega)] at hUq
      rw[Hes.out,Hys.out]
      simp only[List.append_nil,List.append_assoc] at hUq ⊢
      exact hUq
end Go.Proofs.YtomfpjgcficlgaaGreat

/- Parts of this proof, one behind the other: RgZ. -/
import Derived.Test.YtdgapmnojmhllaaGreatDoorPf41
import Derived.Test.YtdgapmnojmhllaaGreatDoorPf48
import Derived.Test.YtdgapmnojmhllaaGreatDoorPf32
import Derived.Test.YtdgapmnojmhllaaGreatDoorPf35
set_option maxRecDepth 1000000
set_option maxHeartbeats 40000000
namespace Go.Proofs.YtdgapmnojmhllaaGreatDoor
open Go.RowKit Go.Afx
theorem words11_ls {F:Nat→Prop} {base:Nat} {w:World} {A:Option Addr} {c:Nat} {ws:List Wd} (h:w.ownsRow base 130 4 (.slice A ws.length c) ws.length (ws.map wrow).flatten) (hok:∀ x∈ws,okW x) (hF:∀ a,A=some a→0<ws.length→F a.block):LsAt F w 4 WRow A ws.length c ws :=
 ⟨ws.map wrow,RowsAt.of_own h (wrow_len4 ws) (by simp),hF,by simp,fun k r x hr hx=>by
  rw[List.getElem?_map,hx] at hr
  simp only[Option.map_some,Option.some.injEq] at hr
  subst hr
  exact⟨rfl,rfl,hok x (List.mem_of_getElem? hx)⟩⟩
theorem dat_start {base g0:Nat} {w:World} {A:Option Addr} {c:Nat} {ws:List Wd} (e:Nat) (h:w.ownsRow base 130 4 (.slice A ws.length c) ws.length (ws.map wrow).flatten) (hok:∀ x∈ws,okW x) (hl:ws.length≤1000000) (h0:g0<w.heap.size) :
  ∃ gw,DAt w.heap.size gw ⟨ws,e⟩ PSt.start (w.alloc (.cells #[.slice A ws.length c,.int .i64 0,.int .i64 0,.bool false,.bool false] 83))∧(gw=g0∨base≤gw):=by
 have hal:=(Below.refl w.heap.size w).alloc (Nat.le_refl _) (.cells #[.slice A ws.length c,.int .i64 0,.int .i64 0,.bool false,.bool false] 83)
 rcases Nat.eq_zero_or_pos ws.length with hz|hz
 ·exact⟨g0,⟨⟨A,ws.length,c,IsBlk.laid _ _ _,(words11_ls h hok fun a _ hp=>by omega).below hal⟩,Nat.zero_le _,by show ws.length≤_;omega,by omega,by simp;omega⟩,.inl rfl⟩
 ·obtain⟨g,cap,hv,hb,hg⟩:=h.form hz
  cases hv
  exact⟨g,⟨⟨_,ws.length,_,IsBlk.laid _ _ _,(words11_ls h hok fun a ha _=>by cases ha;rfl).below hal⟩,Nat.zero_le _,by show ws.length≤_;omega,by omega,by simp;omega⟩,.inr hb⟩
theorem look_past {W:Wds} {i:Nat} (h:W.l.length≤i):(W.look i).at_=W.end_:=by
 unfold Wds.look
 rw[List.getElem?_eq_none h]
 rfl
theorem end_cases {W:Wds} (x:Ex) (t:PSt) (n:Nat) (hn:n≤8000) (he:W.end_=n) (hw:∀ y∈W.l,∃ k:Nat,y.at_=k∧k≤8000) :
  (endsX W t n = -2∧endX ex0 (rgtE 9000) W (x,t)=(ex0,0,14))∨(∃ k:Nat,k≤8000∧endsX W t n=k∧endX ex0 (rgtE 9000) W (x,t)=(ex0,(k:Int),12))∨(endsX W t n = -1∧endX ex0 (rgtE 9000) W (x,t)=if rgtE 9000 x then (x,0,0) else (ex0,0,14)):=by
 unfold endsX endX
 obtain⟨a,dp,o,b⟩:=t
 simp only
 cases o with
 | true=>left;exact⟨rfl,rfl⟩
 | false =>
  right
  simp only[Bool.false_eq_true,if_false]
  rcases Nat.lt_or_ge a W.l.length with hlt|hge
  ·left
   have hx:W.l[a]?=some W.l[a]:=List.getElem?_eq_getElem hlt
   obtain⟨k,hk,hk8⟩:=hw W.l[a] (List.getElem_mem hlt)
   refine⟨k,hk8,?_,?_⟩
   ·rw[if_pos hlt,look_in hx,hk]
   ·rw[decide_eq_true hlt,Bool.or_true,if_pos rfl,look_in hx,hk]
  ·rw[if_neg (show ¬ a<W.l.length by omega),decide_eq_false (show ¬ a<W.l.length by omega),Bool.or_false]
   cases b with
   | true=>left;exact⟨n,hn,rfl,by rw[if_pos rfl,look_past hge,he]⟩
   | false=>right;exact⟨rfl,rfl⟩
theorem refExprX_any (s:ByteArray) (w:World) (hs:s.size≤8000):Calls Tryz.prog 11 #[.string s] w (ExprGives w (exprX s.data.toList)):=by
 obtain⟨w1,Hw1⟩:∃ w1,Hid (w1=w.alloc (.cells zero6 32)):=⟨_,rfl⟩
 have hb1:Below w.heap.size w w1:=by rw[Hw1.out];exact(Below.refl _ _).alloc (Nat.le_refl _) _
 have hkr:IsBlk w1 w.heap.size 32 zero6:=by rw[Hw1.out];exact IsBlk.laid _ _ _
 have hsz:w1.heap.size=w.heap.size+1:=by rw[Hw1.out];simp
 have hwd:=refWords_any s w1 (by omega)
 have Hk:=Lhd (And.intro hb1 (And.intro hkr hsz))
 have h8:¬ 8000<s.data.toList.length:=by rw[szl];omega
 have hat:=lexL_at s.data.toList
 cases hl:lexL s.data.toList with
 | inl a =>
  rw[hl] at hwd
  have e:exprX s.data.toList=(ex0,(a:Int),12):=textX_inl h8 hl
  rw[e]
  have Hwd:=Lhd hwd
  have Hle:=Lhd (show a≤8000 by rw[hl] at hat;have:=hat.1;rw[szl] at this;omega)
  have ha:a≤8000:=Hle.out
  clear hwd hb1 hkr hsz e hl hat h8
  go_enter Tryz.func11,Tryz.ntmps11
  go_upto_region 1 with (fail)
  rw[← Hw1.out]
  go_wp2_with (fail)
  refine Hwd.out.mono ?_
  rintro e w2 ⟨hS,hb⟩
  have hS:e=.returned (.tuple #[.slice none 0 0,.int .i64 a]):=hS
  subst hS
  have hkr2:=Hk.out.2.1.as_was (hb.block _ Hk.out.2.1.lt)
  obtain⟨x0,x1,x2,x3,x4,x5,xl⟩:=cells6 hkr2
  have f2:=hkr2.frozen
  have H2:=Lhd (And.intro hkr2 (Hk.out.1.trans (hb.mono Hk.out.1.size)))
  clear hb hkr2
  go_wp2
  rw[lay6_eq]
  exact bodyPost_ret (ret_Expr3 Tryz.results11 rfl (lay6_blk _ _ _ _ _ _ H2.out.1) rfl rfl rfl) rfl ⟨⟨_,rfl,ex0_at _ _⟩,H2.out.2.trans ((lay6_but w2 w.heap.size _ _ _ _ _ _).below' H2.out.2.size (fun i hi=>by omega))⟩
 | inr ws =>
  rw[hl] at hwd hat
  have e:exprX s.data.toList=endX ex0 (rgtE 9000) ⟨ws,s.data.toList.length⟩ (expr1 ⟨ws,s.data.toList.length⟩ PSt.start):=textX_inr h8 hl
  rw[szl] at e
  rw[e]
  have Hwd:=Lhd hwd
  have Hat:=Lhd hat
  have Hs:=Lhd hs
  clear hwd hb1 hkr hsz e hl hat h8
  go_enter Tryz.func11,Tryz.ntmps11
  go_upto_region 1 with (fail)
  rw[← Hw1.out]
  go_wp2_with (fail)
  refine Hwd.out.mono ?_
  rintro e w2 ⟨⟨A,c,rfl,hown,hok,hlen⟩,hb⟩
  have hkr2:=Hk.out.2.1.as_was (hb.block _ Hk.out.2.1.lt)
  have hb2:=Hk.out.1.trans (hb.mono Hk.out.1.size)
  obtain⟨gw,hD,hgw⟩:=dat_start (g0:=w.heap.size) s.size hown hok (by have:=Hs.out;omega) (hkr2.lt)
  obtain⟨g,Hg⟩:∃ g,Hid (w2.heap.size=g):=⟨_,rfl⟩
  obtain⟨w3,Hw3⟩:∃ w3,Hid (w3=w2.alloc (.cells #[.slice A ws.length c,.int .i64 0,.int .i64 0,.bool false,.bool false] 83)):=⟨_,rfl⟩
  have hal:=(Below.refl w2.heap.size w2).alloc (Nat.le_refl _) (.cells #[.slice A ws.length c,.int .i64 0,.int .i64 0,.bool false,.bool false] 83)
  rw[← Hw3.out] at hD hal
  have hx:=dExpr1_any _ gw _ PSt.start w3 hD
  have H3:=Lhd (And.intro hkr2 (And.intro hb2 (And.intro hal (And.intro hgw hlen))))
  have Hx:=Lhd hx
  clear hown hok hlen hb hkr2 hb2 hD hgw hal hx
  go_upto_region 5 with (fail)
  rw[← Hw3.out]
  go_wp2_with (fail)
  refine Hx.out.mono ?_
  rintro e w4 ⟨row,D,rfl,hE,hD4,hbut⟩
  have hct:=ct_expr1 ⟨ws,(s.size:Int)⟩ PSt.start 9000
  have hle4:=hD4.le
  have hE9:=expr_low ⟨ws,(s.size:Int)⟩ PSt.start hE (by have:=H3.out.2.2.2.2;have:=Hs.out;have h5:(expr1 ⟨ws,(s.size:Int)⟩ PSt.start).2.at_≤ws.length:=hle4;omega)
  have hec:=end_cases (W:=⟨ws,(s.size:Int)⟩) (expr1 ⟨ws,(s.size:Int)⟩ PSt.start).1 (expr1 ⟨ws,(s.size:Int)⟩ PSt.start).2 s.size Hs.out rfl (fun y hy=>by
   obtain⟨k,h1,h2,_⟩:=Hat.out y hy
   rw[szl] at h2
   exact⟨k,h1,by have:=Hs.out;omega⟩)
  have hdp:=dptE_le 9000 (expr1 ⟨ws,(s.size:Int)⟩ PSt.start).1
  replace hle4:(expr1 ⟨ws,(s.size:Int)⟩ PSt.start).2.at_≤ws.length:=hle4
  have hl8:=H3.out.2.2.2.2
  generalize expr1 ⟨ws,(s.size:Int)⟩ PSt.start=r at *
  obtain⟨x,t⟩:=r
  simp only at hct hle4 hE9 hec hdp hD4 hE
  have hcn:cntE 9000 x≤100000:=by
   have h0:PSt.start.at_=0:=rfl
   have:=Hs.out
   rw[h0] at hct
   omega
  have hgl:g<w3.heap.size:=by
   rw[Hw3.out,← Hg.out]
   simp
  have hg0:w.heap.size≠g:=by
   have:=H3.out.1.lt
   have:=Hg.out
   omega
  have hkr4:IsBlk w4 w.heap.size 32 zero6:=(H3.out.1.as_was (H3.out.2.2.1.block _ H3.out.1.lt)).as_was (hbut.block _ (Nat.lt_of_lt_of_le H3.out.1.lt H3.out.2.2.1.size) (by have:=Hg.out;omega))
  have hb4:Below w.heap.size w w4:=(H3.out.2.1.trans (H3.out.2.2.1.mono H3.out.2.1.size)).trans (hbut.below' (Nat.le_trans H3.out.2.1.size H3.out.2.2.1.size) (fun i hi=>by have:=Hg.out;have:=H3.out.1.lt;omega))
  obtain⟨A',m',c',rfl⟩:=ex_row6 hE9
  obtain⟨w5,Hw5⟩:∃ w5,Hid (w5=w4.alloc (.cells #[.int .i64 x.op,.int .i64 x.n,.string x.s,.string x.name,.string x.src,.slice A' m' c'] 32)):=⟨_,rfl⟩
  have hal5:Below w4.heap.size w4 w5:=by rw[Hw5.out];exact(Below.refl _ _).alloc (Nat.le_refl _) _
  have hkx:IsBlk w5 w4.heap.size 32 #[.int .i64 x.op,.int .i64 x.n,.string x.s,.string x.name,.string x.src,.slice A' m' c']:=by rw[Hw5.out];exact IsBlk.laid _ _ _
  have hen:=dEnds_any _ gw _ t s.size w5 (hD4.below hal5)
  have H5:=Lhd (And.intro hkx (And.intro (hkr4.as_was (hal5.block _ hkr4.lt)) (And.intro (hb4.trans (hal5.mono hb4.size)) (ExAt.conv (fun _ h=>h) (Kept.of_below hal5) 9000 (Nat.le_refl 9000) hE9))))
  have hrg:=rgt_cnt x
  obtain⟨ev,Hev⟩:∃ ev,Hid (endsX ⟨ws,(s.size:Int)⟩ t s.size=ev):=⟨_,rfl⟩
  rw[Hev.out] at hen hec
  obtain⟨cn,Hcn⟩:∃ cn,Hid (cntE 9000 x=cn):=⟨_,rfl⟩
  obtain⟨dp,Hdp⟩:∃ dp,Hid (dptE 9000 x=dp):=⟨_,rfl⟩
  have hcall:=fun w6 (hE6:ExAt (Fr w3) 9000 w6 [.int .i64 x.op,.int .i64 x.n,.string x.s,.string x.name,.string x.src,.slice A' m' c'] x)=>cnts_any (Fr w3) 9000 x _ w6 hE6 (by omega) (by omega)
  rw[Hcn.out,Hdp.out] at hcall
  rw[Hcn.out,Hdp.out] at hrg
  rw[Hcn.out] at hcn
  rw[Hdp.out] at hdp
  have Hen:=Lhd hen
  have Hcall:=Lhd hcall
  have Hrg:=Lhd hrg
  have hz3:w.heap.size<w3.heap.size:=Nat.lt_of_lt_of_le H3.out.1.lt H3.out.2.2.1.size
  have Hz3:=Lhd hz3
  clear hkx hal5 hen hdp hb4 hkr4 hg0 hgl hE9 hE hD4 hle4 hct hbut hl8 hcall hrg hz3
  go_upto_region 6 with (fail)
  rw[← Hw5.out]
  go_wp2_with (fail)
  refine Hen.out.mono ?_
  rintro e w6 ⟨rfl,hb6⟩
  have H6:=Lhd (And.intro (H5.out.1.as_was (hb6.block _ H5.out.1.lt)) (And.intro (H5.out.2.1.as_was (hb6.block _ H5.out.2.1.lt)) (And.intro (H5.out.2.2.1.trans (hb6.mono H5.out.2.2.1.size)) (ExAt.conv (fun _ h=>h) (Kept.of_below hb6) 9000 (Nat.le_refl 9000) H5.out.2.2.2))))
  clear hb6
  rcases hec with ⟨rfl,he2⟩|⟨k,hk8,rfl,he2⟩|⟨rfl,he2⟩
  ·have He2:=Lhd he2
   obtain⟨y0,y1,y2,y3,y4,y5,yl⟩:=cells6 H6.out.1
   clear he2
   go_wp2_with (fail)
   refine(Hcall.out _ H6.out.2.2.2).mono ?_
   rintro e w7 ⟨rfl,hb7⟩
   have hkr7:=H6.out.2.1.as_was (hb7.block _ H6.out.2.1.lt)
   have hbw7:=H6.out.2.2.1.trans (hb7.mono H6.out.2.2.1.size)
   obtain⟨x0,x1,x2,x3,x4,x5,xl⟩:=cells6 hkr7
   have f2:=hkr7.frozen
   have H7:=Lhd (And.intro hkr7 hbw7)
   clear hb7 hkr7 hbw7 y0 y1 y2 y3 y4 y5 yl
   go_wp2
   rw[lay6_eq]
   refine bodyPost_ret (ret_Expr3 Tryz.results11 rfl (lay6_blk _ _ _ _ _ _ H7.out.1) rfl rfl rfl) rfl ?_
   rw[He2.out]
   exact⟨⟨_,rfl,ex0_at _ _⟩,H7.out.2.trans ((lay6_but w7 w.heap.size _ _ _ _ _ _).below' H7.out.2.size (fun i hi=>by omega))⟩
  ·have He2:=Lhd he2
   obtain⟨x0,x1,x2,x3,x4,x5,xl⟩:=cells6 H6.out.2.1
   have f2:=H6.out.2.1.frozen
   clear he2
   go_wp2
   rw[lay6_eq]
   refine bodyPost_ret (ret_Expr3 Tryz.results11 rfl (lay6_blk _ _ _ _ _ _ H6.out.2.1) rfl rfl rfl) rfl ?_
   rw[He2.out]
   exact⟨⟨_,rfl,ex0_at _ _⟩,H6.out.2.2.1.trans ((lay6_but w6 w.heap.size _ _ _ _ _ _).below' H6.out.2.2.1.size (fun i hi=>by omega))⟩
  ·rw[Hrg.out] at he2
   have He2:=Lhd he2
   obtain⟨y0,y1,y2,y3,y4,y5,yl⟩:=cells6 H6.out.1
   clear he2
   go_wp2_with (fail)
   refine(Hcall.out _ H6.out.2.2.2).mono ?_
   rintro e w7 ⟨rfl,hb7⟩
   have hkr7:=H6.out.2.1.as_was (hb7.block _ H6.out.2.1.lt)
   have hkx7:=H6.out.1.as_was (hb7.block _ H6.out.1.lt)
   have hbw7:=H6.out.2.2.1.trans (hb7.mono H6.out.2.2.1.size)
   have hE7:=ExAt.conv (fun _ h=>h) (Kept.of_below hb7) 9000 (Nat.le_refl 9000) H6.out.2.2.2
   have hbu:=rbuilt_any (Fr w3) 9000 x _ w7 hE7
   have H7:=Lhd (And.intro hkr7 (And.intro hkx7 (And.intro hbw7 hE7)))
   have Hbu:=Lhd hbu
   clear hb7 hkr7 hkx7 hbw7 y0 y1 y2 y3 y4 y5 yl hE7 hbu
   have hway:(300<cn)∨(cn≤300∧12<dp)∨(cn≤300∧dp≤12):=by omega
   rcases hway with c1|⟨c1,c2⟩|⟨c1,c2⟩
   ·have He3:=He2.out
    rw[decide_eq_false (by omega),Bool.false_and,Bool.false_and,if_neg Bool.false_ne_true] at He3
    have He4:=Lhd He3
    have d1:decide ((300:Int)<(cn:Int))=true:=by simp;omega
    obtain⟨x0,x1,x2,x3,x4,x5,xl⟩:=cells6 H7.out.1
    have f2:=H7.out.1.frozen
    clear He3 c1
    go_wp2
    rw[lay6_eq]
    refine bodyPost_ret (ret_Expr3 Tryz.results11 rfl (lay6_blk _ _ _ _ _ _ H7.out.1) rfl rfl rfl) rfl ?_
    rw[He4.out]
    exact⟨⟨_,rfl,ex0_at _ _⟩,H7.out.2.2.1.trans ((lay6_but w7 w.heap.size _ _ _ _ _ _).below' H7.out.2.2.1.size (fun i hi=>by omega))⟩
   ·have He3:=He2.out
    rw[decide_eq_false (show ¬ dp≤12 by omega),Bool.and_false,Bool.false_and,if_neg Bool.false_ne_true] at He3
    have He4:=Lhd He3
    have d1:decide ((300:Int)<(cn:Int))=false:=by simp;omega
    have d2:decide ((12:Int)<(dp:Int))=true:=by simp;omega
    obtain⟨x0,x1,x2,x3,x4,x5,xl⟩:=cells6 H7.out.1
    have f2:=H7.out.1.frozen
    clear He3 c1 c2
    go_wp2
    rw[lay6_eq]
    refine bodyPost_ret (ret_Expr3 Tryz.results11 rfl (lay6_blk _ _ _ _ _ _ H7.out.1) rfl rfl rfl) rfl ?_
    rw[He4.out]
    exact⟨⟨_,rfl,ex0_at _ _⟩,H7.out.2.2.1.trans ((lay6_but w7 w.heap.size _ _ _ _ _ _).below' H7.out.2.2.1.size (fun i hi=>by omega))⟩
   ·have He3:=He2.out
    rw[decide_eq_true c1,decide_eq_true c2,Bool.true_and,Bool.true_and] at He3
    have d1:decide ((300:Int)<(cn:Int))=false:=by simp;omega
    have d2:decide ((12:Int)<(dp:Int))=false:=by simp;omega
    obtain⟨q,hq⟩:∃ q,builtE 9000 x=q:=⟨_,rfl⟩
    rw[hq] at He3 Hbu
    have He4:=Lhd He3
    obtain⟨y0,y1,y2,y3,y4,y5,yl⟩:=cells6 H7.out.2.1
    clear He3 c1 c2 hq
    go_wp2_with (fail)
    refine Hbu.out.mono ?_
    rintro e w8 ⟨rfl,hb8⟩
    have hkr8:=H7.out.1.as_was (hb8.block _ H7.out.1.lt)
    have hkx8:=H7.out.2.1.as_was (hb8.block _ H7.out.2.1.lt)
    have hbw8:=H7.out.2.2.1.trans (hb8.mono H7.out.2.2.1.size)
    have hE8:=ExAt.conv (fun _ h=>h) (Kept.of_below hb8) 9000 (Nat.le_refl 9000) H7.out.2.2.2
    obtain⟨x0,x1,x2,x3,x4,x5,xl⟩:=cells6 hkr8
    have f2:=hkr8.frozen
    have H8:=Lhd (And.intro hkr8 (And.intro hbw8 hE8))
    clear y0 y1 y2 y3 y4 y5 yl
    obtain⟨y0,y1,y2,y3,y4,y5,yl⟩:=cells6 hkx8
    clear hb8 hkr8 hkx8 hbw8 hE8
    cases q with
    | false =>
     go_wp2
     rw[lay6_eq]
     refine bodyPost_ret (ret_Expr3 Tryz.results11 rfl (lay6_blk _ _ _ _ _ _ H8.out.1) rfl rfl rfl) rfl ?_
     rw[He4.out]
     exact⟨⟨_,rfl,ex0_at _ _⟩,H8.out.2.1.trans ((lay6_but w8 w.heap.size _ _ _ _ _ _).below' H8.out.2.1.size (fun i hi=>by omega))⟩
    | true =>
     go_wp2
     rw[lay6_eq]
     refine bodyPost_ret (ret_Expr3 Tryz.results11 rfl (lay6_blk _ _ _ _ _ _ H8.out.1) rfl rfl rfl) rfl ?_
     rw[He4.out]
     exact⟨⟨_,rfl,ExAt.conv (fun k (hk:w3.heap.size≤k)=>by show w.heap.size≤k;have:=Hz3.out;omega) (Kept.of_but (lay6_but w8 w.heap.size _ _ _ _ _ _) fun k (hk:w3.heap.size≤k) e=>by have:=Hz3.out;omega) 9000 (Nat.le_refl 9000) H8.out.2.2⟩,H8.out.2.1.trans ((lay6_but w8 w.heap.size _ _ _ _ _ _).below' H8.out.2.1.size (fun i hi=>by omega))⟩
end Go.Proofs.YtdgapmnojmhllaaGreatDoor

/- Parts of this proof, one behind the other: RgZ, SmA, SmB. -/
import Derived.Test.YtgbgiknfejpcoaaGreatPx37
import Derived.Test.YtgbgiknfejpcoaaGreatPx44
import Derived.Test.YtgbgiknfejpcoaaGreatPx45
import Derived.Test.YtgbgiknfejpcoaaGreatPx32
import Derived.Test.YtgbgiknfejpcoaaGreatPx7
import Derived.StillTailTactics
import Derived.Deep.Cut
import Derived.Deep.DeepCutAuto
set_option maxRecDepth 1000000
set_option maxHeartbeats 40000000
namespace Go.Proofs.YtgbgiknfejpcoaaGreat
open Go.RowKit Go.Afx
theorem words11_ls {F:Nat→Prop} {base:Nat} {w:World} {A:Option Addr} {c:Nat} {ws:List Wd} (h:w.ownsRow base 132 4 (.slice A ws.length c) ws.length (ws.map wrow).flatten) (hok:∀ x∈ws,okW x) (hF:∀ a,A=some a→0<ws.length→F a.block):LsAt F w 4 WRow A ws.length c ws :=
 ⟨ws.map wrow,RowsAt.of_own h (wrow_len4 ws) (by simp),hF,by simp,fun k r x hr hx=>by
  rw[List.getElem?_map,hx] at hr
  simp only[Option.map_some,Option.some.injEq] at hr
  subst hr
  exact⟨rfl,rfl,hok x (List.mem_of_getElem? hx)⟩⟩
theorem dat_start {base g0:Nat} {w:World} {A:Option Addr} {c:Nat} {ws:List Wd} (e:Nat) (h:w.ownsRow base 132 4 (.slice A ws.length c) ws.length (ws.map wrow).flatten) (hok:∀ x∈ws,okW x) (hl:ws.length≤1000000) (h0:g0<w.heap.size) :
  ∃ gw,DAt w.heap.size gw ⟨ws,e⟩ PSt.start (w.alloc (.cells #[.slice A ws.length c,.int .i64 0,.int .i64 0,.bool false,.bool false] 91))∧(gw=g0∨base≤gw):=by
 have hal:=(Below.refl w.heap.size w).alloc (Nat.le_refl _) (.cells #[.slice A ws.length c,.int .i64 0,.int .i64 0,.bool false,.bool false] 91)
 rcases Nat.eq_zero_or_pos ws.length with hz|hz
 ·exact⟨g0,⟨⟨A,ws.length,c,IsBlk.laid _ _ _,(words11_ls h hok fun a _ hp=>by omega).below hal⟩,Nat.zero_le _,by show ws.length≤_;omega,by omega,by simp;omega⟩,.inl rfl⟩
 ·obtain⟨g,cap,hv,hb,hg⟩:=h.form hz
  cases hv
  exact⟨g,⟨⟨_,ws.length,_,IsBlk.laid _ _ _,(words11_ls h hok fun a ha _=>by cases ha;rfl).below hal⟩,Nat.zero_le _,by show ws.length≤_;omega,by omega,by simp;omega⟩,.inr hb⟩
theorem look_past {W:Wds} {i:Nat} (h:W.l.length≤i):(W.look i).at_=W.end_:=by
 unfold Wds.look
 rw[List.getElem?_eq_none h]
 rfl
theorem end_cases {W:Wds} (x:Ex) (t:PSt) (n:Nat) (hn:n≤8000) (he:W.end_=n) (hw:∀ y∈W.l,∃ k:Nat,y.at_=k∧k≤8000) :
  (endsX W t n = -2∧endX ex0 (rgtE 9000) W (x,t)=(ex0,0,14))∨(∃ k:Nat,k≤8000∧endsX W t n=k∧endX ex0 (rgtE 9000) W (x,t)=(ex0,(k:Int),12))∨(endsX W t n = -1∧endX ex0 (rgtE 9000) W (x,t)=if rgtE 9000 x then (x,0,0) else (ex0,0,14)):=by
 unfold endsX endX
 obtain⟨a,dp,o,b⟩:=t
 simp only
 cases o with
 | true=>left;exact⟨rfl,rfl⟩
 | false =>
  right
  simp only[Bool.false_eq_true,if_false]
  rcases Nat.lt_or_ge a W.l.length with hlt|hge
  ·left
   have hx:W.l[a]?=some W.l[a]:=List.getElem?_eq_getElem hlt
   obtain⟨k,hk,hk8⟩:=hw W.l[a] (List.getElem_mem hlt)
   refine⟨k,hk8,?_,?_⟩
   ·rw[if_pos hlt,look_in hx,hk]
   ·rw[decide_eq_true hlt,Bool.or_true,if_pos rfl,look_in hx,hk]
  ·rw[if_neg (show ¬ a<W.l.length by omega),decide_eq_false (show ¬ a<W.l.length by omega),Bool.or_false]
   cases b with
   | true=>left;exact⟨n,hn,rfl,by rw[if_pos rfl,look_past hge,he]⟩
   | false=>right;exact⟨rfl,rfl⟩
theorem refExprX_any (s:ByteArray) (w:World) (hs:s.size≤8000):Calls Tryz.prog 16 #[.string s] w (ExprGives w (exprX s.data.toList)):=by
 obtain⟨w1,Hw1⟩:∃ w1,Hid (w1=w.alloc (.cells zero6 60)):=⟨_,rfl⟩
 have hb1:Below w.heap.size w w1:=by rw[Hw1.out];exact(Below.refl _ _).alloc (Nat.le_refl _) _
 have hkr:IsBlk w1 w.heap.size 60 zero6:=by rw[Hw1.out];exact IsBlk.laid _ _ _
 have hsz:w1.heap.size=w.heap.size+1:=by rw[Hw1.out];simp
 have hwd:=refWords_any s w1 (by omega)
 have Hk:=Lhd (And.intro hb1 (And.intro hkr hsz))
 have h8:¬ 8000<s.data.toList.length:=by rw[szl];omega
 have hat:=lexL_at s.data.toList
 cases hl:lexL s.data.toList with
 | inl a =>
  rw[hl] at hwd
  have e:exprX s.data.toList=(ex0,(a:Int),12):=textX_inl h8 hl
  rw[e]
  have Hwd:=Lhd hwd
  have Hle:=Lhd (show a≤8000 by rw[hl] at hat;have:=hat.1;rw[szl] at this;omega)
  have ha:a≤8000:=Hle.out
  clear hwd hb1 hkr hsz e hl hat h8
  go_enter Tryz.func16,Tryz.ntmps16
  go_upto_region 1 with (fail)
  rw[← Hw1.out]
  go_wp2_with (fail)
  refine Hwd.out.mono ?_
  rintro e w2 ⟨hS,hb⟩
  have hS:e=.returned (.tuple #[.slice none 0 0,.int .i64 a]):=hS
  subst hS
  have hkr2:=Hk.out.2.1.as_was (hb.block _ Hk.out.2.1.lt)
  obtain⟨x0,x1,x2,x3,x4,x5,xl⟩:=cells6 hkr2
  have f2:=hkr2.frozen
  have H2:=Lhd (And.intro hkr2 (Hk.out.1.trans (hb.mono Hk.out.1.size)))
  clear hb hkr2
  go_wp2
  rw[lay6_eq]
  exact bodyPost_ret (ret_Expr3 Tryz.results16 rfl (lay6_blk _ _ _ _ _ _ H2.out.1) rfl rfl rfl) rfl ⟨⟨_,rfl,ex0_at _ _⟩,H2.out.2.trans ((lay6_but w2 w.heap.size _ _ _ _ _ _).below' H2.out.2.size (fun i hi=>by omega))⟩
 | inr ws =>
  rw[hl] at hwd hat
  have e:exprX s.data.toList=endX ex0 (rgtE 9000) ⟨ws,s.data.toList.length⟩ (expr1 ⟨ws,s.data.toList.length⟩ PSt.start):=textX_inr h8 hl
  rw[szl] at e
  rw[e]
  have Hwd:=Lhd hwd
  have Hat:=Lhd hat
  have Hs:=Lhd hs
  clear hwd hb1 hkr hsz e hl hat h8
  go_enter Tryz.func16,Tryz.ntmps16
  go_upto_region 1 with (fail)
  rw[← Hw1.out]
  go_wp2_with (fail)
  refine Hwd.out.mono ?_
  rintro e w2 ⟨⟨A,c,rfl,hown,hok,hlen⟩,hb⟩
  have hkr2:=Hk.out.2.1.as_was (hb.block _ Hk.out.2.1.lt)
  have hb2:=Hk.out.1.trans (hb.mono Hk.out.1.size)
  obtain⟨gw,hD,hgw⟩:=dat_start (g0:=w.heap.size) s.size hown hok (by have:=Hs.out;omega) (hkr2.lt)
  obtain⟨g,Hg⟩:∃ g,Hid (w2.heap.size=g):=⟨_,rfl⟩
  obtain⟨w3,Hw3⟩:∃ w3,Hid (w3=w2.alloc (.cells #[.slice A ws.length c,.int .i64 0,.int .i64 0,.bool false,.bool false] 91)):=⟨_,rfl⟩
  have hal:=(Below.refl w2.heap.size w2).alloc (Nat.le_refl _) (.cells #[.slice A ws.length c,.int .i64 0,.int .i64 0,.bool false,.bool false] 91)
  rw[← Hw3.out] at hD hal
  have hx:=dExpr1_any _ gw _ PSt.start w3 hD
  have H3:=Lhd (And.intro hkr2 (And.intro hb2 (And.intro hal (And.intro hgw hlen))))
  have Hx:=Lhd hx
  clear hown hok hlen hb hkr2 hb2 hD hgw hal hx
  go_upto_region 5 with (fail)
  rw[← Hw3.out]
  go_wp2_with (fail)
  refine Hx.out.mono ?_
  rintro e w4 ⟨row,D,rfl,hE,hD4,hbut⟩
  have hct:=ct_expr1 ⟨ws,(s.size:Int)⟩ PSt.start 9000
  have hle4:=hD4.le
  have hE9:=expr_low ⟨ws,(s.size:Int)⟩ PSt.start hE (by have:=H3.out.2.2.2.2;have:=Hs.out;have h5:(expr1 ⟨ws,(s.size:Int)⟩ PSt.start).2.at_≤ws.length:=hle4;omega)
  have hec:=end_cases (W:=⟨ws,(s.size:Int)⟩) (expr1 ⟨ws,(s.size:Int)⟩ PSt.start).1 (expr1 ⟨ws,(s.size:Int)⟩ PSt.start).2 s.size Hs.out rfl (fun y hy=>by
   obtain⟨k,h1,h2,_⟩:=Hat.out y hy
   rw[szl] at h2
   exact⟨k,h1,by have:=Hs.out;omega⟩)
  have hdp:=dptE_le 9000 (expr1 ⟨ws,(s.size:Int)⟩ PSt.start).1
  replace hle4:(expr1 ⟨ws,(s.size:Int)⟩ PSt.start).2.at_≤ws.length:=hle4
  have hl8:=H3.out.2.2.2.2
  generalize expr1 ⟨ws,(s.size:Int)⟩ PSt.start=r at *
  obtain⟨x,t⟩:=r
  simp only at hct hle4 hE9 hec hdp hD4 hE
  have hcn:cntE 9000 x≤100000:=by
   have h0:PSt.start.at_=0:=rfl
   have:=Hs.out
   rw[h0] at hct
   omega
  have hgl:g<w3.heap.size:=by
   rw[Hw3.out,← Hg.out]
   simp
  have hg0:w.heap.size≠g:=by
   have:=H3.out.1.lt
   have:=Hg.out
   omega
  have hkr4:IsBlk w4 w.heap.size 60 zero6:=(H3.out.1.as_was (H3.out.2.2.1.block _ H3.out.1.lt)).as_was (hbut.block _ (Nat.lt_of_lt_of_le H3.out.1.lt H3.out.2.2.1.size) (by have:=Hg.out;omega))
  have hb4:Below w.heap.size w w4:=(H3.out.2.1.trans (H3.out.2.2.1.mono H3.out.2.1.size)).trans (hbut.below' (Nat.le_trans H3.out.2.1.size H3.out.2.2.1.size) (fun i hi=>by have:=Hg.out;have:=H3.out.1.lt;omega))
  obtain⟨A',m',c',rfl⟩:=ex_row6 hE9
  obtain⟨w5,Hw5⟩:∃ w5,Hid (w5=w4.alloc (.cells #[.int .i64 x.op,.int .i64 x.n,.string x.s,.string x.name,.string x.src,.slice A' m' c'] 60)):=⟨_,rfl⟩
  have hal5:Below w4.heap.size w4 w5:=by rw[Hw5.out];exact(Below.refl _ _).alloc (Nat.le_refl _) _
  have hkx:IsBlk w5 w4.heap.size 60 #[.int .i64 x.op,.int .i64 x.n,.string x.s,.string x.name,.string x.src,.slice A' m' c']:=by rw[Hw5.out];exact IsBlk.laid _ _ _
  have hen:=dEnds_any _ gw _ t s.size w5 (hD4.below hal5)
  have H5:=Lhd (And.intro hkx (And.intro (hkr4.as_was (hal5.block _ hkr4.lt)) (And.intro (hb4.trans (hal5.mono hb4.size)) (ExAt.conv (fun _ h=>h) (Kept.of_below hal5) 9000 (Nat.le_refl 9000) hE9))))
  have hrg:=rgt_cnt x
  obtain⟨ev,Hev⟩:∃ ev,Hid (endsX ⟨ws,(s.size:Int)⟩ t s.size=ev):=⟨_,rfl⟩
  rw[Hev.out] at hen hec
  obtain⟨cn,Hcn⟩:∃ cn,Hid (cntE 9000 x=cn):=⟨_,rfl⟩
  obtain⟨dp,Hdp⟩:∃ dp,Hid (dptE 9000 x=dp):=⟨_,rfl⟩
  have hcall:=fun w6 (hE6:ExAt (Fr w3) 9000 w6 [.int .i64 x.op,.int .i64 x.n,.string x.s,.string x.name,.string x.src,.slice A' m' c'] x)=>cnts_any (Fr w3) 9000 x _ w6 hE6 (by omega) (by omega)
  rw[Hcn.out,Hdp.out] at hcall
  rw[Hcn.out,Hdp.out] at hrg
  rw[Hcn.out] at hcn
  rw[Hdp.out] at hdp
  have Hen:=Lhd hen
  have Hcall:=Lhd hcall
  have Hrg:=Lhd hrg
  have hz3:w.heap.size<w3.heap.size:=Nat.lt_of_lt_of_le H3.out.1.lt H3.out.2.2.1.size
  have Hz3:=Lhd hz3
  clear hkx hal5 hen hdp hb4 hkr4 hg0 hgl hE9 hE hD4 hle4 hct hbut hl8 hcall hrg hz3
  go_upto_region 6 with (fail)
  rw[← Hw5.out]
  go_wp2_with (fail)
  refine Hen.out.mono ?_
  rintro e w6 ⟨rfl,hb6⟩
  have H6:=Lhd (And.intro (H5.out.1.as_was (hb6.block _ H5.out.1.lt)) (And.intro (H5.out.2.1.as_was (hb6.block _ H5.out.2.1.lt)) (And.intro (H5.out.2.2.1.trans (hb6.mono H5.out.2.2.1.size)) (ExAt.conv (fun _ h=>h) (Kept.of_below hb6) 9000 (Nat.le_refl 9000) H5.out.2.2.2))))
  clear hb6
  rcases hec with ⟨rfl,he2⟩|⟨k,hk8,rfl,he2⟩|⟨rfl,he2⟩
  ·have He2:=Lhd he2
   obtain⟨y0,y1,y2,y3,y4,y5,yl⟩:=cells6 H6.out.1
   clear he2
   go_wp2_with (fail)
   refine(Hcall.out _ H6.out.2.2.2).mono ?_
   rintro e w7 ⟨rfl,hb7⟩
   have hkr7:=H6.out.2.1.as_was (hb7.block _ H6.out.2.1.lt)
   have hbw7:=H6.out.2.2.1.trans (hb7.mono H6.out.2.2.1.size)
   obtain⟨x0,x1,x2,x3,x4,x5,xl⟩:=cells6 hkr7
   have f2:=hkr7.frozen
   have H7:=Lhd (And.intro hkr7 hbw7)
   clear hb7 hkr7 hbw7 y0 y1 y2 y3 y4 y5 yl
   go_wp2
   rw[lay6_eq]
   refine bodyPost_ret (ret_Expr3 Tryz.results16 rfl (lay6_blk _ _ _ _ _ _ H7.out.1) rfl rfl rfl) rfl ?_
   rw[He2.out]
   exact⟨⟨_,rfl,ex0_at _ _⟩,H7.out.2.trans ((lay6_but w7 w.heap.size _ _ _ _ _ _).below' H7.out.2.size (fun i hi=>by omega))⟩
  ·have He2:=Lhd he2
   obtain⟨x0,x1,x2,x3,x4,x5,xl⟩:=cells6 H6.out.2.1
   have f2:=H6.out.2.1.frozen
   clear he2
   go_wp2
   rw[lay6_eq]
   refine bodyPost_ret (ret_Expr3 Tryz.results16 rfl (lay6_blk _ _ _ _ _ _ H6.out.2.1) rfl rfl rfl) rfl ?_
   rw[He2.out]
   exact⟨⟨_,rfl,ex0_at _ _⟩,H6.out.2.2.1.trans ((lay6_but w6 w.heap.size _ _ _ _ _ _).below' H6.out.2.2.1.size (fun i hi=>by omega))⟩
  ·rw[Hrg.out] at he2
   have He2:=Lhd he2
   obtain⟨y0,y1,y2,y3,y4,y5,yl⟩:=cells6 H6.out.1
   clear he2
   go_wp2_with (fail)
   refine(Hcall.out _ H6.out.2.2.2).mono ?_
   rintro e w7 ⟨rfl,hb7⟩
   have hkr7:=H6.out.2.1.as_was (hb7.block _ H6.out.2.1.lt)
   have hkx7:=H6.out.1.as_was (hb7.block _ H6.out.1.lt)
   have hbw7:=H6.out.2.2.1.trans (hb7.mono H6.out.2.2.1.size)
   have hE7:=ExAt.conv (fun _ h=>h) (Kept.of_below hb7) 9000 (Nat.le_refl 9000) H6.out.2.2.2
   have hbu:=rbuilt_any (Fr w3) 9000 x _ w7 hE7
   have H7:=Lhd (And.intro hkr7 (And.intro hkx7 (And.intro hbw7 hE7)))
   have Hbu:=Lhd hbu
   clear hb7 hkr7 hkx7 hbw7 y0 y1 y2 y3 y4 y5 yl hE7 hbu
   have hway:(300<cn)∨(cn≤300∧12<dp)∨(cn≤300∧dp≤12):=by omega
   rcases hway with c1|⟨c1,c2⟩|⟨c1,c2⟩
   ·have He3:=He2.out
    rw[decide_eq_false (by omega),Bool.false_and,Bool.false_and,if_neg Bool.false_ne_true] at He3
    have He4:=Lhd He3
    have d1:decide ((300:Int)<(cn:Int))=true:=by simp;omega
    obtain⟨x0,x1,x2,x3,x4,x5,xl⟩:=cells6 H7.out.1
    have f2:=H7.out.1.frozen
    clear He3 c1
    go_wp2
    rw[lay6_eq]
    refine bodyPost_ret (ret_Expr3 Tryz.results16 rfl (lay6_blk _ _ _ _ _ _ H7.out.1) rfl rfl rfl) rfl ?_
    rw[He4.out]
    exact⟨⟨_,rfl,ex0_at _ _⟩,H7.out.2.2.1.trans ((lay6_but w7 w.heap.size _ _ _ _ _ _).below' H7.out.2.2.1.size (fun i hi=>by omega))⟩
   ·have He3:=He2.out
    rw[decide_eq_false (show ¬ dp≤12 by omega),Bool.and_false,Bool.false_and,if_neg Bool.false_ne_true] at He3
    have He4:=Lhd He3
    have d1:decide ((300:Int)<(cn:Int))=false:=by simp;omega
    have d2:decide ((12:Int)<(dp:Int))=true:=by simp;omega
    obtain⟨x0,x1,x2,x3,x4,x5,xl⟩:=cells6 H7.out.1
    have f2:=H7.out.1.frozen
    clear He3 c1 c2
    go_wp2
    rw[lay6_eq]
    refine bodyPost_ret (ret_Expr3 Tryz.results16 rfl (lay6_blk _ _ _ _ _ _ H7.out.1) rfl rfl rfl) rfl ?_
    rw[He4.out]
    exact⟨⟨_,rfl,ex0_at _ _⟩,H7.out.2.2.1.trans ((lay6_but w7 w.heap.size _ _ _ _ _ _).below' H7.out.2.2.1.size (fun i hi=>by omega))⟩
   ·have He3:=He2.out
    rw[decide_eq_true c1,decide_eq_true c2,Bool.true_and,Bool.true_and] at He3
    have d1:decide ((300:Int)<(cn:Int))=false:=by simp;omega
    have d2:decide ((12:Int)<(dp:Int))=false:=by simp;omega
    obtain⟨q,hq⟩:∃ q,builtE 9000 x=q:=⟨_,rfl⟩
    rw[hq] at He3 Hbu
    have He4:=Lhd He3
    obtain⟨y0,y1,y2,y3,y4,y5,yl⟩:=cells6 H7.out.2.1
    clear He3 c1 c2 hq
    go_wp2_with (fail)
    refine Hbu.out.mono ?_
    rintro e w8 ⟨rfl,hb8⟩
    have hkr8:=H7.out.1.as_was (hb8.block _ H7.out.1.lt)
    have hkx8:=H7.out.2.1.as_was (hb8.block _ H7.out.2.1.lt)
    have hbw8:=H7.out.2.2.1.trans (hb8.mono H7.out.2.2.1.size)
    have hE8:=ExAt.conv (fun _ h=>h) (Kept.of_below hb8) 9000 (Nat.le_refl 9000) H7.out.2.2.2
    obtain⟨x0,x1,x2,x3,x4,x5,xl⟩:=cells6 hkr8
    have f2:=hkr8.frozen
    have H8:=Lhd (And.intro hkr8 (And.intro hbw8 hE8))
    clear y0 y1 y2 y3 y4 y5 yl
    obtain⟨y0,y1,y2,y3,y4,y5,yl⟩:=cells6 hkx8
    clear hb8 hkr8 hkx8 hbw8 hE8
    cases q with
    | false =>
     go_wp2
     rw[lay6_eq]
     refine bodyPost_ret (ret_Expr3 Tryz.results16 rfl (lay6_blk _ _ _ _ _ _ H8.out.1) rfl rfl rfl) rfl ?_
     rw[He4.out]
     exact⟨⟨_,rfl,ex0_at _ _⟩,H8.out.2.1.trans ((lay6_but w8 w.heap.size _ _ _ _ _ _).below' H8.out.2.1.size (fun i hi=>by omega))⟩
    | true =>
     go_wp2
     rw[lay6_eq]
     refine bodyPost_ret (ret_Expr3 Tryz.results16 rfl (lay6_blk _ _ _ _ _ _ H8.out.1) rfl rfl rfl) rfl ?_
     rw[He4.out]
     exact⟨⟨_,rfl,ExAt.conv (fun k (hk:w3.heap.size≤k)=>by show w.heap.size≤k;have:=Hz3.out;omega) (Kept.of_but (lay6_but w8 w.heap.size _ _ _ _ _ _) fun k (hk:w3.heap.size≤k) e=>by have:=Hz3.out;omega) 9000 (Nat.le_refl 9000) H8.out.2.2⟩,H8.out.2.1.trans ((lay6_but w8 w.heap.size _ _ _ _ _ _).below' H8.out.2.1.size (fun i hi=>by omega))⟩
theorem blk6 {w:World} {g:Nat} {T:TypeId} {v0 v1 v2 v3 v4 v5:Value} (h:IsBlk w g T #[v0,v1,v2,v3,v4,v5]):w.cell? ⟨g,0,none⟩=some v0∧w.cell? ⟨g,1,none⟩=some v1∧w.cell? ⟨g,2,none⟩=some v2∧w.cell? ⟨g,3,none⟩=some v3∧w.cell? ⟨g,4,none⟩=some v4∧w.cell? ⟨g,5,none⟩=some v5∧g<w.heap.size:=by
 have h0:=h.cell 0;have h1:=h.cell 1;have h2:=h.cell 2;have h3:=h.cell 3;have h4:=h.cell 4;have h5:=h.cell 5
 simp at h0 h1 h2 h3 h4 h5
 exact⟨h0,h1,h2,h3,h4,h5,h.lt⟩
def TrueB (w:World) (x:Ending) (w':World):Prop:=x=.returned (.bool true)∧Below w.heap.size w w'
theorem oneE_any (F G:Nat→Prop):∀ (d:Nat) (e:Ex) (r1 r2:List Value) (w:World),ExAt F d w r1 e→ExAt G d w r2 e→Calls Tryz.prog 14 #[.agg r1.toArray,.agg r2.toArray] w (TrueB w):=by
 intro d
 induction d with
 | zero=>intro e r1 r2 w h;exact h.elim
 | succ d ih =>
  intro e r1 r2 w h1 h2
  obtain⟨_,_,_,_,_,A,n,c,rfl,hl1⟩:=h1.open_
  obtain⟨_,_,_,_,_,A',n',c',rfl,hl2⟩:=h2.open_
  obtain rfl:n=n':=by rw[← LsAt.len hl1,← LsAt.len hl2]
  have hn:=LsAt.n_le hl1
  obtain⟨w1,Hw1⟩:∃ w1,Hid (w1=(w.alloc (.cells #[.int .i64 e.op,.int .i64 e.n,.string e.s,.string e.name,.string e.src,.slice A n c] 60)).alloc (.cells #[.int .i64 e.op,.int .i64 e.n,.string e.s,.string e.name,.string e.src,.slice A' n c'] 60)):=⟨_,rfl⟩
  have hb1:Below w.heap.size w w1:=by rw[Hw1.out];exact((Below.refl _ _).alloc (Nat.le_refl _) _).alloc (by simp) _
  have hkx:IsBlk w1 w.heap.size 60 #[.int .i64 e.op,.int .i64 e.n,.string e.s,.string e.name,.string e.src,.slice A n c]:=by rw[Hw1.out];exact(IsBlk.laid _ _ _).alloc _
  have hky:IsBlk w1 (w.heap.size+1) 60 #[.int .i64 e.op,.int .i64 e.n,.string e.s,.string e.name,.string e.src,.slice A' n c']:=by
   rw[Hw1.out]
   have h:=IsBlk.laid (w.alloc (.cells #[.int .i64 e.op,.int .i64 e.n,.string e.s,.string e.name,.string e.src,.slice A n c] 60)) 60 #[.int .i64 e.op,.int .i64 e.n,.string e.s,.string e.name,.string e.src,.slice A' n c']
   simpa using h
  obtain⟨x0,x1,x2,x3,x4,x5,xl⟩:=blk6 hkx
  obtain⟨y0,y1,y2,y3,y4,y5,yl⟩:=blk6 hky
  have Hb1:=Lhd hb1
  have Hkx:=Lhd hkx
  have Hky:=Lhd hky
  have Hl:=Lhd (And.intro hl1 hl2)
  have Hih:=Lhd ih
  clear hb1 hkx hky hl1 hl2 ih h1 h2
  go_enter Tryz.func14,Tryz.ntmps14
  go_upto_region 1 with (fail)
  rw[← Hw1.out]
  go_wp2
  clear x0 x1 x2 x3 x4 x5 xl y0 y1 y2 y3 y4 y5 yl
  go_loopw [5] (fun i wr=>∃ k:Nat,k≤n∧i=.int .i64 k∧Below w1.heap.size w1 wr) (fun i _=>n-(intOf i).toNat)
  case atStart=>exact⟨0,Nat.zero_le _,rfl,Below.refl _ _⟩
  case round =>
   obtain⟨k,hk,rfl,hb⟩:=hrel
   have hkx:=Hkx.out.as_was (hb.block _ Hkx.out.lt)
   have hky:=Hky.out.as_was (hb.block _ Hky.out.lt)
   obtain⟨x0,x1,x2,x3,x4,x5,xl⟩:=blk6 hkx
   obtain⟨y0,y1,y2,y3,y4,y5,yl⟩:=blk6 hky
   have hbb:=Hb1.out.trans (hb.mono Hb1.out.size)
   by_cases hlt:k<n
   ·have hl1:=ExsAt.below Hl.out.1 hbb
    have hl2:=ExsAt.below Hl.out.2 hbb
    cases d with
    | zero =>
     obtain⟨b,o,r,x,_,_,_,_,_,hp,_⟩:=LsAt.get hl1 hlt
     exact hp.elim
    | succ d =>
     obtain⟨b,o,x,A2,m2,c2,rfl,hbl,hx,z0,z1,z2,z3,z4,z5,hxx,_⟩:=hl1.get hlt
     obtain⟨b',o',x',A3,m3,c3,rfl,hbl',hx',v0,v1,v2,v3,v4,v5,hyy,_⟩:=hl2.get hlt
     obtain rfl:x=x':=Option.some.inj (hx.symm.trans hx')
     have hc:=Hih.out x _ _ wr.drew (ExAt.below hxx (Below.refl _ _).drew) (ExAt.below hyy (Below.refl _ _).drew)
     have Hc:=Lhd hc
     have Hb:=Lhd hb
     clear hc hl1 hl2 hxx hyy hx hx' hbb hkx hky hb
     go_upto_region 6 with (fail)
     go_still_tail 10,(by kernel_rfl)
     change wpList _ _ _ _ _ wr.drew
     go_wp2_with (fail)
     refine Hc.out.mono ?_
     rintro y w4 ⟨rfl,hb4⟩
     have Hb4:=Lhd (Hb.out.trans (((Below.refl wr.heap.size wr).drew.trans hb4).mono Hb.out.size))
     clear hb4
     go_wp2
     go_roundw
     case rel=>exact⟨k+1,by omega,by go_num,Hb4.out⟩
     case measure=>simp[intOf];omega
   ·have Hbb:=Lhd hbb
    clear hkx hky hbb hb
    go_wp2
    go_ret
    exact⟨rfl,Hbb.out⟩
theorem blk8 {w:World} {g:Nat} {T:TypeId} {v0 v1 v2 v3 v4 v5 v6 v7:Value} (h:IsBlk w g T #[v0,v1,v2,v3,v4,v5,v6,v7]):w.cell? ⟨g,0,none⟩=some v0∧w.cell? ⟨g,1,none⟩=some v1∧w.cell? ⟨g,2,none⟩=some v2∧w.cell? ⟨g,3,none⟩=some v3∧w.cell? ⟨g,4,none⟩=some v4∧w.cell? ⟨g,5,none⟩=some v5∧w.cell? ⟨g,6,none⟩=some v6∧w.cell? ⟨g,7,none⟩=some v7∧g<w.heap.size:=by
 have h0:=h.cell 0;have h1:=h.cell 1;have h2:=h.cell 2;have h3:=h.cell 3;have h4:=h.cell 4;have h5:=h.cell 5;have h6:=h.cell 6;have h7:=h.cell 7
 simp at h0 h1 h2 h3 h4 h5 h6 h7
 exact⟨h0,h1,h2,h3,h4,h5,h6,h7,h.lt⟩
def TwoLaid (wr:World) (r1 r2:Array Value) (p q:Value) (wc:World):Prop:=∃ g1 g2,p=.pointer (some ⟨g1,0,none⟩)∧q=.pointer (some ⟨g2,0,none⟩)∧IsBlk wc g1 73 r1∧IsBlk wc g2 73 r2∧Below wr.heap.size wr wc
theorem laid_two (wr:World) (r1 r2:Array Value):IsBlk (((wr.alloc (.cells r1 73)).alloc (.cells r2 73)).drew) wr.heap.size 73 r1∧IsBlk (((wr.alloc (.cells r1 73)).alloc (.cells r2 73)).drew) (wr.heap.size+1) 73 r2∧Below wr.heap.size wr (((wr.alloc (.cells r1 73)).alloc (.cells r2 73)).drew):=by
 refine⟨(IsBlk.laid _ _ _).alloc _,?_,(((Below.refl _ _).alloc (Nat.le_refl _) _).alloc (by simp) _).drew⟩
 have h:IsBlk ((wr.alloc (.cells r1 73)).alloc (.cells r2 73)) (wr.heap.size+1) 73 r2:=by
  have h:=IsBlk.laid (wr.alloc (.cells r1 73)) 73 r2
  simpa using h
 exact h
theorem oneB_step (F G:Nat→Prop) (d:Nat) (ih:∀ d',d=d'+1→∀ (A A':Option Addr) (n c c':Nat) (xs:List St) (w:World),StsAt F d' w A n c xs→StsAt G d' w A' n c' xs→Calls Tryz.prog 77 #[.slice A n c,.slice A' n c'] w (TrueB w))
  (A A':Option Addr) (n c c':Nat) (xs:List St) (w:World) (h1:StsAt F d w A n c xs) (h2:StsAt G d w A' n c' xs):Calls Tryz.prog 77 #[.slice A n c,.slice A' n c'] w (TrueB w):=by
 have hn:=LsAt.n_le h1
 have Hl:=Lhd (And.intro h1 h2)
 have Hih:=Lhd ih
 clear h1 h2 ih
 go_enter Tryz.func77,Tryz.ntmps77
 go_wp2
 go_loopw [5] (fun i wr=>∃ k:Nat,k≤n∧i=.int .i64 k∧Below w.heap.size w wr) (fun i _=>n-(intOf i).toNat)
 case atStart=>exact⟨0,Nat.zero_le _,rfl,Below.refl _ _⟩
 case round =>
  obtain⟨k,hk,rfl,hb⟩:=hrel
  by_cases hlt:k<n
  ·have hl1:=StsAt.below Hl.out.1 hb
   have hl2:=StsAt.below Hl.out.2 hb
   cases d with
   | zero =>
    obtain⟨b,o,r,x,_,_,_,_,_,hp,_⟩:=LsAt.get hl1 hlt
    exact hp.elim
   | succ d =>
    obtain⟨b,o,r,x,rfl,hbl,_,hx,_,hp,hcl⟩:=LsAt.get hl1 hlt
    obtain⟨b',o',r',x',rfl,hbl',_,hx',_,hp',hcl'⟩:=LsAt.get hl2 hlt
    obtain rfl:x=x':=Option.some.inj (hx.symm.trans hx')
    obtain⟨_,_,_,_,Ac,nc,cc,Ae,ne,ce,Ab,nb,cb,Al,nl,cl,rfl,hc,he,hbo,hel⟩:=hp.open_
    obtain⟨_,_,_,_,Ac',nc',cc',Ae',ne',ce',Ab',nb',cb',Al',nl',cl',rfl,hc',he',hbo',hel'⟩:=hp'.open_
    have z0:wr.cell? ⟨b,o+k*8,none⟩=some (.int .i64 x.op):=by simpa using hcl 0 _ rfl
    have z1:=hcl 1 _ rfl
    have z2:=hcl 2 _ rfl
    have z3:=hcl 3 _ rfl
    have z4:=hcl 4 _ rfl
    have z5:=hcl 5 _ rfl
    have z6:=hcl 6 _ rfl
    have z7:=hcl 7 _ rfl
    have v0:wr.cell? ⟨b',o'+k*8,none⟩=some (.int .i64 x.op):=by simpa using hcl' 0 _ rfl
    have v1:=hcl' 1 _ rfl
    have v2:=hcl' 2 _ rfl
    have v3:=hcl' 3 _ rfl
    have v4:=hcl' 4 _ rfl
    have v5:=hcl' 5 _ rfl
    have v6:=hcl' 6 _ rfl
    have v7:=hcl' 7 _ rfl
    obtain rfl:nc=nc':=by rw[← LsAt.len hc,← LsAt.len hc']
    obtain rfl:ne=ne':=by rw[← LsAt.len he,← LsAt.len he']
    obtain rfl:nb=nb':=by rw[← LsAt.len hbo,← LsAt.len hbo']
    obtain rfl:nl=nl':=by rw[← LsAt.len hel,← LsAt.len hel']
    have Hn:=Lhd (And.intro (LsAt.n_le hc) (LsAt.n_le he))
    have Hc:=Lhd (And.intro hc hc')
    have He:=Lhd (And.intro he he')
    have Hbo:=Lhd (And.intro hbo hbo')
    have Hel:=Lhd (And.intro hel hel')
    have Hb:=Lhd hb
    clear hc hc' he he' hbo hbo' hel hel' hp hp' hcl hcl' hx hx' hl1 hl2 hb
    have ha:TwoLaid wr #[.int .i64 x.op,.string x.name,.string x.src,.int .i64 x.n,.slice Ac nc cc,.slice Ae ne ce,.slice Ab nb cb,.slice Al nl cl] #[.int .i64 x.op,.string x.name,.string x.src,.int .i64 x.n,.slice Ac' nc cc',.slice Ae' ne ce',.slice Ab' nb cb',.slice Al' nl cl'] (.pointer (some ⟨wr.heap.size,0,none⟩)) (.pointer (some ⟨wr.heap.size+1,0,none⟩)) (((wr.alloc (.cells #[.int .i64 x.op,.string x.name,.string x.src,.int .i64 x.n,.slice Ac nc cc,.slice Ae ne ce,.slice Ab nb cb,.slice Al nl cl] 73)).alloc (.cells #[.int .i64 x.op,.string x.name,.string x.src,.int .i64 x.n,.slice Ac' nc cc',.slice Ae' ne ce',.slice Ab' nb cb',.slice Al' nl cl'] 73)).drew):=⟨_,_,rfl,rfl,laid_two _ _ _⟩
    have hb:TwoLaid wr #[.int .i64 x.op,.string x.name,.string x.src,.int .i64 x.n,.slice Ac nc cc,.slice Ae ne ce,.slice Ab nb cb,.slice Al nl cl] #[.int .i64 x.op,.string x.name,.string x.src,.int .i64 x.n,.slice Ac' nc cc',.slice Ae' ne ce',.slice Ab' nb cb',.slice Al' nl cl'] (.pointer (some ⟨wr.heap.size+1,0,none⟩)) (.pointer (some ⟨wr.heap.size,0,none⟩)) (((wr.alloc (.cells #[.int .i64 x.op,.string x.name,.string x.src,.int .i64 x.n,.slice Ac' nc cc',.slice Ae' ne ce',.slice Ab' nb cb',.slice Al' nl cl'] 73)).alloc (.cells #[.int .i64 x.op,.string x.name,.string x.src,.int .i64 x.n,.slice Ac nc cc,.slice Ae ne ce,.slice Ab nb cb,.slice Al nl cl] 73)).drew):=⟨_,_,rfl,rfl,(laid_two _ _ _).2.1,(laid_two _ _ _).1,(laid_two _ _ _).2.2⟩
    have Ha:=Lhd ha
    have Hbb:=Lhd hb
    clear ha hb
    go_upto_region 6 with (fail)
    go_cut [6,7] (fun p q wc=>TwoLaid wr #[.int .i64 x.op,.string x.name,.string x.src,.int .i64 x.n,.slice Ac nc cc,.slice Ae ne ce,.slice Ab nb cb,.slice Al nl cl] #[.int .i64 x.op,.string x.name,.string x.src,.int .i64 x.n,.slice Ac' nc cc',.slice Ae' ne ce',.slice Ab' nb cb',.slice Al' nl cl'] p q wc)
    case first =>
     go_region_with (fail)
     all_goals
      go_wp2
      go_meet
      first
       | exact Ha.out
       | exact Hbb.out
    case rest =>
     obtain⟨g1,g2,rfl,rfl,hk1,hk2,hb2⟩:=hcut
     clear z0 z1 z2 z3 z4 z5 z6 z7 v0 v1 v2 v3 v4 v5 v6 v7
     have hih:=Hih.out d rfl
     have Hih2:=Lhd hih
     have Hk:=Lhd (And.intro hk1 hk2)
     have Hb2:=Lhd hb2
     obtain⟨x0,x1,x2,x3,x4,x5,x6,x7,xl⟩:=blk8 hk1
     obtain⟨y0,y1,y2,y3,y4,y5,y6,y7,yl⟩:=blk8 hk2
     have h1:=hih Ab Ab' nb cb cb' x.body wc (StsAt.below Hbo.out.1 hb2) (StsAt.below Hbo.out.2 hb2)
     have H1:=Lhd h1
     clear hih hk1 hk2 hb2 h1 hbl hbl'
     go_wp2_with (fail)
     refine H1.out.mono ?_
     rintro y w3 ⟨rfl,hb3⟩
     have hb23:=Hb2.out.trans (hb3.mono Hb2.out.size)
     have hk1:=Hk.out.1.as_was (hb3.block _ Hk.out.1.lt)
     have hk2:=Hk.out.2.as_was (hb3.block _ Hk.out.2.lt)
     clear x0 x1 x2 x3 x4 x5 x6 x7 xl y0 y1 y2 y3 y4 y5 y6 y7 yl
     obtain⟨x0,x1,x2,x3,x4,x5,x6,x7,xl⟩:=blk8 hk1
     obtain⟨y0,y1,y2,y3,y4,y5,y6,y7,yl⟩:=blk8 hk2
     have h1:=Hih2.out Al Al' nl cl cl' x.els w3 (StsAt.below Hel.out.1 hb23) (StsAt.below Hel.out.2 hb23)
     have H1:=Lhd h1
     have Hk3:=Lhd (And.intro hk1 (And.intro hk2 hb23))
     clear hk1 hk2 hb23 hb3 h1
     go_wp2_with (fail)
     refine H1.out.mono ?_
     rintro y w4 ⟨rfl,hb4⟩
     have hb24:=Hk3.out.2.2.trans (hb4.mono Hk3.out.2.2.size)
     have hk1:=Hk3.out.1.as_was (hb4.block _ Hk3.out.1.lt)
     have hk2:=Hk3.out.2.1.as_was (hb4.block _ Hk3.out.2.1.lt)
     have Hk4:=Lhd (And.intro hk1 (And.intro hk2 hb24))
     clear hk1 hk2 hb24 hb4 x0 x1 x2 x3 x4 x5 x6 x7 xl y0 y1 y2 y3 y4 y5 y6 y7 yl
     go_wp2
     go_loopw [8] (fun i wq=>∃ j:Nat,j≤nc∧i=.int .i64 j∧Below w4.heap.size w4 wq) (fun i _=>nc-(intOf i).toNat)
     case atStart=>exact⟨0,Nat.zero_le _,rfl,Below.refl _ _⟩
     case round =>
      rename World=>wq
      obtain⟨j,hj,rfl,hq⟩:=hrel
      have hk1:=Hk4.out.1.as_was (hq.block _ Hk4.out.1.lt)
      have hk2:=Hk4.out.2.1.as_was (hq.block _ Hk4.out.2.1.lt)
      obtain⟨x0,x1,x2,x3,x4,x5,x6,x7,xl⟩:=blk8 hk1
      obtain⟨y0,y1,y2,y3,y4,y5,y6,y7,yl⟩:=blk8 hk2
      have hnn:=Hn.out.1
      have hb5:=Hk4.out.2.2.trans (hq.mono Hk4.out.2.2.size)
      by_cases hjl:j<nc
      ·obtain⟨b5,o5,r5,u,rfl,hbl5,_,hu,_,⟨rfl,_⟩,hcu⟩:=LsAt.get (LsAt.below Hc.out.1 hb5) hjl
       obtain⟨b6,o6,r6,u',rfl,hbl6,_,hu',_,⟨rfl,_⟩,hcu'⟩:=LsAt.get (LsAt.below Hc.out.2 hb5) hjl
       obtain rfl:u=u':=Option.some.inj (hu.symm.trans hu')
       have s0:wq.cell? ⟨b5,o5+j,none⟩=some (.string u):=by simpa using hcu 0 _ rfl
       have s1:wq.cell? ⟨b6,o6+j,none⟩=some (.string u):=by simpa using hcu' 0 _ rfl
       have Hq:=Lhd ((hq.trans ((Below.refl wq.heap.size wq).drew.mono hq.size)))
       clear hk1 hk2 hb5 hcu hcu' hu hu' hq
       go_wp2
       go_region
       all_goals go_wp2
       all_goals
        go_roundw
        case rel=>exact⟨j+1,by omega,by go_num,Hq.out⟩
        case measure=>simp[intOf];omega
      ·have Hk5:=Lhd (And.intro hk1 (And.intro hk2 hb5))
       clear hk1 hk2 hb5 hq hnn x0 x1 x2 x3 x4 x5 x6 x7 xl y0 y1 y2 y3 y4 y5 y6 y7 yl
       obtain⟨x0,x1,x2,x3,x4,x5,x6,x7,xl⟩:=blk8 Hk5.out.1
       obtain⟨y0,y1,y2,y3,y4,y5,y6,y7,yl⟩:=blk8 Hk5.out.2.1
       have hnn:=Hn.out.2
       go_wp2
       clear x0 x1 x2 x3 x4 x5 x6 x7 xl y0 y1 y2 y3 y4 y5 y6 y7 yl
       go_loopw [9] (fun i wp=>∃ j:Nat,j≤ne∧i=.int .i64 j∧Below wq.heap.size wq wp) (fun i _=>ne-(intOf i).toNat)
       case atStart=>exact⟨0,Nat.zero_le _,rfl,Below.refl _ _⟩
       case round =>
        rename World=>wp
        obtain⟨j,hj,rfl,hq⟩:=hrel
        have hk1:=Hk5.out.1.as_was (hq.block _ Hk5.out.1.lt)
        have hk2:=Hk5.out.2.1.as_was (hq.block _ Hk5.out.2.1.lt)
        obtain⟨x0,x1,x2,x3,x4,x5,x6,x7,xl⟩:=blk8 hk1
        obtain⟨y0,y1,y2,y3,y4,y5,y6,y7,yl⟩:=blk8 hk2
        have hb6:=Hk5.out.2.2.trans (hq.mono Hk5.out.2.2.size)
        by_cases hjl:j<ne
        ·have he1:=ExsAt.below He.out.1 hb6
         have he2:=ExsAt.below He.out.2 hb6
         cases d with
         | zero =>
          obtain⟨b7,o7,r7,x7,_,_,_,_,_,hp,_⟩:=LsAt.get he1 hjl
          exact hp.elim
         | succ d =>
          obtain⟨b7,o7,u,A2,m2,c2,rfl,hbl7,hu,z0,z1,z2,z3,z4,z5,hxx,_⟩:=he1.get hjl
          obtain⟨b8,o8,u',A3,m3,c3,rfl,hbl8,hu',v0,v1,v2,v3,v4,v5,hyy,_⟩:=he2.get hjl
          obtain rfl:u=u':=Option.some.inj (hu.symm.trans hu')
          have hce:=oneE_any F G (d+1) u _ _ wp.drew (ExAt.below hxx (Below.refl _ _).drew) (ExAt.below hyy (Below.refl _ _).drew)
          have Hce:=Lhd hce
          have Hq:=Lhd hq
          clear hce he1 he2 hxx hyy hu hu' hb6 hk1 hk2 hq
          go_upto_region 17 with (fail)
          go_still_tail 10,(by kernel_rfl)
          change wpList _ _ _ _ _ wp.drew
          go_wp2_with (fail)
          refine Hce.out.mono ?_
          rintro y w7 ⟨rfl,hb7⟩
          have Hb7:=Lhd (Hq.out.trans (((Below.refl wp.heap.size wp).drew.trans hb7).mono Hq.out.size))
          clear hb7
          go_wp2
          go_roundw
          case rel=>exact⟨j+1,by omega,by go_num,Hb7.out⟩
          case measure=>simp[intOf];omega
        ·have Hb6:=Lhd (Hb.out.trans (hb6.mono Hb.out.size))
         clear hk1 hk2 hb6 hq
         go_wp2
         go_roundw
         case rel=>exact⟨k+1,by omega,by go_num,Hb6.out⟩
         case measure=>simp[intOf];omega
  ·have Hb:=Lhd hb
   clear hb
   go_wp2
   go_ret
   exact⟨rfl,Hb.out⟩
theorem oneB_any (F G:Nat→Prop):∀ (d:Nat) (A A':Option Addr) (n c c':Nat) (xs:List St) (w:World),StsAt F d w A n c xs→StsAt G d w A' n c' xs→Calls Tryz.prog 77 #[.slice A n c,.slice A' n c'] w (TrueB w):=by
 intro d
 induction d with
 | zero=>exact fun A A' n c c' xs w h1 h2=>oneB_step F G 0 (fun d' h=>by omega) A A' n c c' xs w h1 h2
 | succ d ih =>
  intro A A' n c c' xs w h1 h2
  refine oneB_step F G (d+1) (fun d' h=>?_) A A' n c c' xs w h1 h2
  have e:d=d':=Nat.succ.inj h
  subst e
  exact ih
end Go.Proofs.YtgbgiknfejpcoaaGreat

/- Parts of this proof, one behind the other: ParE3, ParE4, ParF. -/
import Derived.Test.YtdgapmnojmhllaaGreatDoorPf21
import Derived.Test.YtdgapmnojmhllaaGreatDoorPf22
set_option maxRecDepth 1000000
set_option maxHeartbeats 40000000
namespace Go.Proofs.YtdgapmnojmhllaaGreatDoor
open Go.RowKit Go.Afx
theorem pChain_product (gp gc gw:Nat) (W:Wds) (s:PSt) (one:PSt→Ex×PSt) (m:Nat) (l:List (ByteArray×Int)) (A B:Option Addr) (n ca cb:Nat) (w:World) (h:PAt gp gc gw W s w) (hf:Fit W m s) (hm:m≤W.l.length+1) (hT:TakesE gp gc gw W 177 one m) (hU:Up one) (hl:LvAt gp gc w A ca B cb l) (hn:l.length=n) (hop:∀ p∈l,1≤p.2∧p.2≤100) :
  Calls Tryz.prog 58 #[.pointer (some ⟨gp,0,none⟩),.agg #[.slice A n ca,.slice B n cb],.func (.func 177) #[.pointer (some ⟨gp,0,none⟩)] #[]] w (GivesE gp gc gw W (chain1 W l one s).2 (chain1 W l one s).1 w):=by
 obtain⟨w1,Hw1⟩:∃ w1,Hid (w1=(w.alloc (.cells #[.slice A n ca,.slice B n cb] 129)).alloc (.cells #[.int .i64 0,.int .i64 0,.string ⟨#[]⟩,.string ⟨#[]⟩,.string ⟨#[]⟩,.slice none 0 0] 32)):=⟨_,rfl⟩
 have hb1:Below w.heap.size w w1:=by rw[Hw1.out];exact((Below.refl _ _).alloc (Nat.le_refl _) _).alloc (by simp) _
 have hk4:IsBlk w1 w.heap.size 129 #[.slice A n ca,.slice B n cb]:=by rw[Hw1.out];exact(IsBlk.laid _ _ _).alloc _
 have hk6:IsBlk w1 (w.heap.size+1) 32 #[.int .i64 0,.int .i64 0,.string ⟨#[]⟩,.string ⟨#[]⟩,.string ⟨#[]⟩,.slice none 0 0]:=by rw[Hw1.out];exact blk_new (by simp)
 have hgs:=h.lt
 have hgw:=h.wl
 have h1:=h.below hb1
 have hl1:=hl.but (But.of_below hb1)
 have Hone:=Lhd hT
 have HU:=Lhd hU
 have Hop:=Lhd (fun s' W2 (hW:PAt gp gc gw W s' W2) (hB:But (On2 gp gc) w1 W2)=>pOp_any gp gc gw W s' l A B n ca cb W2 hW (hl1.but hB) hn)
 have Hops:=Lhd hop
 have Hk4:=Lhd hk4
 have Hk6:=Lhd hk6
 have Hb1:=Lhd hb1
 have H1:=Lhd h1
 have Hgs:=Lhd (And.intro hgs.1 (And.intro hgs.2 hgw))
 have Hf:=Lhd hf
 have Hm:=Lhd hm
 clear h h1 hl hl1 hT hU hop hk4 hk6 hb1 hgs hgw hf hm
 have hfin:chain1 W l one s=chainP W l one (W.l.length+1) (one s).1 (one s).2:=rfl
 generalize chain1 W l one s=fin at *
 have Hfin:=Lhd hfin
 clear hfin
 go_enter Tryz.func58,Tryz.ntmps58
 go_upto_region 1 with (fail)
 rw[← Hw1.out]
 go_wp2_with (fail)
 refine(Hone.out s w1 H1.out Hf.out).mono ?_
 rintro e w2 ⟨row,D,rfl,hx,hP,hB⟩
 obtain⟨A1,m1,c1,rfl⟩:=ex_row6 hx
 have hg4:gp<w.heap.size∧gc<w.heap.size:=⟨Hgs.out.1,Hgs.out.2.1⟩
 have hg6:gp<w.heap.size+1∧gc<w.heap.size+1:=by omega
 have hz:=hB.size
 have hz1:=Hk6.out.lt
 have hg7:gp<w2.heap.size∧gc<w2.heap.size:=by omega
 have hg8:gp<w2.heap.size∧gc<w2.heap.size∧gw<w2.heap.size∧w1.heap.size≤w2.heap.size:=⟨hg7.1,hg7.2,by have:=Hgs.out.2.2;omega,hz⟩
 have H8:=Lhd hg8
 have hFC:∀ k,w1.heap.size≤k∧k≠w2.heap.size→gp<k∧gc<k:=fun k hk=>by omega
 have HFC:=Lhd hFC
 have hx:=ExAt.turn (F':=fun b=>w1.heap.size≤b∧b≠w2.heap.size) (fun k hk hf=>⟨hf,by omega⟩) (Kept.refl _ _) D (Nat.le_refl _) hx
 have H7:=Lhd hg7
 have hb3:But (On2 gp gc) w1 (w2.alloc (.cells #[.int .i64 (one s).1.op,.int .i64 (one s).1.n,.string (one s).1.s,.string (one s).1.name,.string (one s).1.src,.slice A1 m1 c1] 32)):=hB.alloc _
 have hal:=(Below.refl w2.heap.size w2).alloc (Nat.le_refl _) (.cells #[.int .i64 (one s).1.op,.int .i64 (one s).1.n,.string (one s).1.s,.string (one s).1.name,.string (one s).1.src,.slice A1 m1 c1] 32)
 have hP3:=hP.below hal
 have hx3:=hx.below hal
 have hk7:IsBlk (w2.alloc (.cells #[.int .i64 (one s).1.op,.int .i64 (one s).1.n,.string (one s).1.s,.string (one s).1.name,.string (one s).1.src,.slice A1 m1 c1] 32)) w2.heap.size 32 #[.int .i64 (one s).1.op,.int .i64 (one s).1.n,.string (one s).1.s,.string (one s).1.name,.string (one s).1.src,.slice A1 m1 c1]:=IsBlk.laid _ _ _
 obtain⟨x0,x1,xl⟩:=cells2 (on2_blk Hk4.out hB hg4)
 have H3:=Lhd (And.intro hP3 (And.intro hb3 (And.intro hx3 hk7)))
 have hfit2:Fit W (W.l.length+1) (one s).2:=(Hf.out.up HU.out).more Hm.out
 have Hfit2:=Lhd hfit2
 clear hx hP hB hz hz1 hg7 hg8 hFC hb3 hal hP3 hx3 hk7 hfit2 hg4 hg6
 go_wp2_with (fail)
 refine(Hop.out _ _ H3.out.1 H3.out.2.1).mono ?_
 rintro e w4 ⟨rfl,hP4,hB4⟩
 have hB5:=H3.out.2.1.trans' hB4
 have H4:=Lhd (And.intro hP4 (And.intro hB5 (And.intro (on2_blk H3.out.2.2.2 hB4 H7.out) (H3.out.2.2.1.kept (fr_on2 hB4 HFC.out)))))
 clear hP4 hB4 hB5 x0 x1 xl
 go_wp2
 go_loopw [8] (fun i wr=>∃ (op:Int) (e:Ex) (s':PSt) (k D:Nat) (A2:Option Addr) (m2 c2:Nat),i=.int .i64 op∧PAt gp gc gw W s' wr∧But (On2 gp gc) w wr∧IsBlk wr w.heap.size 129 #[.slice A n ca,.slice B n cb]∧IsBlk wr (w.heap.size+1) 32 zero6 ∧
   IsBlk wr w2.heap.size 32 #[.int .i64 e.op,.int .i64 e.n,.string e.s,.string e.name,.string e.src,.slice A2 m2 c2]∧Hid (ExAt (fun b=>w1.heap.size≤b∧b≠w2.heap.size) D wr [.int .i64 e.op,.int .i64 e.n,.string e.s,.string e.name,.string e.src,.slice A2 m2 c2] e)∧Hid (fin=contC W l one k op e s')∧Hid (Fit W (k+1) s'∧(op≠0→1≤op∧op≤100∧1≤k∧Fit W k s'∧Fit W m s'))∧But (On2 gp gc) w1 wr)
  (fun i wr=>chM W (intOf i) (atOf wr gc))
 case atStart =>
  have hg4:gp<w.heap.size∧gc<w.heap.size:=⟨Hgs.out.1,Hgs.out.2.1⟩
  exact⟨_,(one s).1,(opP W l (one s).2).2,W.l.length,D,A1,m1,c1,rfl,H4.out.1,(But.of_below Hb1.out).trans' H4.out.2.1,on2_blk Hk4.out H4.out.2.1 hg4,on2_blk Hk6.out H4.out.2.1 (by omega),H4.out.2.2.1,Lhd H4.out.2.2.2,Lhd (Hfin.out.trans (chain_cont ..)),Lhd (step_fit Hfit2.out (Hf.out.up HU.out) Hops.out),H4.out.2.1⟩
 case round =>
  obtain⟨op,e,s',k,D,A2,m2,c2,rfl,hP,hB,hk4,hk6,hk7,HX,HF,HS,hB1⟩:=hrel
  obtain⟨x0,x1,xl⟩:=cells2 hk4
  obtain⟨y0,y1,y2,y3,y4,y5,yl⟩:=cells6 hk6
  obtain⟨z0,z1,z2,z3,z4,z5,zl⟩:=cells6 hk7
  have f6:=hk6.frozen
  have f7:=hk7.frozen
  rcases Classical.em (op=0) with h0|h0
  ·subst h0
   have hfin0:fin=(e,s'):=by rw[HF.out];unfold contC;rw[if_pos rfl]
   have Hf0:=Lhd hfin0
   have H:=Lhd (And.intro hP (And.intro hB1 (And.intro hk6 HX.out)))
   clear hP hB hk4 hk6 hk7 hB1 hfin0
   go_wp2
   rw[lay6_eq]
   have hb7:=lay6_but wr (w.heap.size+1) (.int .i64 e.op) (.int .i64 e.n) (.string e.s) (.string e.name) (.string e.src) (.slice A2 m2 c2)
   have hk7:=lay6_blk (.int .i64 e.op) (.int .i64 e.n) (.string e.s) (.string e.name) (.string e.src) (.slice A2 m2 c2) H.out.2.2.1
   generalize lay6 wr (w.heap.size+1) (.int .i64 e.op) (.int .i64 e.n) (.string e.s) (.string e.name) (.string e.src) (.slice A2 m2 c2)=w7 at *
   have hz1:=Hb1.out.size
   have hz2:=Hk6.out.lt
   refine bodyPost_ret (v:=.agg #[.int .i64 e.op,.int .i64 e.n,.string e.s,.string e.name,.string e.src,.slice A2 m2 c2]) (ret_ex Tryz.results58 rfl hk7 rfl) rfl ?_
   rw[Hf0.out]
   refine⟨[.int .i64 e.op,.int .i64 e.n,.string e.s,.string e.name,.string e.src,.slice A2 m2 c2],D,rfl,?_,H.out.1.elsewhere hb7 (by have:=Hgs.out;omega),((But.of_below Hb1.out).trans' H.out.2.1).trans hb7 (fun i hi=>.inr (by omega))⟩
   exact ExAt.conv (fun k (hk:w1.heap.size≤k∧k≠w2.heap.size)=>by show w.heap.size≤k;omega) (Kept.of_but hb7 fun k hk e=>by omega) D (Nat.le_refl _) H.out.2.2.2
  ·have q0:(op !=0)=true:=by simpa using h0
   obtain⟨hf1,hf2⟩:=HS.out
   obtain⟨ho1,ho2,hk1,hfk,hfm⟩:=hf2 h0
   have hat:=atOf_eq hP
   have Hat:=Lhd hat
   have H:=Lhd (And.intro hP (And.intro hB (And.intro hk4 (And.intro hk6 (And.intro hk7 hB1)))))
   have Ho:=Lhd (And.intro ho1 (And.intro ho2 (And.intro hk1 (And.intro hfk hfm))))
   have H0:=Lhd h0
   clear hP hB hk4 hk6 hk7 hB1 hf1 hf2 ho1 ho2 hk1 hfk hfm h0 hat
   go_wp2
   have Hd:=Lhd (And.intro (show PAt gp gc gw W s' wr.drew from H.out.1.below (Below.refl _ _).drew) (show IsBlk wr.drew w2.heap.size 32 #[.int .i64 e.op,.int .i64 e.n,.string e.s,.string e.name,.string e.src,.slice A2 m2 c2] from H.out.2.2.2.2.1))
   have HX2:=Lhd (show ExAt (fun b=>w1.heap.size≤b∧b≠w2.heap.size) D wr.drew [.int .i64 e.op,.int .i64 e.n,.string e.s,.string e.name,.string e.src,.slice A2 m2 c2] e from HX.out.below (Below.refl _ _).drew)
   have hzr:w1.heap.size≤wr.drew.heap.size∧w2.heap.size<wr.drew.heap.size:=⟨H.out.2.2.2.2.2.size,H.out.2.2.2.2.1.lt⟩
   have Hzr:=Lhd hzr
   have Htwo:=Lhd (fun (W2:World) (D2:Nat) (b:Ex) (rb:List Value) (hB2:But (On2 gp gc) wr.drew W2) (hb:ExAt (Fr wr.drew) D2 W2 rb b)=>pTwo_any (fun b=>w1.heap.size≤b∧b≠w2.heap.size) (max D D2) op e b [.int .i64 e.op,.int .i64 e.n,.string e.s,.string e.name,.string e.src,.slice A2 m2 c2] rb W2 (by have:=Ho.out.1;omega) Ho.out.2.1
    (ExAt.conv (fun _ h=>h) (fr_on2 hB2 HFC.out) D (Nat.le_max_left _ _) HX2.out) (ExAt.conv (fun k (hk:wr.drew.heap.size≤k)=>by have:=Hzr.out;constructor<;>omega) (Kept.refl _ _) D2 (Nat.le_max_right _ _) hb) (fun k hk=>by have:=Hzr.out;have:=hB2.size;constructor<;>omega))
   clear hzr
   go_region_with (first
    | (go_at_call 177;refine(Hone.out s' _ Hd.out.1 Ho.out.2.2.2.2).mono ?_;rintro e5 w5 ⟨row5,D5,rfl,hx5,hP5,hB5⟩;obtain⟨A5,m5,c5,rfl⟩:=ex_row6 hx5;obtain⟨z0,z1,z2,z3,z4,z5,zl⟩:=cells6 (on2_blk Hd.out.2 hB5 H7.out))
    | (go_at_call 104;refine(Htwo.out _ _ _ _ hB5 hx5).mono ?_;rintro e6 w6 ⟨row6,rfl,hx6,hb6⟩;obtain⟨A6,m6,c6,rfl⟩:=ex_row6 hx6;have hk56:=on2_blk Hd.out.2 hB5 H7.out;have hk76:=hk56.as_was (hb6.block _ hk56.lt);obtain⟨v0,v1,v2,v3,v4,v5,vl⟩:=cells6 hk76;have f76:=hk76.frozen;have H6:=Lhd (And.intro (hP5.below hb6) (And.intro (hB5.trans' (But.of_below hb6)) (And.intro hk76 hx6)))))
   all_goals
    rw[lay6_eq]
    have hb7:=lay6_but w6 w2.heap.size (.int .i64 (twoP op e (one s').1).op) (.int .i64 (twoP op e (one s').1).n) (.string (twoP op e (one s').1).s) (.string (twoP op e (one s').1).name) (.string (twoP op e (one s').1).src) (.slice A6 m6 c6)
    have hk7:=lay6_blk (.int .i64 (twoP op e (one s').1).op) (.int .i64 (twoP op e (one s').1).n) (.string (twoP op e (one s').1).s) (.string (twoP op e (one s').1).name) (.string (twoP op e (one s').1).src) (.slice A6 m6 c6) H6.out.2.2.1
    generalize lay6 w6 w2.heap.size (.int .i64 (twoP op e (one s').1).op) (.int .i64 (twoP op e (one s').1).n) (.string (twoP op e (one s').1).s) (.string (twoP op e (one s').1).name) (.string (twoP op e (one s').1).src) (.slice A6 m6 c6)=w7 at *
    have hpu:=Lhd (And.intro (H6.out.1.elsewhere hb7 (by have:=H8.out;omega)) (And.intro (((H.out.2.2.2.2.2.drew).trans' H6.out.2.1).trans hb7 (fun i hi=>.inr (by have:=H8.out;omega))) (And.intro (H6.out.2.2.2.kept (Kept.of_but hb7 fun k hk e=>hk.2 e)) hk7)))
    clear hb7 hk7 z0 z1 z2 z3 z4 z5 zl v0 v1 v2 v3 v4 v5 vl x0 x1 xl y0 y1 y2 y3 y4 y5 yl f6 f7 f76 hk76 hk56 hb6 hP5 hB5 hx5 hx6
    obtain⟨x0,x1,xl⟩:=cells2 (on2_blk Hk4.out hpu.out.2.1 (by have:=Hgs.out;omega))
    go_wp2_with (fail)
    refine(Hop.out _ _ hpu.out.1 hpu.out.2.1).mono ?_
    rintro e8 w8 ⟨rfl,hP8,hB8⟩
    have hB9:=hpu.out.2.1.trans' hB8
    have H9:=Lhd (And.intro hP8 (And.intro hB9 (And.intro (on2_blk hpu.out.2.2.2 hB8 H7.out) (hpu.out.2.2.1.kept (fr_on2 hB8 HFC.out)))))
    have hk1:=Ho.out.2.2.1
    obtain⟨k1,rfl⟩:∃ k1,k=k1+1:=⟨k-1,by omega⟩
    have hF9:fin=contC W l one k1 (opP W l (one s').2).1 (twoP op e (one s').1) (opP W l (one s').2).2:=by
     rw[HF.out]
     unfold contC
     rw[if_neg H0.out]
     rfl
    have HF9:=Lhd hF9
    have hs9:=step_fit (l:=l) (Fit.up (one:=one) Ho.out.2.2.2.1 HU.out) (Fit.up (one:=one) Ho.out.2.2.2.2 HU.out) Hops.out
    have HS9:=Lhd hs9
    have hm9:chM W (opP W l (one s').2).1 (atOf w8 gc)<chM W op (atOf wr gc):=by
     rw[atOf_eq H9.out.1,Hat.out]
     have h1:=(HU.out s').1
     have h2:=op_more (W:=W) (l:=l) (s:=(one s').2)
     have h3:=H9.out.1.le
     unfold chM
     rw[if_neg H0.out]
     split
     ·rename_i h0
      rw[if_pos h0] at h2
      omega
     ·rename_i h0
      rw[if_neg h0] at h2
      omega
    have HM9:=Lhd hm9
    clear hP8 hB8 hB9 hk1 hF9 hs9 hm9
    go_wp2
    go_roundw
    case rel=>exact⟨_,_,_,_,_,A6,m6,c6,rfl,H9.out.1,(But.of_below Hb1.out).trans' H9.out.2.1,on2_blk Hk4.out H9.out.2.1 (by have:=Hgs.out;omega),on2_blk Hk6.out H9.out.2.1 (by have:=Hgs.out;omega),H9.out.2.2.1,Lhd H9.out.2.2.2,HF9,HS9,H9.out.2.1⟩
    case measure=>exact HM9.out
theorem pChain_signed (gp gc gw:Nat) (W:Wds) (s:PSt) (one:PSt→Ex×PSt) (m:Nat) (l:List (ByteArray×Int)) (A B:Option Addr) (n ca cb:Nat) (w:World) (h:PAt gp gc gw W s w) (hf:Fit W m s) (hm:m≤W.l.length+1) (hT:TakesE gp gc gw W 198 one m) (hU:Up one) (hl:LvAt gp gc w A ca B cb l) (hn:l.length=n) (hop:∀ p∈l,1≤p.2∧p.2≤100) :
  Calls Tryz.prog 58 #[.pointer (some ⟨gp,0,none⟩),.agg #[.slice A n ca,.slice B n cb],.func (.func 198) #[.pointer (some ⟨gp,0,none⟩)] #[]] w (GivesE gp gc gw W (chain1 W l one s).2 (chain1 W l one s).1 w):=by
 obtain⟨w1,Hw1⟩:∃ w1,Hid (w1=(w.alloc (.cells #[.slice A n ca,.slice B n cb] 129)).alloc (.cells #[.int .i64 0,.int .i64 0,.string ⟨#[]⟩,.string ⟨#[]⟩,.string ⟨#[]⟩,.slice none 0 0] 32)):=⟨_,rfl⟩
 have hb1:Below w.heap.size w w1:=by rw[Hw1.out];exact((Below.refl _ _).alloc (Nat.le_refl _) _).alloc (by simp) _
 have hk4:IsBlk w1 w.heap.size 129 #[.slice A n ca,.slice B n cb]:=by rw[Hw1.out];exact(IsBlk.laid _ _ _).alloc _
 have hk6:IsBlk w1 (w.heap.size+1) 32 #[.int .i64 0,.int .i64 0,.string ⟨#[]⟩,.string ⟨#[]⟩,.string ⟨#[]⟩,.slice none 0 0]:=by rw[Hw1.out];exact blk_new (by simp)
 have hgs:=h.lt
 have hgw:=h.wl
 have h1:=h.below hb1
 have hl1:=hl.but (But.of_below hb1)
 have Hone:=Lhd hT
 have HU:=Lhd hU
 have Hop:=Lhd (fun s' W2 (hW:PAt gp gc gw W s' W2) (hB:But (On2 gp gc) w1 W2)=>pOp_any gp gc gw W s' l A B n ca cb W2 hW (hl1.but hB) hn)
 have Hops:=Lhd hop
 have Hk4:=Lhd hk4
 have Hk6:=Lhd hk6
 have Hb1:=Lhd hb1
 have H1:=Lhd h1
 have Hgs:=Lhd (And.intro hgs.1 (And.intro hgs.2 hgw))
 have Hf:=Lhd hf
 have Hm:=Lhd hm
 clear h h1 hl hl1 hT hU hop hk4 hk6 hb1 hgs hgw hf hm
 have hfin:chain1 W l one s=chainP W l one (W.l.length+1) (one s).1 (one s).2:=rfl
 generalize chain1 W l one s=fin at *
 have Hfin:=Lhd hfin
 clear hfin
 go_enter Tryz.func58,Tryz.ntmps58
 go_upto_region 1 with (fail)
 rw[← Hw1.out]
 go_wp2_with (fail)
 refine(Hone.out s w1 H1.out Hf.out).mono ?_
 rintro e w2 ⟨row,D,rfl,hx,hP,hB⟩
 obtain⟨A1,m1,c1,rfl⟩:=ex_row6 hx
 have hg4:gp<w.heap.size∧gc<w.heap.size:=⟨Hgs.out.1,Hgs.out.2.1⟩
 have hg6:gp<w.heap.size+1∧gc<w.heap.size+1:=by omega
 have hz:=hB.size
 have hz1:=Hk6.out.lt
 have hg7:gp<w2.heap.size∧gc<w2.heap.size:=by omega
 have hg8:gp<w2.heap.size∧gc<w2.heap.size∧gw<w2.heap.size∧w1.heap.size≤w2.heap.size:=⟨hg7.1,hg7.2,by have:=Hgs.out.2.2;omega,hz⟩
 have H8:=Lhd hg8
 have hFC:∀ k,w1.heap.size≤k∧k≠w2.heap.size→gp<k∧gc<k:=fun k hk=>by omega
 have HFC:=Lhd hFC
 have hx:=ExAt.turn (F':=fun b=>w1.heap.size≤b∧b≠w2.heap.size) (fun k hk hf=>⟨hf,by omega⟩) (Kept.refl _ _) D (Nat.le_refl _) hx
 have H7:=Lhd hg7
 have hb3:But (On2 gp gc) w1 (w2.alloc (.cells #[.int .i64 (one s).1.op,.int .i64 (one s).1.n,.string (one s).1.s,.string (one s).1.name,.string (one s).1.src,.slice A1 m1 c1] 32)):=hB.alloc _
 have hal:=(Below.refl w2.heap.size w2).alloc (Nat.le_refl _) (.cells #[.int .i64 (one s).1.op,.int .i64 (one s).1.n,.string (one s).1.s,.string (one s).1.name,.string (one s).1.src,.slice A1 m1 c1] 32)
 have hP3:=hP.below hal
 have hx3:=hx.below hal
 have hk7:IsBlk (w2.alloc (.cells #[.int .i64 (one s).1.op,.int .i64 (one s).1.n,.string (one s).1.s,.string (one s).1.name,.string (one s).1.src,.slice A1 m1 c1] 32)) w2.heap.size 32 #[.int .i64 (one s).1.op,.int .i64 (one s).1.n,.string (one s).1.s,.string (one s).1.name,.string (one s).1.src,.slice A1 m1 c1]:=IsBlk.laid _ _ _
 obtain⟨x0,x1,xl⟩:=cells2 (on2_blk Hk4.out hB hg4)
 have H3:=Lhd (And.intro hP3 (And.intro hb3 (And.intro hx3 hk7)))
 have hfit2:Fit W (W.l.length+1) (one s).2:=(Hf.out.up HU.out).more Hm.out
 have Hfit2:=Lhd hfit2
 clear hx hP hB hz hz1 hg7 hg8 hFC hb3 hal hP3 hx3 hk7 hfit2 hg4 hg6
 go_wp2_with (fail)
 refine(Hop.out _ _ H3.out.1 H3.out.2.1).mono ?_
 rintro e w4 ⟨rfl,hP4,hB4⟩
 have hB5:=H3.out.2.1.trans' hB4
 have H4:=Lhd (And.intro hP4 (And.intro hB5 (And.intro (on2_blk H3.out.2.2.2 hB4 H7.out) (H3.out.2.2.1.kept (fr_on2 hB4 HFC.out)))))
 clear hP4 hB4 hB5 x0 x1 xl
 go_wp2
 go_loopw [8] (fun i wr=>∃ (op:Int) (e:Ex) (s':PSt) (k D:Nat) (A2:Option Addr) (m2 c2:Nat),i=.int .i64 op∧PAt gp gc gw W s' wr∧But (On2 gp gc) w wr∧IsBlk wr w.heap.size 129 #[.slice A n ca,.slice B n cb]∧IsBlk wr (w.heap.size+1) 32 zero6 ∧
   IsBlk wr w2.heap.size 32 #[.int .i64 e.op,.int .i64 e.n,.string e.s,.string e.name,.string e.src,.slice A2 m2 c2]∧Hid (ExAt (fun b=>w1.heap.size≤b∧b≠w2.heap.size) D wr [.int .i64 e.op,.int .i64 e.n,.string e.s,.string e.name,.string e.src,.slice A2 m2 c2] e)∧Hid (fin=contC W l one k op e s')∧Hid (Fit W (k+1) s'∧(op≠0→1≤op∧op≤100∧1≤k∧Fit W k s'∧Fit W m s'))∧But (On2 gp gc) w1 wr)
  (fun i wr=>chM W (intOf i) (atOf wr gc))
 case atStart =>
  have hg4:gp<w.heap.size∧gc<w.heap.size:=⟨Hgs.out.1,Hgs.out.2.1⟩
  exact⟨_,(one s).1,(opP W l (one s).2).2,W.l.length,D,A1,m1,c1,rfl,H4.out.1,(But.of_below Hb1.out).trans' H4.out.2.1,on2_blk Hk4.out H4.out.2.1 hg4,on2_blk Hk6.out H4.out.2.1 (by omega),H4.out.2.2.1,Lhd H4.out.2.2.2,Lhd (Hfin.out.trans (chain_cont ..)),Lhd (step_fit Hfit2.out (Hf.out.up HU.out) Hops.out),H4.out.2.1⟩
 case round =>
  obtain⟨op,e,s',k,D,A2,m2,c2,rfl,hP,hB,hk4,hk6,hk7,HX,HF,HS,hB1⟩:=hrel
  obtain⟨x0,x1,xl⟩:=cells2 hk4
  obtain⟨y0,y1,y2,y3,y4,y5,yl⟩:=cells6 hk6
  obtain⟨z0,z1,z2,z3,z4,z5,zl⟩:=cells6 hk7
  have f6:=hk6.frozen
  have f7:=hk7.frozen
  rcases Classical.em (op=0) with h0|h0
  ·subst h0
   have hfin0:fin=(e,s'):=by rw[HF.out];unfold contC;rw[if_pos rfl]
   have Hf0:=Lhd hfin0
   have H:=Lhd (And.intro hP (And.intro hB1 (And.intro hk6 HX.out)))
   clear hP hB hk4 hk6 hk7 hB1 hfin0
   go_wp2
   rw[lay6_eq]
   have hb7:=lay6_but wr (w.heap.size+1) (.int .i64 e.op) (.int .i64 e.n) (.string e.s) (.string e.name) (.string e.src) (.slice A2 m2 c2)
   have hk7:=lay6_blk (.int .i64 e.op) (.int .i64 e.n) (.string e.s) (.string e.name) (.string e.src) (.slice A2 m2 c2) H.out.2.2.1
   generalize lay6 wr (w.heap.size+1) (.int .i64 e.op) (.int .i64 e.n) (.string e.s) (.string e.name) (.string e.src) (.slice A2 m2 c2)=w7 at *
   have hz1:=Hb1.out.size
   have hz2:=Hk6.out.lt
   refine bodyPost_ret (v:=.agg #[.int .i64 e.op,.int .i64 e.n,.string e.s,.string e.name,.string e.src,.slice A2 m2 c2]) (ret_ex Tryz.results58 rfl hk7 rfl) rfl ?_
   rw[Hf0.out]
   refine⟨[.int .i64 e.op,.int .i64 e.n,.string e.s,.string e.name,.string e.src,.slice A2 m2 c2],D,rfl,?_,H.out.1.elsewhere hb7 (by have:=Hgs.out;omega),((But.of_below Hb1.out).trans' H.out.2.1).trans hb7 (fun i hi=>.inr (by omega))⟩
   exact ExAt.conv (fun k (hk:w1.heap.size≤k∧k≠w2.heap.size)=>by show w.heap.size≤k;omega) (Kept.of_but hb7 fun k hk e=>by omega) D (Nat.le_refl _) H.out.2.2.2
  ·have q0:(op !=0)=true:=by simpa using h0
   obtain⟨hf1,hf2⟩:=HS.out
   obtain⟨ho1,ho2,hk1,hfk,hfm⟩:=hf2 h0
   have hat:=atOf_eq hP
   have Hat:=Lhd hat
   have H:=Lhd (And.intro hP (And.intro hB (And.intro hk4 (And.intro hk6 (And.intro hk7 hB1)))))
   have Ho:=Lhd (And.intro ho1 (And.intro ho2 (And.intro hk1 (And.intro hfk hfm))))
   have H0:=Lhd h0
   clear hP hB hk4 hk6 hk7 hB1 hf1 hf2 ho1 ho2 hk1 hfk hfm h0 hat
   go_wp2
   have Hd:=Lhd (And.intro (show PAt gp gc gw W s' wr.drew from H.out.1.below (Below.refl _ _).drew) (show IsBlk wr.drew w2.heap.size 32 #[.int .i64 e.op,.int .i64 e.n,.string e.s,.string e.name,.string e.src,.slice A2 m2 c2] from H.out.2.2.2.2.1))
   have HX2:=Lhd (show ExAt (fun b=>w1.heap.size≤b∧b≠w2.heap.size) D wr.drew [.int .i64 e.op,.int .i64 e.n,.string e.s,.string e.name,.string e.src,.slice A2 m2 c2] e from HX.out.below (Below.refl _ _).drew)
   have hzr:w1.heap.size≤wr.drew.heap.size∧w2.heap.size<wr.drew.heap.size:=⟨H.out.2.2.2.2.2.size,H.out.2.2.2.2.1.lt⟩
   have Hzr:=Lhd hzr
   have Htwo:=Lhd (fun (W2:World) (D2:Nat) (b:Ex) (rb:List Value) (hB2:But (On2 gp gc) wr.drew W2) (hb:ExAt (Fr wr.drew) D2 W2 rb b)=>pTwo_any (fun b=>w1.heap.size≤b∧b≠w2.heap.size) (max D D2) op e b [.int .i64 e.op,.int .i64 e.n,.string e.s,.string e.name,.string e.src,.slice A2 m2 c2] rb W2 (by have:=Ho.out.1;omega) Ho.out.2.1
    (ExAt.conv (fun _ h=>h) (fr_on2 hB2 HFC.out) D (Nat.le_max_left _ _) HX2.out) (ExAt.conv (fun k (hk:wr.drew.heap.size≤k)=>by have:=Hzr.out;constructor<;>omega) (Kept.refl _ _) D2 (Nat.le_max_right _ _) hb) (fun k hk=>by have:=Hzr.out;have:=hB2.size;constructor<;>omega))
   clear hzr
   go_region_with (first
    | (go_at_call 198;refine(Hone.out s' _ Hd.out.1 Ho.out.2.2.2.2).mono ?_;rintro e5 w5 ⟨row5,D5,rfl,hx5,hP5,hB5⟩;obtain⟨A5,m5,c5,rfl⟩:=ex_row6 hx5;obtain⟨z0,z1,z2,z3,z4,z5,zl⟩:=cells6 (on2_blk Hd.out.2 hB5 H7.out))
    | (go_at_call 104;refine(Htwo.out _ _ _ _ hB5 hx5).mono ?_;rintro e6 w6 ⟨row6,rfl,hx6,hb6⟩;obtain⟨A6,m6,c6,rfl⟩:=ex_row6 hx6;have hk56:=on2_blk Hd.out.2 hB5 H7.out;have hk76:=hk56.as_was (hb6.block _ hk56.lt);obtain⟨v0,v1,v2,v3,v4,v5,vl⟩:=cells6 hk76;have f76:=hk76.frozen;have H6:=Lhd (And.intro (hP5.below hb6) (And.intro (hB5.trans' (But.of_below hb6)) (And.intro hk76 hx6)))))
   all_goals
    rw[lay6_eq]
    have hb7:=lay6_but w6 w2.heap.size (.int .i64 (twoP op e (one s').1).op) (.int .i64 (twoP op e (one s').1).n) (.string (twoP op e (one s').1).s) (.string (twoP op e (one s').1).name) (.string (twoP op e (one s').1).src) (.slice A6 m6 c6)
    have hk7:=lay6_blk (.int .i64 (twoP op e (one s').1).op) (.int .i64 (twoP op e (one s').1).n) (.string (twoP op e (one s').1).s) (.string (twoP op e (one s').1).name) (.string (twoP op e (one s').1).src) (.slice A6 m6 c6) H6.out.2.2.1
    generalize lay6 w6 w2.heap.size (.int .i64 (twoP op e (one s').1).op) (.int .i64 (twoP op e (one s').1).n) (.string (twoP op e (one s').1).s) (.string (twoP op e (one s').1).name) (.string (twoP op e (one s').1).src) (.slice A6 m6 c6)=w7 at *
    have hpu:=Lhd (And.intro (H6.out.1.elsewhere hb7 (by have:=H8.out;omega)) (And.intro (((H.out.2.2.2.2.2.drew).trans' H6.out.2.1).trans hb7 (fun i hi=>.inr (by have:=H8.out;omega))) (And.intro (H6.out.2.2.2.kept (Kept.of_but hb7 fun k hk e=>hk.2 e)) hk7)))
    clear hb7 hk7 z0 z1 z2 z3 z4 z5 zl v0 v1 v2 v3 v4 v5 vl x0 x1 xl y0 y1 y2 y3 y4 y5 yl f6 f7 f76 hk76 hk56 hb6 hP5 hB5 hx5 hx6
    obtain⟨x0,x1,xl⟩:=cells2 (on2_blk Hk4.out hpu.out.2.1 (by have:=Hgs.out;omega))
    go_wp2_with (fail)
    refine(Hop.out _ _ hpu.out.1 hpu.out.2.1).mono ?_
    rintro e8 w8 ⟨rfl,hP8,hB8⟩
    have hB9:=hpu.out.2.1.trans' hB8
    have H9:=Lhd (And.intro hP8 (And.intro hB9 (And.intro (on2_blk hpu.out.2.2.2 hB8 H7.out) (hpu.out.2.2.1.kept (fr_on2 hB8 HFC.out)))))
    have hk1:=Ho.out.2.2.1
    obtain⟨k1,rfl⟩:∃ k1,k=k1+1:=⟨k-1,by omega⟩
    have hF9:fin=contC W l one k1 (opP W l (one s').2).1 (twoP op e (one s').1) (opP W l (one s').2).2:=by
     rw[HF.out]
     unfold contC
     rw[if_neg H0.out]
     rfl
    have HF9:=Lhd hF9
    have hs9:=step_fit (l:=l) (Fit.up (one:=one) Ho.out.2.2.2.1 HU.out) (Fit.up (one:=one) Ho.out.2.2.2.2 HU.out) Hops.out
    have HS9:=Lhd hs9
    have hm9:chM W (opP W l (one s').2).1 (atOf w8 gc)<chM W op (atOf wr gc):=by
     rw[atOf_eq H9.out.1,Hat.out]
     have h1:=(HU.out s').1
     have h2:=op_more (W:=W) (l:=l) (s:=(one s').2)
     have h3:=H9.out.1.le
     unfold chM
     rw[if_neg H0.out]
     split
     ·rename_i h0
      rw[if_pos h0] at h2
      omega
     ·rename_i h0
      rw[if_neg h0] at h2
      omega
    have HM9:=Lhd hm9
    clear hP8 hB8 hB9 hk1 hF9 hs9 hm9
    go_wp2
    go_roundw
    case rel=>exact⟨_,_,_,_,_,A6,m6,c6,rfl,H9.out.1,(But.of_below Hb1.out).trans' H9.out.2.1,on2_blk Hk4.out H9.out.2.1 (by have:=Hgs.out;omega),on2_blk Hk6.out H9.out.2.1 (by have:=Hgs.out;omega),H9.out.2.2.1,Lhd H9.out.2.2.2,HF9,HS9,H9.out.2.1⟩
    case measure=>exact HM9.out
theorem lv_lit (gp gc:Nat) (w:World) (l:List (ByteArray×Int)) (n g1 g2:Nat) (e1:g1=w.heap.size) (e2:g2=w.heap.size+1) (hg:gp<w.heap.size∧gc<w.heap.size) (hn2:l.length=n) (hn:n≤1000) :
  LvAt gp gc ((w.alloc (.cells (l.map fun p=>Value.string p.1).toArray 9)).alloc (.cells (l.map fun p=>Value.int .i64 p.2).toArray 3)) (some ⟨g1,0,none⟩) n (some ⟨g2,0,none⟩) n l ∧
  Below w.heap.size w ((w.alloc (.cells (l.map fun p=>Value.string p.1).toArray 9)).alloc (.cells (l.map fun p=>Value.int .i64 p.2).toArray 3)):=by
 subst hn2 e1 e2
 have hb:=(Below.refl w.heap.size w).alloc (Nat.le_refl _) (.cells (l.map fun p=>Value.string p.1).toArray 9)
 have h1:=TxsAt.lit (w:=w) 9 (l.map (·.1)) l.length rfl (by simp) hn
 rw[List.map_map] at h1
 have h2:=RowsAt.below h1 ((Below.refl _ _).alloc (Nat.le_refl _) (.cells (l.map fun p=>Value.int .i64 p.2).toArray 3))
 have h3:RowsAt ((w.alloc (.cells (l.map fun p=>Value.string p.1).toArray 9)).alloc (.cells (l.map fun p=>Value.int .i64 p.2).toArray 3)) 1 (some ⟨w.heap.size+1,0,none⟩) l.length l.length (l.map fun p=>[.int .i64 p.2]):=by
  refine RowsAt.lit' _ _ l.length (by simp) ?_ (fun r hr=>by obtain⟨p,_,rfl⟩:=List.mem_map.1 hr;rfl) (by simp) (by unfold maxLen;omega)
  clear h1 h2 hb hn
  show l.map (fun p=>Value.int .i64 p.2)=_
  induction l with
  | nil=>rfl
  | cons p l ih=>rw[List.map_cons,List.map_cons,List.flatten_cons,← ih];rfl
 refine⟨⟨h2,h3,fun x hx=>?_,fun x hx=>?_⟩,hb.alloc (by simp) _⟩
 ·cases hx
  constructor<;>(show w.heap.size≠_;omega)
 ·cases hx
  constructor<;>(show w.heap.size+1≠_;omega)
theorem fr_turn {w w3 w4 w7:World} {D g:Nat} {row:List Value} {e:Ex} (h:ExAt (Fr w3) D w4 row e) (hb:Below w.heap.size w w3) (hg:g<w3.heap.size) (h7:But (fun k=>k=g) w4 w7):ExAt (Fr w) D w7 row e :=
 ExAt.conv (fun k (hk:w3.heap.size≤k)=>by have:=hb.size;show w.heap.size≤k;omega) (Kept.of_but h7 fun k (hk:w3.heap.size≤k) e=>by omega) D (Nat.le_refl _) h
theorem pProduct_any (gp gc gw:Nat) (W:Wds) (one:PSt→Ex×PSt) (m:Nat) (hm:m≤W.l.length+1) (hT:TakesE gp gc gw W 198 one m) (hU:Up one):TakesE gp gc gw W 177 (chain1 W lvMul one) m:=by
 intro s w h hf
 have hz:=h.lt
 have hb1:=(Below.refl w.heap.size w).alloc (Nat.le_refl _) (.cells zero6 32)
 have hk1:=IsBlk.laid w 32 zero6
 have hg1:gp<(w.alloc (.cells zero6 32)).heap.size∧gc<(w.alloc (.cells zero6 32)).heap.size:=by simp;omega
 obtain⟨hlv,hb2⟩:=lv_lit gp gc (w.alloc (.cells zero6 32)) lvMul 3 (w.heap.size+1) (w.heap.size+1+1) (by simp) (by simp) hg1 rfl (by decide)
 have hb3:=hb1.trans (hb2.mono (by simp))
 have hk3:=hk1.as_was (hb2.block _ (by simp))
 have hc:=pChain_signed gp gc gw W s one m lvMul _ _ 3 _ _ _ (h.below hb3) hf hm hT hU hlv rfl (by unfold lvMul;decide)
 have Hb3:=Lhd hb3
 have Hk3:=Lhd hk3
 have Hz:=Lhd (And.intro hz.1 (And.intro hz.2 h.wl))
 clear hb3 hk3 hz h hf hT hU hb1 hk1 hg1 hlv hb2
 generalize chain1 W lvMul one s=fin at *
 simp only[lvMul,str,List.map_cons,List.map_nil] at hc Hb3 Hk3
 have Hc:=Lhd hc
 clear hc
 go_enter Tryz.func177,Tryz.ntmps177
 go_wp2_with (fail)
 refine Hc.out.mono ?_
 rintro e w4 ⟨row,D,rfl,hx,hP,hB⟩
 obtain⟨A2,m2,c2,rfl⟩:=ex_row6 hx
 have hk4:=on2_blk Hk3.out hB (by have:=Hz.out;omega)
 obtain⟨x0,x1,x2,x3,x4,x5,xl⟩:=cells6 hk4
 have f4:=hk4.frozen
 have H:=Lhd (And.intro hx (And.intro hP (And.intro hB hk4)))
 clear hx hP hB hk4
 go_wp2
 rw[lay6_eq]
 have hb7:=lay6_but w4 w.heap.size (.int .i64 fin.1.op) (.int .i64 fin.1.n) (.string fin.1.s) (.string fin.1.name) (.string fin.1.src) (.slice A2 m2 c2)
 have hk7:=lay6_blk (.int .i64 fin.1.op) (.int .i64 fin.1.n) (.string fin.1.s) (.string fin.1.name) (.string fin.1.src) (.slice A2 m2 c2) H.out.2.2.2
 generalize lay6 w4 w.heap.size (.int .i64 fin.1.op) (.int .i64 fin.1.n) (.string fin.1.s) (.string fin.1.name) (.string fin.1.src) (.slice A2 m2 c2)=w7 at *
 refine bodyPost_ret (v:=.agg #[.int .i64 fin.1.op,.int .i64 fin.1.n,.string fin.1.s,.string fin.1.name,.string fin.1.src,.slice A2 m2 c2]) (ret_ex Tryz.results177 rfl hk7 rfl) rfl ?_
 exact⟨_,D,rfl,fr_turn H.out.1 Hb3.out (by simp;omega) hb7,H.out.2.1.elsewhere hb7 (by have:=Hz.out;omega),((But.of_below Hb3.out).trans' H.out.2.2.1).trans hb7 (fun i hi=>.inr (by omega))⟩
theorem pSum_any (gp gc gw:Nat) (W:Wds) (one:PSt→Ex×PSt) (m:Nat) (hm:m≤W.l.length+1) (hT:TakesE gp gc gw W 177 one m) (hU:Up one):TakesE gp gc gw W 146 (chain1 W lvSum one) m:=by
 intro s w h hf
 have hz:=h.lt
 have hb1:=(Below.refl w.heap.size w).alloc (Nat.le_refl _) (.cells zero6 32)
 have hk1:=IsBlk.laid w 32 zero6
 have hg1:gp<(w.alloc (.cells zero6 32)).heap.size∧gc<(w.alloc (.cells zero6 32)).heap.size:=by simp;omega
 obtain⟨hlv,hb2⟩:=lv_lit gp gc (w.alloc (.cells zero6 32)) lvSum 2 (w.heap.size+1) (w.heap.size+1+1) (by simp) (by simp) hg1 rfl (by decide)
 have hb3:=hb1.trans (hb2.mono (by simp))
 have hk3:=hk1.as_was (hb2.block _ (by simp))
 have hc:=pChain_product gp gc gw W s one m lvSum _ _ 2 _ _ _ (h.below hb3) hf hm hT hU hlv rfl (by unfold lvSum;decide)
 have Hb3:=Lhd hb3
 have Hk3:=Lhd hk3
 have Hz:=Lhd (And.intro hz.1 (And.intro hz.2 h.wl))
 clear hb3 hk3 hz h hf hT hU hb1 hk1 hg1 hlv hb2
 generalize chain1 W lvSum one s=fin at *
 simp only[lvSum,str,List.map_cons,List.map_nil] at hc Hb3 Hk3
 have Hc:=Lhd hc
 clear hc
 go_enter Tryz.func146,Tryz.ntmps146
 go_wp2_with (fail)
 refine Hc.out.mono ?_
 rintro e w4 ⟨row,D,rfl,hx,hP,hB⟩
 obtain⟨A2,m2,c2,rfl⟩:=ex_row6 hx
 have hk4:=on2_blk Hk3.out hB (by have:=Hz.out;omega)
 obtain⟨x0,x1,x2,x3,x4,x5,xl⟩:=cells6 hk4
 have f4:=hk4.frozen
 have H:=Lhd (And.intro hx (And.intro hP (And.intro hB hk4)))
 clear hx hP hB hk4
 go_wp2
 rw[lay6_eq]
 have hb7:=lay6_but w4 w.heap.size (.int .i64 fin.1.op) (.int .i64 fin.1.n) (.string fin.1.s) (.string fin.1.name) (.string fin.1.src) (.slice A2 m2 c2)
 have hk7:=lay6_blk (.int .i64 fin.1.op) (.int .i64 fin.1.n) (.string fin.1.s) (.string fin.1.name) (.string fin.1.src) (.slice A2 m2 c2) H.out.2.2.2
 generalize lay6 w4 w.heap.size (.int .i64 fin.1.op) (.int .i64 fin.1.n) (.string fin.1.s) (.string fin.1.name) (.string fin.1.src) (.slice A2 m2 c2)=w7 at *
 refine bodyPost_ret (v:=.agg #[.int .i64 fin.1.op,.int .i64 fin.1.n,.string fin.1.s,.string fin.1.name,.string fin.1.src,.slice A2 m2 c2]) (ret_ex Tryz.results146 rfl hk7 rfl) rfl ?_
 exact⟨_,D,rfl,fr_turn H.out.1 Hb3.out (by simp;omega) hb7,H.out.2.1.elsewhere hb7 (by have:=Hz.out;omega),((But.of_below Hb3.out).trans' H.out.2.2.1).trans hb7 (fun i hi=>.inr (by omega))⟩
theorem pBoth_any (gp gc gw:Nat) (W:Wds) (one:PSt→Ex×PSt) (m:Nat) (hm:m≤W.l.length+1) (hT:TakesE gp gc gw W 105 one m) (hU:Up one):TakesE gp gc gw W 59 (chain1 W lvAnd one) m:=by
 intro s w h hf
 have hz:=h.lt
 have hb1:=(Below.refl w.heap.size w).alloc (Nat.le_refl _) (.cells zero6 32)
 have hk1:=IsBlk.laid w 32 zero6
 have hg1:gp<(w.alloc (.cells zero6 32)).heap.size∧gc<(w.alloc (.cells zero6 32)).heap.size:=by simp;omega
 obtain⟨hlv,hb2⟩:=lv_lit gp gc (w.alloc (.cells zero6 32)) lvAnd 1 (w.heap.size+1) (w.heap.size+1+1) (by simp) (by simp) hg1 rfl (by decide)
 have hb3:=hb1.trans (hb2.mono (by simp))
 have hk3:=hk1.as_was (hb2.block _ (by simp))
 have hc:=pChain_not gp gc gw W s one m lvAnd _ _ 1 _ _ _ (h.below hb3) hf hm hT hU hlv rfl (by unfold lvAnd;decide)
 have Hb3:=Lhd hb3
 have Hk3:=Lhd hk3
 have Hz:=Lhd (And.intro hz.1 (And.intro hz.2 h.wl))
 clear hb3 hk3 hz h hf hT hU hb1 hk1 hg1 hlv hb2
 generalize chain1 W lvAnd one s=fin at *
 simp only[lvAnd,str,List.map_cons,List.map_nil] at hc Hb3 Hk3
 have Hc:=Lhd hc
 clear hc
 go_enter Tryz.func59,Tryz.ntmps59
 go_wp2_with (fail)
 refine Hc.out.mono ?_
 rintro e w4 ⟨row,D,rfl,hx,hP,hB⟩
 obtain⟨A2,m2,c2,rfl⟩:=ex_row6 hx
 have hk4:=on2_blk Hk3.out hB (by have:=Hz.out;omega)
 obtain⟨x0,x1,x2,x3,x4,x5,xl⟩:=cells6 hk4
 have f4:=hk4.frozen
 have H:=Lhd (And.intro hx (And.intro hP (And.intro hB hk4)))
 clear hx hP hB hk4
 go_wp2
 rw[lay6_eq]
 have hb7:=lay6_but w4 w.heap.size (.int .i64 fin.1.op) (.int .i64 fin.1.n) (.string fin.1.s) (.string fin.1.name) (.string fin.1.src) (.slice A2 m2 c2)
 have hk7:=lay6_blk (.int .i64 fin.1.op) (.int .i64 fin.1.n) (.string fin.1.s) (.string fin.1.name) (.string fin.1.src) (.slice A2 m2 c2) H.out.2.2.2
 generalize lay6 w4 w.heap.size (.int .i64 fin.1.op) (.int .i64 fin.1.n) (.string fin.1.s) (.string fin.1.name) (.string fin.1.src) (.slice A2 m2 c2)=w7 at *
 refine bodyPost_ret (v:=.agg #[.int .i64 fin.1.op,.int .i64 fin.1.n,.string fin.1.s,.string fin.1.name,.string fin.1.src,.slice A2 m2 c2]) (ret_ex Tryz.results59 rfl hk7 rfl) rfl ?_
 exact⟨_,D,rfl,fr_turn H.out.1 Hb3.out (by simp;omega) hb7,H.out.2.1.elsewhere hb7 (by have:=Hz.out;omega),((But.of_below Hb3.out).trans' H.out.2.2.1).trans hb7 (fun i hi=>.inr (by omega))⟩
theorem pExpr_any (gp gc gw:Nat) (W:Wds) (one:PSt→Ex×PSt) (m:Nat) (hm:m≤W.l.length+1) (hT:TakesE gp gc gw W 59 one m) (hU:Up one):TakesE gp gc gw W 24 (chain1 W lvOr one) m:=by
 intro s w h hf
 have hz:=h.lt
 have hb1:=(Below.refl w.heap.size w).alloc (Nat.le_refl _) (.cells zero6 32)
 have hk1:=IsBlk.laid w 32 zero6
 have hg1:gp<(w.alloc (.cells zero6 32)).heap.size∧gc<(w.alloc (.cells zero6 32)).heap.size:=by simp;omega
 obtain⟨hlv,hb2⟩:=lv_lit gp gc (w.alloc (.cells zero6 32)) lvOr 1 (w.heap.size+1) (w.heap.size+1+1) (by simp) (by simp) hg1 rfl (by decide)
 have hb3:=hb1.trans (hb2.mono (by simp))
 have hk3:=hk1.as_was (hb2.block _ (by simp))
 have hc:=pChain_both gp gc gw W s one m lvOr _ _ 1 _ _ _ (h.below hb3) hf hm hT hU hlv rfl (by unfold lvOr;decide)
 have Hb3:=Lhd hb3
 have Hk3:=Lhd hk3
 have Hz:=Lhd (And.intro hz.1 (And.intro hz.2 h.wl))
 clear hb3 hk3 hz h hf hT hU hb1 hk1 hg1 hlv hb2
 generalize chain1 W lvOr one s=fin at *
 simp only[lvOr,str,List.map_cons,List.map_nil] at hc Hb3 Hk3
 have Hc:=Lhd hc
 clear hc
 go_enter Tryz.func24,Tryz.ntmps24
 go_wp2_with (fail)
 refine Hc.out.mono ?_
 rintro e w4 ⟨row,D,rfl,hx,hP,hB⟩
 obtain⟨A2,m2,c2,rfl⟩:=ex_row6 hx
 have hk4:=on2_blk Hk3.out hB (by have:=Hz.out;omega)
 obtain⟨x0,x1,x2,x3,x4,x5,xl⟩:=cells6 hk4
 have f4:=hk4.frozen
 have H:=Lhd (And.intro hx (And.intro hP (And.intro hB hk4)))
 clear hx hP hB hk4
 go_wp2
 rw[lay6_eq]
 have hb7:=lay6_but w4 w.heap.size (.int .i64 fin.1.op) (.int .i64 fin.1.n) (.string fin.1.s) (.string fin.1.name) (.string fin.1.src) (.slice A2 m2 c2)
 have hk7:=lay6_blk (.int .i64 fin.1.op) (.int .i64 fin.1.n) (.string fin.1.s) (.string fin.1.name) (.string fin.1.src) (.slice A2 m2 c2) H.out.2.2.2
 generalize lay6 w4 w.heap.size (.int .i64 fin.1.op) (.int .i64 fin.1.n) (.string fin.1.s) (.string fin.1.name) (.string fin.1.src) (.slice A2 m2 c2)=w7 at *
 refine bodyPost_ret (v:=.agg #[.int .i64 fin.1.op,.int .i64 fin.1.n,.string fin.1.s,.string fin.1.name,.string fin.1.src,.slice A2 m2 c2]) (ret_ex Tryz.results24 rfl hk7 rfl) rfl ?_
 exact⟨_,D,rfl,fr_turn H.out.1 Hb3.out (by simp;omega) hb7,H.out.2.1.elsewhere hb7 (by have:=Hz.out;omega),((But.of_below Hb3.out).trans' H.out.2.2.1).trans hb7 (fun i hi=>.inr (by omega))⟩
end Go.Proofs.YtdgapmnojmhllaaGreatDoor

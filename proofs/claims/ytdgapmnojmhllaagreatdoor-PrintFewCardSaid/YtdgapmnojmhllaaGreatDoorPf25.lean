/- Parts of this proof, one behind the other: ParI, ParJ. -/
import Derived.Test.YtdgapmnojmhllaaGreatDoorPf24
set_option maxRecDepth 1000000
set_option maxHeartbeats 40000000
namespace Go.Proofs.YtdgapmnojmhllaaGreatDoor
open Go.RowKit Go.Afx
theorem notP_no {W:Wds} {E:PSt→Ex×PSt} {k:Nat} {s:PSt} (h:mayP W (str [110,111,116]) s=(false,s)):notP W E (k+1) s=cmpP W E s:=by unfold notP;simp[h]
theorem notP_yes {W:Wds} {E:PSt→Ex×PSt} {k:Nat} {s:PSt} (h:mayP W (str [110,111,116]) s=(true,s.on)):notP W E (k+1) s=(oneP 19 (notP W E k (enterP s.on)).1,leaveP (notP W E k (enterP s.on)).2):=by
 conv=>lhs;unfold notP
 simp[h]
theorem cmpP_eq (W:Wds) (E:PSt→Ex×PSt) (s:PSt):cmpP W E s=if (opP W lvCmp (sumP W E s).2).1=0 then ((sumP W E s).1,(opP W lvCmp (sumP W E s).2).2) else (twoP (opP W lvCmp (sumP W E s).2).1 (sumP W E s).1 (sumP W E (opP W lvCmp (sumP W E s).2).2).1,(sumP W E (opP W lvCmp (sumP W E s).2).2).2):=rfl
theorem pNot_cmp (gp gc gw:Nat) (W:Wds) (E:PSt→Ex×PSt) (m:Nat) (hS:TakesE gp gc gw W 146 (sumP W E) m) (hU:∀ s,Ge s (sumP W E s).2) (s:PSt) (w:World) (h:PAt gp gc gw W s w) (hf:Fit W m s) (hno:mayP W (str [110,111,116]) s=(false,s)) :
  Calls Tryz.prog 105 #[.pointer (some ⟨gp,0,none⟩)] w (GivesE gp gc gw W (cmpP W E s).2 (cmpP W E s).1 w):=by
 have hz:=And.intro h.lt.1 (And.intro h.lt.2 h.wl)
 have hb1:=(Below.refl w.heap.size w).alloc (Nat.le_refl _) (.cells zero6 32)
 have hk1:=IsBlk.laid w 32 zero6
 have hm:=pMay_any gp gc gw W s (str [110,111,116]) _ (h.below hb1)
 have hsz:(w.alloc (.cells zero6 32)).heap.size=w.heap.size+1:=by simp
 obtain⟨w1,Hw1⟩:∃ w1,Hid (w1=w.alloc (.cells zero6 32)):=⟨_,rfl⟩
 rw[← Hw1.out] at hb1 hk1 hm hsz
 have Hb1:=Lhd hb1
 have Hk1:=Lhd hk1
 have Hz:=Lhd hz
 rw[hno] at hm
 rw[cmpP_eq]
 have HS:=Lhd (fun w2 hW=>hS s w2 hW hf)
 have hfit:=hf.ge (hU s)
 have Hop:=Lhd (fun (A B:Option Addr) (w2:World) (hW:PAt gp gc gw W (sumP W E s).2 w2) (hl:LvAt gp gc w2 A 6 B 6 lvCmp)=>pOp_any gp gc gw W (sumP W E s).2 lvCmp A B 6 6 6 w2 hW hl rfl)
 have HS2:=Lhd (fun w2 hW=>hS (opP W lvCmp (sumP W E s).2).2 w2 hW (hfit.ge (up_op W lvCmp _)))
 have Hops:=Lhd (opP_cases W (sumP W E s).2 lvCmp)
 generalize sumP W E s=fin at *
 obtain⟨x,s2⟩:=fin
 simp only[str] at hm
 have Hm:=Lhd hm
 clear hb1 hk1 hz h hf hm hS hU hfit hno
 generalize hop:opP W lvCmp s2=r at *
 obtain⟨op,s3⟩:=r
 simp only at HS2 Hops Hop
 clear hop
 generalize hfin2:(if op=0 then (x,s3) else (twoP op x (sumP W E s3).1,(sumP W E s3).2))=fin2
 have Hfin2:=Lhd hfin2
 have Hsz:=Lhd hsz
 clear hfin2 hsz
 have hopb:op≠0→0≤op∧op≤100:=fun h0=>by
  rcases Hops.out with h1|⟨p,hp,h1,_⟩
  ·simp at h1;exact absurd h1.1 h0
  ·simp at h1
   have h2:∀ p∈lvCmp,0≤p.2∧p.2≤100:=by unfold lvCmp;decide
   rw[h1.1];exact h2 p hp
 have Hopb:=Lhd hopb
 clear hopb Hops
 go_enter Tryz.func105,Tryz.ntmps105
 go_upto_region 1 with (fail)
 rw[← Hw1.out]
 go_wp2_with (fail)
 refine Hm.out.mono ?_
 rintro e w2 ⟨rfl,hP,hB⟩
 have H2:=Lhd (And.intro hP hB)
 clear hP hB
 go_wp2_with (fail)
 refine(HS.out _ H2.out.1).mono ?_
 rintro e w3 ⟨row,D,rfl,hx,hP,hB⟩
 obtain⟨A2,m2,c2,rfl⟩:=ex_row6 hx
 have hB3:=H2.out.2.trans' hB
 have hs3:=hB3.size
 have hal:=(Below.refl w3.heap.size w3).alloc (Nat.le_refl _) (.cells #[.int .i64 x.op,.int .i64 x.n,.string x.s,.string x.name,.string x.src,.slice A2 m2 c2] 32)
 have hk3:IsBlk (w3.alloc (.cells #[.int .i64 x.op,.int .i64 x.n,.string x.s,.string x.name,.string x.src,.slice A2 m2 c2] 32)) w3.heap.size 32 #[.int .i64 x.op,.int .i64 x.n,.string x.s,.string x.name,.string x.src,.slice A2 m2 c2]:=IsBlk.laid _ _ _
 have hz3:gp<w3.heap.size∧gc<w3.heap.size∧gw<w3.heap.size:=by have:=Hz.out;have:=Hsz.out;omega
 have Hz3:=Lhd hz3
 have hxs:=ExAt.turn (F':=fun b=>w1.heap.size≤b∧b≠w3.heap.size) (fun k hk (hf:w2.heap.size≤k)=>by have:=H2.out.2.size;constructor<;>omega) (Kept.of_below hal) D (Nat.le_refl _) hx
 have H3:=Lhd (And.intro (hP.below hal) (And.intro hxs (And.intro (hB3.alloc (.cells #[.int .i64 x.op,.int .i64 x.n,.string x.s,.string x.name,.string x.src,.slice A2 m2 c2] 32)) (And.intro hk3 hs3))))
 clear hx hP hB hB3 hs3 hal hk3 hz3 hxs
 obtain⟨w4,Hw4⟩:∃ w4,Hid (w4=w3.alloc (.cells #[.int .i64 x.op,.int .i64 x.n,.string x.s,.string x.name,.string x.src,.slice A2 m2 c2] 32)):=⟨_,rfl⟩
 have hsz4:w4.heap.size=w3.heap.size+1:=by rw[Hw4.out];simp
 rw[← Hw4.out] at H3
 have Hsz4:=Lhd hsz4
 go_upto_region 4 with (fail)
 rw[← Hw4.out]
 have hlv0:=lv_lit gp gc w4 lvCmp 6 w4.heap.size (w4.heap.size+1) rfl rfl (by have:=Hz3.out;omega) rfl (by omega)
 clear hsz4
 have hal5:=hlv0.2.alloc (hlv0.2.size) (.cells #[.slice (some ⟨w4.heap.size,0,none⟩) 6 6,.slice (some ⟨w4.heap.size+1,0,none⟩) 6 6] 129)
 have hlv:=hlv0.1.but (But.of_below ((Below.refl _ _).alloc (Nat.le_refl _) (.cells #[.slice (some ⟨w4.heap.size,0,none⟩) 6 6,.slice (some ⟨w4.heap.size+1,0,none⟩) 6 6] 129)))
 have hop5:=Hop.out _ _ _ (H3.out.1.below hal5) hlv
 simp only[lvCmp,str,List.map_cons,List.map_nil] at hop5 hal5
 have Hop5:=Lhd hop5
 have Hal5:=Lhd hal5
 clear hop5 hal5 hlv hlv0
 go_wp2_with (fail)
 refine Hop5.out.mono ?_
 rintro e w6 ⟨rfl,hP,hB⟩
 have hB46:=(But.of_below Hal5.out).trans' hB
 have hk7:=on2_blk H3.out.2.2.2.1 hB46 (by have:=Hz3.out;omega)
 have hB6:=H3.out.2.2.1.trans' hB46
 have hk6:=on2_blk Hk1.out hB6 (by have:=Hz.out;omega)
 have hx6:=H3.out.2.1.kept (fr_on2 (gp:=gp) (gc:=gc) hB46 (fun k hk=>by have:=Hz.out;have:=Hsz.out;have:=hk.1;omega))
 have H6:=Lhd (And.intro hP (And.intro hB6 (And.intro hk6 (And.intro hk7 hx6))))
 obtain⟨x0,x1,x2,x3,x4,x5,xl⟩:=cells6 hk6
 obtain⟨y0,y1,y2,y3,y4,y5,yl⟩:=cells6 hk7
 have f6:=hk6.frozen
 clear hP hB hB46 hk7 hB6 hk6 hx6
 rcases Classical.em (op=0) with h0|h0
 ·have hf0:=Hfin2.out
  rw[if_pos h0] at hf0
  subst h0 hf0
  have H:=Lhd (gives_of (w3:=w1) (ExAt.conv (F':=Fr w1) (fun k hk=>hk.1) (Kept.refl _ _) D (Nat.le_refl _) H6.out.2.2.2.2) H6.out.1 ((But.of_below Hb1.out).trans' H6.out.2.1) H6.out.2.2.1 (Nat.le_refl _) (by have:=Hsz.out;omega) Hz.out)
  go_wp2
  rw[lay6_eq]
  exact bodyPost_ret (ret_ex Tryz.results105 rfl H.out.1 rfl) rfl H.out.2
 ·have hf0:=Hfin2.out
  rw[if_neg h0] at hf0
  subst hf0
  have q0:(op !=0)=true:=by simpa using h0
  have Ho:=Lhd (Hopb.out h0)
  clear h0
  go_upto_region 7 with (fail)
  have Hd:=Lhd (And.intro (show PAt gp gc gw W s3 w6.drew from H6.out.1.below (Below.refl _ _).drew) (And.intro (show IsBlk w6.drew w3.heap.size 32 #[.int .i64 x.op,.int .i64 x.n,.string x.s,.string x.name,.string x.src,.slice A2 m2 c2] from H6.out.2.2.2.1) (show IsBlk w6.drew w.heap.size 32 zero6 from H6.out.2.2.1)))
  have HX2:=Lhd (show ExAt (fun b=>w1.heap.size≤b∧b≠w3.heap.size) D w6.drew [.int .i64 x.op,.int .i64 x.n,.string x.s,.string x.name,.string x.src,.slice A2 m2 c2] x from H6.out.2.2.2.2.below (Below.refl _ _).drew)
  have hzr:w1.heap.size≤w6.drew.heap.size∧w3.heap.size<w6.drew.heap.size:=⟨H6.out.2.1.size,H6.out.2.2.2.1.lt⟩
  have Hzr:=Lhd hzr
  have hFC:∀ k,w1.heap.size≤k∧k≠w3.heap.size→gp<k∧gc<k:=fun k hk=>by have:=Hz.out;have:=Hsz.out;omega
  have HFC:=Lhd hFC
  have Htwo:=Lhd (fun (W2:World) (D2:Nat) (b:Ex) (rb:List Value) (hB2:But (On2 gp gc) w6.drew W2) (hb:ExAt (Fr w6.drew) D2 W2 rb b)=>pTwo_any (fun b=>w1.heap.size≤b∧b≠w3.heap.size) (max D D2) op x b [.int .i64 x.op,.int .i64 x.n,.string x.s,.string x.name,.string x.src,.slice A2 m2 c2] rb W2 Ho.out.1 Ho.out.2
   (ExAt.conv (fun _ h=>h) (fr_on2 hB2 HFC.out) D (Nat.le_max_left _ _) HX2.out) (ExAt.conv (fun k (hk:w6.drew.heap.size≤k)=>by have:=Hzr.out;constructor<;>omega) (Kept.refl _ _) D2 (Nat.le_max_right _ _) hb) (fun k hk=>by have:=Hzr.out;have:=hB2.size;constructor<;>omega))
  clear hzr hFC
  go_region_with (first
   | (go_at_call 146;refine(HS2.out _ Hd.out.1).mono ?_;rintro e7 w7 ⟨row7,D7,rfl,hx7,hP7,hB7⟩;obtain⟨A7,m7,c7,rfl⟩:=ex_row6 hx7;obtain⟨z0,z1,z2,z3,z4,z5,zl⟩:=cells6 (on2_blk Hd.out.2.1 hB7 (by have:=Hz3.out;omega)))
   | (go_at_call 104;refine(Htwo.out _ _ _ _ hB7 hx7).mono ?_;rintro e8 w8 ⟨row8,rfl,hx8,hb8⟩;obtain⟨A8,m8,c8,rfl⟩:=ex_row6 hx8;have hk78:=on2_blk Hd.out.2.2 hB7 (by have:=Hz.out;omega);have hk88:=hk78.as_was (hb8.block _ hk78.lt);obtain⟨v0,v1,v2,v3,v4,v5,vl⟩:=cells6 hk88;have f88:=hk88.frozen;have hB68:=(H6.out.2.1.drew).trans' (hB7.trans' (But.of_below hb8));have H8:=Lhd (gives_of (w3:=w1) (ExAt.conv (F':=Fr w1) (fun k hk=>hk.1) (Kept.refl _ _) _ (Nat.le_refl _) hx8) (hP7.below hb8) ((But.of_below Hb1.out).trans' hB68) hk88 (Nat.le_refl _) (by have:=Hsz.out;omega) Hz.out)))
  all_goals
   clear hP7 hB7 hx7 hb8 hx8 hk78 hk88 hB68
   go_wp2
   rw[lay6_eq]
   exact bodyPost_ret (ret_ex Tryz.results105 rfl H8.out.1 rfl) rfl H8.out.2
theorem pNot_fuel (gp gc gw:Nat) (W:Wds) (E:PSt→Ex×PSt) (m:Nat) (hS:TakesE gp gc gw W 146 (sumP W E) m) (hU:∀ s,Ge s (sumP W E s).2):∀ (k:Nat),1≤k→∀ (s:PSt) (w:World),PAt gp gc gw W s w→Fit W k s→Fit W m s →
  Calls Tryz.prog 105 #[.pointer (some ⟨gp,0,none⟩)] w (GivesE gp gc gw W (notP W E k s).2 (notP W E k s).1 w):=by
 intro k
 induction k with
 | zero=>intro h;omega
 | succ k ih =>
  intro _ s w h hf hfm
  have hz:=And.intro h.lt.1 (And.intro h.lt.2 h.wl)
  have hb1:=(Below.refl w.heap.size w).alloc (Nat.le_refl _) (.cells zero6 32)
  have hk1:=IsBlk.laid w 32 zero6
  have hm:=pMay_any gp gc gw W s (str [110,111,116]) _ (h.below hb1)
  have hsz:(w.alloc (.cells zero6 32)).heap.size=w.heap.size+1:=by simp
  obtain⟨w1,Hw1⟩:∃ w1,Hid (w1=w.alloc (.cells zero6 32)):=⟨_,rfl⟩
  rw[← Hw1.out] at hb1 hk1 hm hsz
  have Hb1:=Lhd hb1
  have Hk1:=Lhd hk1
  have Hz:=Lhd hz
  rcases may_cases W (str [110,111,116]) s with hc|⟨hc,hbad,hat⟩
  ·rw[notP_no hc]
   exact pNot_cmp gp gc gw W E m hS hU s w h hfm hc
  ·rw[hc] at hm
   rw[notP_yes hc]
   simp only[str] at hm
   have hf1:Fit W k s.on:=Fit.on hf
   have hk0:1≤k:=by
    rcases hf1 with h1|h1
    ·rw[show s.on.bad=s.bad from rfl,hbad] at h1;cases h1
    ·have:s.on.at_=s.at_+1:=rfl
     omega
   have hih:=fun w2 hW=>ih hk0 (enterP s.on) w2 hW (hf1.ge (ge_enter _)) ((hfm.ge (ge_on s)).ge (ge_enter _))
   have Ha:=Lhd (fun w2 hW=>pAhead_not gp gc gw W (notP W E k) s.on 19 w2 hW (by omega) (by omega) hih)
   have Hm:=Lhd hm
   clear hb1 hk1 hz h hf hfm hm hc ih hS hih hf1 hk0
   generalize notP W E k (enterP s.on)=fin at *
   go_enter Tryz.func105,Tryz.ntmps105
   go_upto_region 1 with (fail)
   rw[← Hw1.out]
   go_wp2_with (fail)
   refine Hm.out.mono ?_
   rintro e w2 ⟨rfl,hP,hB⟩
   have H2:=Lhd (And.intro hP hB)
   clear hP hB
   go_wp2_with (fail)
   refine(Ha.out _ H2.out.1).mono ?_
   rintro e w3 ⟨row,D,rfl,hx,hP,hB⟩
   obtain⟨A2,m2,c2,rfl⟩:=ex_row6 hx
   have hB3:=H2.out.2.trans' hB
   have hk3:=on2_blk Hk1.out hB3 (by have:=Hz.out;omega)
   obtain⟨x0,x1,x2,x3,x4,x5,xl⟩:=cells6 hk3
   have f3:=hk3.frozen
   have hs:=H2.out.2.size
   have H:=Lhd (gives_of hx hP ((But.of_below Hb1.out).trans' hB3) hk3 (Nat.le_refl _) (by omega) Hz.out)
   clear hx hP hB hB3 hk3 hs
   go_wp2
   rw[lay6_eq]
   exact bodyPost_ret (ret_ex Tryz.results105 rfl H.out.1 rfl) rfl H.out.2
theorem pNot_any (gp gc gw:Nat) (W:Wds) (E:PSt→Ex×PSt) (m:Nat) (hS:TakesE gp gc gw W 146 (sumP W E) m) (hU:∀ s,Ge s (sumP W E s).2):TakesE gp gc gw W 105 (notP W E W.fuel) m :=
 fun s w h hf=>pNot_fuel gp gc gw W E m hS hU W.fuel (by unfold Wds.fuel;omega) s w h (fit_all W s) hf
end Go.Proofs.YtdgapmnojmhllaaGreatDoor

/- Parts of this proof, one behind the other: ParB, ParC, ParD. -/
import Derived.Test.YtdgapmnojmhllaaGreatDoorPf19
import Derived.Test.YtdgapmnojmhllaaGreatDoorPf4
import Derived.Deep.Cut
import Derived.Deep.RegionHeld3
import Derived.Deep.RegionWith
set_option maxRecDepth 1000000
set_option maxHeartbeats 40000000
namespace Go.Proofs.YtdgapmnojmhllaaGreatDoor
open Go.RowKit Go.Afx
def Off (gp gc:Nat):Nat→Prop:=fun b=>b≠gp∧b≠gc
def On2 (gp gc:Nat):Nat→Prop:=fun b=>b=gp∨b=gc
structure PAt (gp gc gw:Nat) (W:Wds) (s:PSt) (w:World):Prop where
 blk:IsBlk w gp 123 #[.pointer (some ⟨gc,0,none⟩),.int .i64 s.deep,.bool s.over,.bool s.bad]
 cu:CuAt (fun b=>b=gw) gc W s.at_ w
 ne:gp≠gc
 nw:gw≠gp
 wl:gw<w.heap.size
section
variable {gp gc gw:Nat} {W:Wds} {s s':PSt} {w w':World}
theorem PAt.below (h:PAt gp gc gw W s w) (hb:Below w.heap.size w w'):PAt gp gc gw W s w':=⟨h.blk.as_was (hb.block _ h.blk.lt),h.cu.below hb,h.ne,h.nw,Nat.lt_of_lt_of_le h.wl hb.size⟩
theorem PAt.lt (h:PAt gp gc gw W s w):gp<w.heap.size∧gc<w.heap.size:=⟨h.blk.lt,h.cu.lt⟩
theorem PAt.elsewhere (h:PAt gp gc gw W s w) {g:Nat} (hb:But (fun k=>k=g) w w') (hg:gp<g∧gc<g∧gw<g):PAt gp gc gw W s w':=by
 obtain⟨⟨A,n,c,hk2,hl⟩,h1,h2,h3,h4⟩:=h.cu
 exact⟨h.blk.as_was (hb.block _ h.blk.lt (by omega)),⟨⟨A,n,c,hk2.as_was (hb.block _ hk2.lt (by omega)),hl.kept (Kept.of_but hb fun k hf e=>by omega)⟩,h1,h2,h3,h4⟩,h.ne,h.nw,Nat.lt_of_lt_of_le h.wl hb.size⟩
theorem PAt.own (h:PAt gp gc gw W s w) (hb:But (fun k=>k=gp) w w') (hk:IsBlk w' gp 123 #[.pointer (some ⟨gc,0,none⟩),.int .i64 s'.deep,.bool s'.over,.bool s'.bad]) (ha:s'.at_=s.at_):PAt gp gc gw W s' w':=by
 obtain⟨⟨A,n,c,hk2,hl⟩,h1,h2,h3,h4⟩:=h.cu
 refine⟨hk,⟨⟨A,n,c,?_,hl.kept (Kept.of_but hb fun k hf e=>h.nw (hf.symm.trans e))⟩,by rw[ha];exact h1,h2,h3,h4⟩,h.ne,h.nw,Nat.lt_of_lt_of_le h.wl hb.size⟩
 rw[ha]
 exact hk2.as_was (hb.block _ hk2.lt fun e=>h.ne e.symm)
theorem PAt.cursor (h:PAt gp gc gw W s w) (hb:But (fun k=>k=gc) w w') (hc:CuAt (fun b=>b=gw) gc W s'.at_ w') (hd:s'.deep=s.deep) (ho:s'.over=s.over) (hx:s'.bad=s.bad):PAt gp gc gw W s' w':=by
 refine⟨?_,hc,h.ne,h.nw,Nat.lt_of_lt_of_le h.wl hb.size⟩
 rw[hd,ho,hx]
 exact h.blk.as_was (hb.block _ h.blk.lt h.ne)
theorem PAt.okw (h:PAt gp gc gw W s w) (i:Nat):okW (W.look i):=by
 obtain⟨⟨A,n,c,hk2,hl⟩,h1,h2,h3,h4⟩:=h.cu
 have hn:=hl.len
 rcases Nat.lt_or_ge i n with hi|hi
 ·obtain⟨b,o,r,x,_,_,_,hx,_,⟨_,hok⟩,_⟩:=hl.get hi
  rw[look_in hx];exact hok
 ·rw[look_end (by omega)]
  exact⟨by constructor<;>simp,by unfold okS;exact Nat.zero_le _,by constructor<;>simp,h3⟩
end
theorem sub2l {gp gc:Nat} {w w':World} (h:But (fun k=>k=gp) w w'):But (On2 gp gc) w w':=h.mono fun _ hi=>.inl (.inl hi)
theorem sub2r {gp gc:Nat} {w w':World} (h:But (fun k=>k=gc) w w'):But (On2 gp gc) w w':=h.mono fun _ hi=>.inl (.inr hi)
theorem pFail_any (gp gc gw:Nat) (W:Wds) (s:PSt) (w:World) (h:PAt gp gc gw W s w) :
  Calls Tryz.prog 128 #[.pointer (some ⟨gp,0,none⟩)] w fun e w'=>e=.returned (.tuple #[])∧PAt gp gc gw W s.fail w'∧But (On2 gp gc) w w':=by
 obtain⟨c0,c1,c2,c3,hg⟩:=cells4 h.blk
 have hfz:=h.blk.frozen
 have Hh:=Lhd h
 clear h
 go_enter Tryz.func128,Tryz.ntmps128
 go_wp2
 go_end0
 have hb:=(But.refl (fun k=>k=gp) w).setCell (p:=⟨gp,3,none⟩) (.inl rfl) (.bool true)
 exact⟨rfl,Hh.out.own hb (Hh.out.blk.stored 3 _) rfl,sub2l hb⟩
theorem pLeave_any (gp gc gw:Nat) (W:Wds) (s:PSt) (w:World) (h:PAt gp gc gw W s w) :
  Calls Tryz.prog 83 #[.pointer (some ⟨gp,0,none⟩)] w fun e w'=>e=.returned (.tuple #[])∧PAt gp gc gw W (leaveP s) w'∧But (On2 gp gc) w w':=by
 obtain⟨c0,c1,c2,c3,hg⟩:=cells4 h.blk
 have hfz:=h.blk.frozen
 have Hh:=Lhd h
 clear h
 go_enter Tryz.func83,Tryz.ntmps83
 go_wp2
 go_end0
 have hb:=(But.refl (fun k=>k=gp) w).setCell (p:=⟨gp,1,none⟩) (.inl rfl) (.int .i64 (wrap64 (s.deep-1)))
 exact⟨rfl,Hh.out.own (s':=leaveP s) hb (Hh.out.blk.stored 1 _) rfl,sub2l hb⟩
theorem pEnter_any (gp gc gw:Nat) (W:Wds) (s:PSt) (w:World) (h:PAt gp gc gw W s w) :
  Calls Tryz.prog 78 #[.pointer (some ⟨gp,0,none⟩)] w fun e w'=>e=.returned (.tuple #[])∧PAt gp gc gw W (enterP s) w'∧But (On2 gp gc) w w':=by
 obtain⟨c0,c1,c2,c3,hg⟩:=cells4 h.blk
 have hfz:=h.blk.frozen
 have hb:=(But.refl (fun k=>k=gp) w).setCell (p:=⟨gp,1,none⟩) (.inl rfl) (.int .i64 (wrap64 (s.deep+1)))
 have h1:PAt gp gc gw W (upP s) _:=h.own (s':=upP s) hb (h.blk.stored 1 _) rfl
 have hb2:=hb.setCell (p:=⟨gp,2,none⟩) (.inl rfl) (.bool true)
 have h2:PAt gp gc gw W { upP s with over:=true } _:=h1.own (s':={ upP s with over:=true }) ((But.refl (fun k=>k=gp) _).setCell (p:=⟨gp,2,none⟩) (.inl rfl) (.bool true)) (h1.blk.stored 2 _) rfl
 have Hf:=Lhd (pFail_any gp gc gw W _ _ h2)
 have H1:=Lhd h1
 have Hb:=Lhd hb
 have Hb2:=Lhd hb2
 clear h h1 h2 hb hb2
 unfold enterP
 have e1:(upP s).deep=wrap64 (s.deep+1):=rfl
 rw[e1]
 clear e1
 rcases Classical.em (60<wrap64 (s.deep+1)) with hd|hd
 ·have q1:decide ((60:Int)<wrap64 (s.deep+1))=true:=by simpa using hd
  cases hbad:s.bad with
  | true =>
   rw[hbad] at c3
   rw[q1]
   simp only[Bool.not_true,Bool.and_false,Bool.false_eq_true,if_false]
   clear hbad
   go_enter Tryz.func78,Tryz.ntmps78
   go_wp2
   go_end0
   exact⟨rfl,H1.out,sub2l Hb.out⟩
  | false =>
   rw[hbad] at c3
   rw[q1]
   simp only[Bool.not_false,Bool.and_true,if_true]
   clear hbad
   go_enter Tryz.func78,Tryz.ntmps78
   go_wp2_with (go_at_call 128;refine Hf.out.mono ?_;rintro e w2 ⟨rfl,h3,hb3⟩)
   go_end0
   exact⟨rfl,h3,(sub2l Hb2.out).trans' hb3⟩
 ·have q1:decide ((60:Int)<wrap64 (s.deep+1))=false:=by simpa using hd
  rw[q1]
  simp only[Bool.false_and,Bool.false_eq_true,if_false]
  go_enter Tryz.func78,Tryz.ntmps78
  go_wp2
  go_end0
  exact⟨rfl,H1.out,sub2l Hb.out⟩
theorem pMay_any (gp gc gw:Nat) (W:Wds) (s:PSt) (t:ByteArray) (w:World) (h:PAt gp gc gw W s w) :
  Calls Tryz.prog 84 #[.pointer (some ⟨gp,0,none⟩),.string t] w fun e w'=>e=.returned (.bool (mayP W t s).1)∧PAt gp gc gw W (mayP W t s).2 w'∧But (On2 gp gc) w w':=by
 obtain⟨c0,c1,c2,c3,hg⟩:=cells4 h.blk
 have hb1:=(Below.refl w.heap.size w).alloc (Nat.le_refl _) (.cells #[.string t] 9)
 have h1:=h.below hb1
 have ht:=take_any1 (fun b=>b=gw) gc s.at_ W (some ⟨w.heap.size,0,none⟩) 1 t _ h1.cu (TxsAt.lit 9 [t] 1 rfl rfl (by omega))
 have H1:=Lhd h1
 have Hb1:=Lhd hb1
 unfold mayP isP
 generalize hv:(W.look s.at_).says t=v at *
 have Ht:=Lhd ht
 have Hh:=Lhd h
 clear ht hb1 h1 h hv
 cases hbad:s.bad with
 | true =>
  rw[hbad] at c3
  simp only[Bool.not_true,Bool.false_and,Bool.false_eq_true,if_false]
  clear hbad
  go_enter Tryz.func84,Tryz.ntmps84
  go_wp2
  go_ret
  exact⟨rfl,Hh.out,But.refl _ _⟩
 | false =>
  rw[hbad] at c3
  have Hbad:=Lhd hbad
  clear hbad
  cases v with
  | false =>
   simp only[Bool.and_false,Bool.false_eq_true,if_false]
   go_enter Tryz.func84,Tryz.ntmps84
   go_wp2_with (go_at_call 127;refine Ht.out.mono ?_;rintro e w2 ⟨rfl,h3,hb3⟩)
   have H3:=Lhd (And.intro h3 hb3)
   clear h3 hb3
   go_wp2
   go_ret
   exact⟨rfl,H1.out.cursor H3.out.2 (by simpa using H3.out.1) rfl rfl rfl,(But.of_below Hb1.out).trans' (sub2r (gp:=gp) H3.out.2)⟩
  | true =>
   simp only[Bool.not_false,Bool.and_true,if_true]
   go_enter Tryz.func84,Tryz.ntmps84
   go_wp2_with (go_at_call 127;refine Ht.out.mono ?_;rintro e w2 ⟨rfl,h3,hb3⟩)
   have H3:=Lhd (And.intro h3 hb3)
   clear h3 hb3
   go_wp2
   go_ret
   exact⟨rfl,H1.out.cursor (s':=s.on) H3.out.2 (by simpa [PSt.on] using H3.out.1) rfl rfl rfl,(But.of_below Hb1.out).trans' (sub2r (gp:=gp) H3.out.2)⟩
theorem On2.alloc {gp gc:Nat} {w w':World} (o:Obj) (h:But (On2 gp gc) (w.alloc o) w'):But (On2 gp gc) w w':=(But.of_below ((Below.refl _ _).alloc (Nat.le_refl _) o)).trans' h
theorem pMust_any (gp gc gw g:Nat) (W:Wds) (s:PSt) (t:ByteArray) (w:World) (h:PAt gp gc gw W s w) (hgs:g=w.heap.size) :
  Calls Tryz.prog 76 #[.pointer (some ⟨gp,0,none⟩),.slice (some ⟨g,0,none⟩) 1 1] (w.alloc (.cells #[.string t] 9)) fun e w'=>e=.returned (.tuple #[])∧PAt gp gc gw W (mustP W [t] s) w'∧But (On2 gp gc) w w':=by
 have hb1:=(Below.refl w.heap.size w).alloc (Nat.le_refl _) (.cells #[.string t] 9)
 have hz1:=hb1.size
 obtain⟨w1,Hw1⟩:∃ w1,Hid (w1=w.alloc (.cells #[.string t] 9)):=⟨_,rfl⟩
 have h1:=h.below hb1
 have hk1:=IsBlk.laid w 9 #[.string t]
 rw[← Hw1.out] at hb1 h1 hk1 ⊢
 rw[← hgs] at hk1
 have hc1:w1.cell? ⟨g,0,none⟩=some (.string t):=by have:=hk1.cell 0;simpa using this
 have hlt1:=hk1.lt
 obtain⟨c0,c1,c2,c3,hg⟩:=cells4 h1.blk
 have hb2:=(Below.refl w1.heap.size w1).alloc (Nat.le_refl _) (.cells #[.string t] 9)
 have h2:=h1.below hb2
 have ht:=take_any1 (fun b=>b=gw) gc s.at_ W (some ⟨w1.heap.size,0,none⟩) 1 t _ h2.cu (TxsAt.lit 9 [t] 1 rfl rfl (by omega))
 have Hf1:=Lhd (pFail_any gp gc gw W s w1 h1)
 have Hf2:=Lhd (fun w2 (hW:PAt gp gc gw W s w2)=>pFail_any gp gc gw W s w2 hW)
 have H1:=Lhd h1
 have H2:=Lhd h2
 have Hb1:=Lhd hb1
 have Hb2:=Lhd hb2
 unfold mustP mustP mayP isP
 generalize hv:(W.look s.at_).says t=v at *
 have Ht:=Lhd ht
 clear ht hb1 hb2 h1 h2 h hv hk1 hz1 hgs
 cases hbad:s.bad with
 | true =>
  rw[hbad] at c3
  simp only[Bool.not_true,Bool.false_and,Bool.false_eq_true,if_false]
  clear hbad
  go_enter Tryz.func76,Tryz.ntmps76
  go_wp2
  refine wp_loop_rounds 2 ?_
  rw[rounds_succ]
  go_wp2_with (go_at_call 128;refine Hf1.out.mono ?_;rintro e w2 ⟨rfl,h3,hb3⟩)
  have H3:=Lhd (And.intro h3 hb3)
  clear h3 hb3
  go_wp2
  refine bodyPost_ret (results_none rfl _ _ _) rfl ?_
  exact⟨rfl,H3.out.1,(But.of_below Hb1.out).trans' H3.out.2⟩
 | false =>
  rw[hbad] at c3
  clear hbad
  cases v with
  | false =>
   simp only[Bool.and_false,Bool.false_eq_true,if_false]
   go_enter Tryz.func76,Tryz.ntmps76
   go_wp2
   refine wp_loop_rounds 2 ?_
   rw[rounds_succ]
   go_wp2_with (go_at_call 127;refine Ht.out.mono ?_;rintro e w2 ⟨rfl,h3,hb3⟩)
   have H3:=Lhd (And.intro (H2.out.cursor (s':=s) hb3 (by simpa using h3) rfl rfl rfl) ((But.of_below Hb1.out).trans' ((But.of_below Hb2.out).trans' (sub2r (gp:=gp) hb3))))
   clear h3 hb3
   go_wp2_with (go_at_call 128;refine(Hf2.out _ H3.out.1).mono ?_;rintro e w3 ⟨rfl,h4,hb4⟩)
   have H4:=Lhd (And.intro h4 (H3.out.2.trans' hb4))
   clear h4 hb4
   go_wp2
   refine bodyPost_ret (results_none rfl _ _ _) rfl ?_
   exact⟨rfl,H4.out.1,H4.out.2⟩
  | true =>
   simp only[Bool.not_false,Bool.and_true,if_true]
   go_enter Tryz.func76,Tryz.ntmps76
   go_wp2
   refine wp_loop_rounds 2 ?_
   rw[rounds_succ]
   go_wp2_with (go_at_call 127;refine Ht.out.mono ?_;rintro e w2 ⟨rfl,h3,hb3⟩)
   have H3:=Lhd (And.intro (H2.out.cursor (s':=s.on) hb3 (by simpa [PSt.on] using h3) rfl rfl rfl) ((But.of_below Hb1.out).trans' ((But.of_below Hb2.out).trans' (sub2r (gp:=gp) hb3))))
   clear h3 hb3
   rw[rounds_succ]
   go_wp2
   go_end0
   exact⟨rfl,H3.out.1,H3.out.2⟩
theorem word_new (w:World):IsBlk (w.alloc (.cells #[.int .i64 0,.string ⟨#[]⟩,.int .i64 0,.int .i64 0] 125)) w.heap.size 125 #[.int .i64 0,.string ⟨#[]⟩,.int .i64 0,.int .i64 0]:=IsBlk.laid _ _ _
theorem pNumber_any (gp gc gw:Nat) (W:Wds) (s:PSt) (w:World) (h:PAt gp gc gw W s w) :
  Calls Tryz.prog 85 #[.pointer (some ⟨gp,0,none⟩)] w fun e w'=>e=.returned (.int .i64 (numP W s).1)∧PAt gp gc gw W (numP W s).2 w'∧But (On2 gp gc) w w':=by
 obtain⟨c0,c1,c2,c3,hg⟩:=cells4 h.blk
 have hk:=kind_any (fun b=>b=gw) gc s.at_ 1 W w h.cu (by omega)
 have Hh:=Lhd h
 unfold numP
 have Hf:=Lhd (fun w2 (hW:PAt gp gc gw W s w2)=>pFail_any gp gc gw W s w2 hW)
 generalize hx:W.look s.at_=x at *
 obtain⟨xk,xs,xn,xa⟩:=x
 have hk:Calls Tryz.prog 130 #[.pointer (some ⟨gc,0,none⟩),.int .i64 1] w fun e w'=>e=.returned (.tuple #[.agg (if xk=1 then wrow ⟨xk,xs,xn,xa⟩ else [.int .i64 0,.string ⟨#[]⟩,.int .i64 0,.int .i64 0]).toArray,.bool (decide (xk=1))]) ∧
   CuAt (fun b=>b=gw) gc W (if xk=1 then s.at_+1 else s.at_) w'∧But (fun k=>k=gc) w w':=hk
 clear h hx
 cases hbad:s.bad with
 | true =>
  rw[hbad] at c3
  clear hbad hk
  simp only[if_true]
  go_enter Tryz.func85,Tryz.ntmps85
  go_wp2
  go_ret
  exact⟨rfl,Hh.out,But.refl _ _⟩
 | false =>
  rw[hbad] at c3
  clear hbad
  simp only[Bool.false_eq_true,if_false]
  show Calls _ _ _ _ fun e w'=>e=.returned (.int .i64 (if xk=1 then (xn,s.on) else (0,s.fail)).1)∧PAt gp gc gw W (if xk=1 then (xn,s.on) else (0,s.fail)).2 w'∧But (On2 gp gc) w w'
  rcases Classical.em (xk=1) with he|he
  ·simp only[if_pos he,decide_eq_true he] at hk ⊢
   unfold wrow at hk
   have Hk:=Lhd hk
   clear hk he
   go_enter Tryz.func85,Tryz.ntmps85
   go_wp2_with (go_at_call 130;refine Hk.out.mono ?_;rintro e w2 ⟨rfl,h3,hb3⟩)
   have H3:=Lhd (And.intro h3 hb3)
   clear h3 hb3
   go_wp2
   go_ret
   exact⟨rfl,(Hh.out.cursor (s':=s.on) H3.out.2 (by simpa [PSt.on] using H3.out.1) rfl rfl rfl).below ((Below.refl _ _).alloc (Nat.le_refl _) _),(sub2r (gp:=gp) H3.out.2).alloc _⟩
  ·simp only[if_neg he,decide_eq_false he] at hk ⊢
   have Hk:=Lhd hk
   clear hk he
   go_enter Tryz.func85,Tryz.ntmps85
   go_wp2_with (go_at_call 130;refine Hk.out.mono ?_;rintro e w2 ⟨rfl,h3,hb3⟩)
   have h4:=(Hh.out.cursor (s':=s) hb3 (by simpa using h3) rfl rfl rfl).below ((Below.refl _ _).alloc (Nat.le_refl _) (.cells #[.int .i64 0,.string ⟨#[]⟩,.int .i64 0,.int .i64 0] 125))
   have H4:=Lhd (And.intro h4 ((sub2r (gp:=gp) hb3).alloc (.cells #[.int .i64 0,.string ⟨#[]⟩,.int .i64 0,.int .i64 0] 125)))
   have hk5:=word_new w2
   have hne:w2.heap.size≠gp∧w2.heap.size≠gc:=by
    have:=Hh.out.lt;have:=hb3.size
    constructor<;>omega
   clear h3 hb3 h4
   refine(Hf.out _ H4.out.1).mono ?_
   rintro e w3 ⟨rfl,h4,hb4⟩
   obtain⟨k0,k1,k2,k3,klt⟩:=cells4 (hk5.as_was (hb4.block _ hk5.lt (by rintro(e|e);exact hne.1 e;exact hne.2 e)))
   have H5:=Lhd (And.intro h4 (H4.out.2.trans' hb4))
   clear h4 hb4 hk5 hne
   go_wp2
   go_ret
   exact⟨rfl,H5.out.1,H5.out.2⟩
open Go.RowKit Go.Afx
theorem pName_any (gp gc gw:Nat) (W:Wds) (s:PSt) (w:World) (h:PAt gp gc gw W s w) :
  Calls Tryz.prog 77 #[.pointer (some ⟨gp,0,none⟩)] w fun e w'=>e=.returned (.string (nameP W s).1)∧PAt gp gc gw W (nameP W s).2 w'∧But (On2 gp gc) w w':=by
 obtain⟨c0,c1,c2,c3,hg⟩:=cells4 h.blk
 have hwd:=word_any (fun b=>b=gw) gc s.at_ W w h.cu
 have Hk0:=Lhd (fun w2 (hW:PAt gp gc gw W s w2)=>kind_any (fun b=>b=gw) gc s.at_ 3 W w2 hW.cu (by omega))
 have Hf:=Lhd (fun w2 (hW:PAt gp gc gw W s w2)=>pFail_any gp gc gw W s w2 hW)
 unfold nameP
 generalize hx:W.look s.at_=x at *
 obtain⟨xk,xs,xn,xa⟩:=x
 have Hres:=Lhd (fun w=>reserved_any xs w)
 unfold wrow at hwd
 have Hwd:=Lhd hwd
 have Hk:Hid (∀ w2,PAt gp gc gw W s w2→Calls Tryz.prog 130 #[.pointer (some ⟨gc,0,none⟩),.int .i64 3] w2 fun e w'=>e=.returned (.tuple #[.agg (if xk=3 then [.int .i64 xk,.string xs,.int .i64 xn,.int .i64 xa] else [.int .i64 0,.string ⟨#[]⟩,.int .i64 0,.int .i64 0]).toArray,.bool (decide (xk=3))]) ∧
   CuAt (fun b=>b=gw) gc W (if xk=3 then s.at_+1 else s.at_) w'∧But (fun k=>k=gc) w2 w'):=Hk0
 clear Hk0
 have Hh:=Lhd h
 have hlt:=h.lt
 clear h hx hwd
 show Calls _ _ _ _ fun e w'=>e=.returned (.string (if s.bad||!decide (xk=3)||resB xs then ((⟨#[]⟩:ByteArray),s.fail) else (xs,s.on)).1)∧PAt gp gc gw W (if s.bad||!decide (xk=3)||resB xs then ((⟨#[]⟩:ByteArray),s.fail) else (xs,s.on)).2 w'∧But (On2 gp gc) w w'
 clear hlt
 obtain⟨bad,hbad⟩:∃ b,s.bad=b:=⟨_,rfl⟩
 rw[hbad]
 have Hbad:=Lhd hbad
 clear hbad c0 c1 c2 c3
 obtain⟨c0,c1,c2,c3,_⟩:=cells4 Hh.out.blk
 rw[Hbad.out] at c3
 cases bad with
 | true =>
  simp only[Bool.true_or,if_true]
  go_enter Tryz.func77,Tryz.ntmps77
  go_wp2_with (go_at_call 57;refine Hwd.out.mono ?_;rintro e w2 ⟨rfl,hb2⟩;obtain⟨d0,d1,d2,d3,dg⟩:=cells4 (Hh.out.below hb2).blk;rw[Hbad.out] at d3)
  have hb3:=hb2.alloc hb2.size (.cells #[.int .i64 xk,.string xs,.int .i64 xn,.int .i64 xa] 125)
  refine(Hf.out _ (Hh.out.below hb3)).mono ?_
  rintro e w3 ⟨rfl,h3,hb4⟩
  have H5:=Lhd (And.intro h3 ((But.of_below hb3).trans' hb4))
  clear hb2 hb3 hb4 h3
  go_wp2
  go_ret
  exact⟨rfl,H5.out.1,H5.out.2⟩
 | false =>
  simp only[Bool.false_or]
  rcases Classical.em (xk=3) with he|he
  ·subst he
   simp only[decide_true,Bool.not_true,Bool.false_or,if_true] at Hk ⊢
   have hres:=Hres.out
   generalize hr:resB xs=r at *
   have Hres:=Lhd hres
   clear hres hr
   cases r with
   | true =>
    simp only[if_true]
    go_enter Tryz.func77,Tryz.ntmps77
    go_wp2_with (first|(go_at_call 57;refine Hwd.out.mono ?_;rintro e w2 ⟨rfl,hb2⟩;obtain⟨d0,d1,d2,d3,dg⟩:=cells4 (Hh.out.below hb2).blk;rw[Hbad.out] at d3)|(go_at_call 129;refine(Hres.out _).mono ?_;rintro e w5 ⟨rfl,hb5⟩;have hb6:=(hb2.alloc hb2.size (.cells #[.int .i64 3,.string xs,.int .i64 xn,.int .i64 xa] 125)).trans (hb5.mono (by have:=hb2.size;simp;omega));obtain⟨f0,f1,f2,f3,fg⟩:=cells4 (Hh.out.below hb6).blk))
    refine(Hf.out _ (Hh.out.below hb6)).mono ?_
    rintro e w3 ⟨rfl,h3,hb4⟩
    have H5:=Lhd (And.intro h3 ((But.of_below hb6).trans' hb4))
    clear hb2 hb4 h3 hb6 hb5
    go_wp2
    go_ret
    exact⟨rfl,H5.out.1,H5.out.2⟩
   | false =>
    simp only[Bool.false_eq_true,if_false]
    go_enter Tryz.func77,Tryz.ntmps77
    go_wp2_with (first|(go_at_call 57;refine Hwd.out.mono ?_;rintro e w2 ⟨rfl,hb2⟩;obtain⟨d0,d1,d2,d3,dg⟩:=cells4 (Hh.out.below hb2).blk;rw[Hbad.out] at d3)|(go_at_call 129;refine(Hres.out _).mono ?_;rintro e w5 ⟨rfl,hb5⟩;have hb6:=(hb2.alloc hb2.size (.cells #[.int .i64 3,.string xs,.int .i64 xn,.int .i64 xa] 125)).trans (hb5.mono (by have:=hb2.size;simp;omega));obtain⟨f0,f1,f2,f3,fg⟩:=cells4 (Hh.out.below hb6).blk))
    refine(Hk.out _ (Hh.out.below hb6)).mono ?_
    rintro e w3 ⟨rfl,h3,hb4⟩
    have h4:=(Hh.out.below hb6).cursor (s':=s.on) hb4 (by simpa [PSt.on] using h3) rfl rfl rfl
    have H5:=Lhd (And.intro h4 ((But.of_below hb6).trans' (sub2r (gp:=gp) hb4)))
    clear hb2 hb4 h3 hb6 hb5 h4
    go_wp2
    go_ret
    exact⟨rfl,H5.out.1.below ((Below.refl _ _).alloc (Nat.le_refl _) _),H5.out.2.alloc _⟩
  ·have q2:(xk !=3)=true:=by simpa using he
   simp only[decide_eq_false he,Bool.not_false,Bool.true_or,if_true]
   clear he
   go_enter Tryz.func77,Tryz.ntmps77
   go_wp2_with (go_at_call 57;refine Hwd.out.mono ?_;rintro e w2 ⟨rfl,hb2⟩;obtain⟨d0,d1,d2,d3,dg⟩:=cells4 (Hh.out.below hb2).blk;rw[Hbad.out] at d3)
   have hb3:=hb2.alloc hb2.size (.cells #[.int .i64 xk,.string xs,.int .i64 xn,.int .i64 xa] 125)
   refine(Hf.out _ (Hh.out.below hb3)).mono ?_
   rintro e w3 ⟨rfl,h3,hb4⟩
   have H5:=Lhd (And.intro h3 ((But.of_below hb3).trans' hb4))
   clear hb2 hb3 hb4 h3
   go_wp2
   go_ret
   exact⟨rfl,H5.out.1,H5.out.2⟩
structure LvAt (gp gc:Nat) (w:World) (A:Option Addr) (ca:Nat) (B:Option Addr) (cb:Nat) (l:List (ByteArray×Int)):Prop where
 a:TxsAt w A l.length ca (l.map (·.1))
 b:RowsAt w 1 B l.length cb (l.map fun p=>[.int .i64 p.2])
 offA:∀ x,A=some x→Off gp gc x.block
 offB:∀ x,B=some x→Off gp gc x.block
theorem LvAt.but {gp gc:Nat} {w w':World} {A:Option Addr} {ca:Nat} {B:Option Addr} {cb:Nat} {l:List (ByteArray×Int)} (h:LvAt gp gc w A ca B cb l) (hb:But (On2 gp gc) w w'):LvAt gp gc w' A ca B cb l :=
 ⟨RowsAt.but h.a hb fun a ha _ hs=>by
   obtain⟨h1,h2⟩:=h.offA a ha
   rcases hs with e|e
   ·exact h1 e
   ·exact h2 e,
  RowsAt.but h.b hb fun a ha _ hs=>by
   obtain⟨h1,h2⟩:=h.offB a ha
   rcases hs with e|e
   ·exact h1 e
   ·exact h2 e,h.offA,h.offB⟩
theorem LvAt.op {gp gc:Nat} {w:World} {A:Option Addr} {ca:Nat} {B:Option Addr} {cb:Nat} {l:List (ByteArray×Int)} (h:LvAt gp gc w A ca B cb l) {k:Nat} {t:ByteArray} {op:Int} (hk:l[k]?=some (t,op)) :
  ∃ b o,B=some ⟨b,o,none⟩∧∀ W,But (On2 gp gc) w W→b<W.heap.size∧W.cell? ⟨b,o+k,none⟩=some (.int .i64 op):=by
 obtain⟨b,o,hB,_,_⟩:=RowsAt.one h.b (k:=k) (u:=.int .i64 op) (by rw[List.getElem?_map,hk];rfl)
 refine⟨b,o,hB,fun W hW=>?_⟩
 obtain⟨b2,o2,hB2,hlt,hc⟩:=RowsAt.one (h.but hW).b (k:=k) (u:=.int .i64 op) (by rw[List.getElem?_map,hk];rfl)
 rw[hB] at hB2
 injection hB2 with hB2
 injection hB2 with e1 e2
 subst e1 e2
 exact⟨hlt,hc⟩
theorem opP_at {W:Wds} {l:List (ByteArray×Int)} {s:PSt} {k:Nat} {t:ByteArray} {op:Int} (h:l[k]?=some (t,op)):opP W (l.drop k) s=if (mayP W t s).1 then (op,(mayP W t s).2) else opP W (l.drop (k+1)) s:=by
 obtain⟨hk,e⟩:=List.getElem?_eq_some_iff.1 h
 rw[List.drop_eq_getElem_cons hk,e]
 rfl
theorem mayP_no {W:Wds} {s:PSt} {t:ByteArray} (h:(mayP W t s).1=false):(mayP W t s).2=s:=by
 unfold mayP at h ⊢
 split at h
 ·cases h
 ·rename_i h1;rw[if_neg h1]
theorem pOp_any (gp gc gw:Nat) (W:Wds) (s:PSt) (l:List (ByteArray×Int)) (A B:Option Addr) (n ca cb:Nat) (w:World) (h:PAt gp gc gw W s w) (hl:LvAt gp gc w A ca B cb l) (hn:l.length=n) :
  Calls Tryz.prog 103 #[.agg #[.slice A n ca,.slice B n cb],.pointer (some ⟨gp,0,none⟩)] w fun e w'=>e=.returned (.int .i64 (opP W l s).1)∧PAt gp gc gw W (opP W l s).2 w'∧But (On2 gp gc) w w':=by
 have hnn:=RowsAt.n_le hl.a
 rw[hn] at hnn
 obtain⟨w1,Hw1⟩:∃ w1,Hid (w1=w.alloc (.cells #[.slice A n ca,.slice B n cb] 129)):=⟨_,rfl⟩
 have hb1:Below w.heap.size w w1:=by rw[Hw1.out];exact(Below.refl _ _).alloc (Nat.le_refl _) _
 have hk1:IsBlk w1 w.heap.size 129 #[.slice A n ca,.slice B n cb]:=by rw[Hw1.out];exact IsBlk.laid _ _ _
 have h1:=h.below hb1
 have hl1:=hl.but (But.of_below hb1)
 have hgs:w.heap.size≠gp∧w.heap.size≠gc:=by have:=h.lt;omega
 have Hb1:=Lhd hb1
 have hx:∀ W,But (On2 gp gc) w1 W→W.cell? ⟨w.heap.size,0,none⟩=some (.slice A n ca)∧W.cell? ⟨w.heap.size,1,none⟩=some (.slice B n cb)∧w.heap.size<W.heap.size:=fun W hW=>by
  have hk:=hk1.as_was (hW.block _ hk1.lt (by rintro(e|e);exact hgs.1 e;exact hgs.2 e))
  have a0:=hk.cell 0
  have a1:=hk.cell 1
  simp at a0 a1
  exact⟨a0,a1,hk.lt⟩
 have Hx:=Lhd hx
 have Hl1:=Lhd hl1
 have Hn:=Lhd hn
 have Hmay:=Lhd (fun t w2 (hW:PAt gp gc gw W s w2)=>pMay_any gp gc gw W s t w2 hW)
 obtain⟨y0,y1,yl⟩:=hx _ (But.refl _ _)
 generalize hfin:opP W l s=fin
 have Hfin:=Lhd hfin
 have H1:=Lhd h1
 clear h1 hl1 hk1 hb1 hx hgs hl hn h hfin
 go_enter Tryz.func103,Tryz.ntmps103
 go_upto_region 1 with (fail)
 rw[← Hw1.out]
 go_wp2
 go_loopw [10] (fun i wr=>∃ k:Nat,k≤n∧i=.int .i64 k∧PAt gp gc gw W s wr∧But (On2 gp gc) w1 wr∧Hid (opP W (l.drop k) s=fin)) (fun i _=>n-(intOf i).toNat)
 case atStart=>exact⟨0,Nat.zero_le _,rfl,H1.out,But.refl _ _,Lhd (by simpa using Hfin.out)⟩
 case round =>
  obtain⟨k,hk,rfl,hP,hB,HF⟩:=hrel
  rcases Nat.lt_or_ge k n with hlt|hge
  ·have hln:=Hn.out
   have hlk:l[k]?=some (l[k]'(by omega)):=List.getElem?_eq_getElem _
   generalize l[k]'(by omega)=pr at hlk
   obtain⟨t,op⟩:=pr
   have hl2:=Hl1.out.but hB
   obtain⟨b,o,t',rfl,hbl,ht,hc⟩:=hl2.a.get (k:=k) (by omega)
   rw[List.getElem?_map,hlk] at ht
   simp only[Option.map_some,Option.some.injEq] at ht
   subst ht
   obtain⟨b2,o2,rfl,hops⟩:=hl2.op hlk
   have Hops:=Lhd hops
   have hm:=Hmay.out t wr hP
   have hop:=opP_at (W:=W) (s:=s) hlk
   rw[HF.out] at hop
   obtain⟨z0,z1,zl⟩:=Hx.out _ hB
   have HB:=Lhd hB
   have Hmn:=Lhd (mayP_no (W:=W) (s:=s) (t:=t))
   cases hv:(mayP W t s).1 with
   | true =>
    rw[hv,if_pos rfl] at hop
    rw[hv] at hm
    have Hm:=Lhd hm
    subst hop
    clear hm hv hlk hB hP hl2 hln hops
    go_wp2_with (go_at_call 84;refine Hm.out.mono ?_;rintro e w3 ⟨rfl,hP3,hB3⟩;obtain⟨v0,v1,vl⟩:=Hx.out _ (HB.out.trans' hB3);obtain⟨q0,q1⟩:=Hops.out _ hB3;have H3:=Lhd (And.intro hP3 hB3);clear hP3 hB3)
    go_ret
    exact⟨rfl,H3.out.1,(But.of_below Hb1.out).trans' (HB.out.trans' H3.out.2)⟩
   | false =>
    rw[hv] at hop hm
    have hm2:=Hmn.out hv
    rw[hm2] at hm
    rw[if_neg (by decide)] at hop
    have Hm:=Lhd hm
    have Hop:=Lhd hop
    clear hm hv hlk hB hP hl2 hln hops hop hm2
    go_wp2_with (go_at_call 84;refine Hm.out.mono ?_;rintro e w3 ⟨rfl,hP3,hB3⟩;have H3:=Lhd (And.intro hP3 hB3);clear hP3 hB3)
    go_roundw
    case rel=>exact⟨k+1,by omega,by simp,H3.out.1,HB.out.trans' H3.out.2,Lhd Hop.out.symm⟩
    case measure=>simp[intOf];omega
  ·have hkn:k=n:=by omega
   subst hkn
   have H3:=Lhd (And.intro hP hB)
   have hd:=HF.out
   rw[List.drop_eq_nil_of_le (by have:=Hn.out;omega)] at hd
   have Hd:=Lhd hd
   clear hP hB hd
   go_wp2
   go_ret
   rw[← Hd.out]
   exact⟨rfl,H3.out.1,(But.of_below Hb1.out).trans' H3.out.2⟩
theorem exs_lit {F:Nat→Prop} {d n g:Nat} {w:World} (T:TypeId) (rows:List (List Value)) (es:List Ex) (hg:g=w.heap.size) (hF:F g) (hn:es.length=n) (hn2:n≤1000) (hl:rows.length=es.length) (h:∀ (k:Nat) (r:List Value) (x:Ex),rows[k]?=some r→es[k]?=some x→ExAt F d w r x) :
  ExsAt F d (w.alloc (.cells rows.flatten.toArray T)) (some ⟨g,0,none⟩) n n es:=by
 have hb:=(Below.refl w.heap.size w).alloc (Nat.le_refl _) (.cells rows.flatten.toArray T)
 have h6:∀ (k:Nat) (r:List Value) (x:Ex),rows[k]?=some r→es[k]?=some x→r.length=6∧ExAt F d (w.alloc (.cells rows.flatten.toArray T)) r x:=fun k r x h1 h2=>⟨(h k r x h1 h2).len,(h k r x h1 h2).below hb⟩
 refine⟨rows,RowsAt.lit' _ rows n hg (by simp) (fun r hr=>?_) (by omega) (by unfold maxLen;omega),fun a ha _=>by cases ha;exact hF,hl,h6⟩
 obtain⟨k,hk,rfl⟩:=List.mem_iff_getElem.1 hr
 exact(h6 k _ _ (List.getElem?_eq_getElem hk) (List.getElem?_eq_getElem (by omega))).1
theorem ex_opn {F:Nat→Prop} {d:Nat} {w:World} {op:Int} {A:Option Addr} {n c:Nat} {es:List Ex} (h0:0≤op) (h1:op≤100) (h:ExsAt F d w A n c es):ExAt F (d+1) w [.int .i64 op,.int .i64 0,.string ⟨#[]⟩,.string ⟨#[]⟩,.string ⟨#[]⟩,.slice A n c] (.mk op 0 nil0 nil0 nil0 es):=by
 have h2:okS nil0:=by unfold okS;exact Nat.zero_le _
 exact⟨⟨by show _≤op;omega,by show op≤_;omega⟩,⟨by show (_:Int)≤0;omega,by show (0:Int)≤_;omega⟩,h2,h2,h2,A,n,c,rfl,h⟩
theorem sizeEx:(Tryz.prog.info? 32).map (·.size)=some 6:=by kernel_rfl
theorem ret_ex {fn:Func} {p:Tmp} {tmps:Array Value} {w:World} {g:Nat} {t:TypeId} {cs:Array Value} (h:fn.results=#[.cell p 32]) (hp:tmps.getD p undef=.pointer (some ⟨g,0,none⟩)) (hk:IsBlk w g t cs) (hz:cs.size=6):(results fn tmps).run Tryz.prog w=.ok (.agg cs) w :=
 results_cell_row h tmps w g t cs (0,0) _ hp hk Tryz.underlying32 rfl (by rw[hz];exact sizeEx)
theorem ex_row6 {F:Nat→Prop} {d:Nat} {w:World} {row:List Value} {e:Ex} (h:ExAt F d w row e):∃ A m c,row=[.int .i64 e.op,.int .i64 e.n,.string e.s,.string e.name,.string e.src,.slice A m c]:=by
 cases d with
 | zero=>exact h.elim
 | succ d=>obtain⟨_,_,_,_,_,A,m,c,h,_⟩:=h.open_;exact⟨A,m,c,h⟩
theorem blk_new {w:World} {g:Nat} {T:TypeId} {cs:Array Value} (hg:g=w.heap.size):IsBlk (w.alloc (.cells cs T)) g T cs:=by subst hg;exact IsBlk.laid _ _ _
theorem pTwo_any (F:Nat→Prop) (d:Nat) (op:Int) (a b:Ex) (ra rb:List Value) (w:World) (h0:0≤op) (h1:op≤100) (ha:ExAt F d w ra a) (hb:ExAt F d w rb b) (hF:∀ k,w.heap.size≤k→F k) :
  Calls Tryz.prog 104 #[.int .i64 op,.agg ra.toArray,.agg rb.toArray] w fun e w'=>∃ row,e=.returned (.agg row.toArray)∧ExAt F (d+1) w' row (twoP op a b)∧Below w.heap.size w w':=by
 obtain⟨A1,m1,c1,ea⟩:=ex_row6 ha
 obtain⟨A2,m2,c2,eb⟩:=ex_row6 hb
 have hres:∀ (W:World) (g:Nat),Below w.heap.size w W→g=W.heap.size→ExAt F (d+1) (W.alloc (.cells (ra++rb).toArray 32)) [.int .i64 op,.int .i64 0,.string ⟨#[]⟩,.string ⟨#[]⟩,.string ⟨#[]⟩,.slice (some ⟨g,0,none⟩) 2 2] (twoP op a b):=fun W g hW hg=>by
  have h2:=exs_lit (n:=2) (w:=W) 32 [ra,rb] [a,b] hg (hF _ (by have:=hW.size;omega)) rfl (by omega) rfl (d:=d) (F:=F) (fun k r x h1 h2=>by
   rcases k with _|_|k
   ·simp at h1 h2;subst h1 h2;exact ha.below hW
   ·simp at h1 h2;subst h1 h2;exact hb.below hW
   ·simp at h1)
  have e:[ra,rb].flatten=ra++rb:=by simp
  rw[e] at h2
  exact ex_opn h0 h1 h2
 have Hres:=Lhd hres
 clear hres ha hb
 subst ea eb
 go_enter Tryz.func104,Tryz.ntmps104
 go_wp2
 have hb3:Below w.heap.size w (((w.alloc (.cells #[.int .i64 a.op,.int .i64 a.n,.string a.s,.string a.name,.string a.src,.slice A1 m1 c1] 32)).alloc (.cells #[.int .i64 b.op,.int .i64 b.n,.string b.s,.string b.name,.string b.src,.slice A2 m2 c2] 32)).alloc (.cells #[.int .i64 op,.int .i64 0,.string ⟨#[]⟩,.string ⟨#[]⟩,.string ⟨#[]⟩,.slice (some ⟨w.heap.size+1+1+1,0,none⟩) 2 2] 32)) :=
  (((Below.refl _ _).alloc (Nat.le_refl _) _).alloc (by simp) _).alloc (by simp;omega) _
 refine bodyPost_ret (v:=.agg #[.int .i64 op,.int .i64 0,.string ⟨#[]⟩,.string ⟨#[]⟩,.string ⟨#[]⟩,.slice (some ⟨w.heap.size+1+1+1,0,none⟩) 2 2]) (ret_ex Tryz.results104 rfl ((blk_new (by simp)).alloc _) rfl) rfl ⟨_,rfl,Hres.out _ _ hb3 (by simp),hb3.alloc (by simp;omega) _⟩
end Go.Proofs.YtdgapmnojmhllaaGreatDoor

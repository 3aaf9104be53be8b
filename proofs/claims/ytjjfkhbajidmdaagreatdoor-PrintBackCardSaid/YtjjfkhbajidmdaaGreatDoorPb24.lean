/- Parts of this proof, one behind the other: ParB, ParC, ParD, ParE0. -/
import Derived.Test.YtjjfkhbajidmdaaGreatDoorPb23
import Derived.Test.YtjjfkhbajidmdaaGreatDoorPb3
import Derived.Deep.Cut
import Derived.Deep.RegionHeld3
import Derived.Deep.RegionWith
import Derived.Test.YtjjfkhbajidmdaaGreatDoorPb2
set_option maxRecDepth 1000000
set_option maxHeartbeats 40000000
namespace Go.Proofs.YtjjfkhbajidmdaaGreatDoor
open Go.RowKit Go.Afx
def Off (gp gc:Nat):Nat→Prop:=fun b=>b≠gp∧b≠gc
def fV (gp gc:Nat):Nat→Prop:=fun b=>b=gp∨b=gc
structure aW (gp gc gw:Nat) (W:aV) (s:au) (w:World):Prop where
 blk:af w gp 99 #[.pointer (some ⟨gc,0,none⟩),.int .i64 s.deep,.bool s.over,.bool s.bad]
 cu:oM (fun b=>b=gw) gc W s.at_ w
 ne:gp≠gc
 nw:gw≠gp
 wl:gw<w.heap.size
section
variable {gp gc gw:Nat} {W:aV} {s s':au} {w w':World}
theorem aW.below (h:aW gp gc gw W s w) (hb:Below w.heap.size w w'):aW gp gc gw W s w':=⟨h.blk.ag (hb.block _ h.blk.lt),h.cu.below hb,h.ne,h.nw,Nat.lt_of_lt_of_le h.wl hb.size⟩
theorem aW.lt (h:aW gp gc gw W s w):gp<w.heap.size∧gc<w.heap.size:=⟨h.blk.lt,h.cu.lt⟩
theorem aW.elsewhere (h:aW gp gc gw W s w) {g:Nat} (hb:But (fun k=>k=g) w w') (hg:gp<g∧gc<g∧gw<g):aW gp gc gw W s w':=by
 obtain⟨⟨A,n,c,hk2,hl⟩,h1,h2,h3,h4⟩:=h.cu
 exact⟨h.blk.ag (hb.block _ h.blk.lt (by omega)),⟨⟨A,n,c,hk2.ag (hb.block _ hk2.lt (by omega)),hl.kept (Kept.aN hb fun k hf e=>by omega)⟩,h1,h2,h3,h4⟩,h.ne,h.nw,Nat.lt_of_lt_of_le h.wl hb.size⟩
theorem aW.own (h:aW gp gc gw W s w) (hb:But (fun k=>k=gp) w w') (hk:af w' gp 99 #[.pointer (some ⟨gc,0,none⟩),.int .i64 s'.deep,.bool s'.over,.bool s'.bad]) (ha:s'.at_=s.at_):aW gp gc gw W s' w':=by
 obtain⟨⟨A,n,c,hk2,hl⟩,h1,h2,h3,h4⟩:=h.cu
 refine⟨hk,⟨⟨A,n,c,?_,hl.kept (Kept.aN hb fun k hf e=>h.nw (hf.symm.trans e))⟩,by rw[ha];exact h1,h2,h3,h4⟩,h.ne,h.nw,Nat.lt_of_lt_of_le h.wl hb.size⟩
 rw[ha]
 exact hk2.ag (hb.block _ hk2.lt fun e=>h.ne e.symm)
theorem aW.wU (h:aW gp gc gw W s w) (hb:But (fun k=>k=gc) w w') (hc:oM (fun b=>b=gw) gc W s'.at_ w') (hd:s'.deep=s.deep) (ho:s'.over=s.over) (hx:s'.bad=s.bad):aW gp gc gw W s' w':=by
 refine⟨?_,hc,h.ne,h.nw,Nat.lt_of_lt_of_le h.wl hb.size⟩
 rw[hd,ho,hx]
 exact h.blk.ag (hb.block _ h.blk.lt h.ne)
theorem aW.okw (h:aW gp gc gw W s w) (i:Nat):okW (W.look i):=by
 obtain⟨⟨A,n,c,hk2,hl⟩,h1,h2,h3,h4⟩:=h.cu
 have hn:=hl.len
 rcases Nat.lt_or_ge i n with hi|hi
 ·obtain⟨b,o,r,x,_,_,_,hx,_,⟨_,hok⟩,_⟩:=hl.get hi
  rw[look_in hx];exact hok
 ·rw[DL (by omega)]
  exact⟨by constructor<;>simp,by unfold okS;exact Nat.zero_le _,by constructor<;>simp,h3⟩
end
theorem Qq {gp gc:Nat} {w w':World} (h:But (fun k=>k=gp) w w'):But (fV gp gc) w w':=h.mono fun _ hi=>.inl (.inl hi)
theorem FX {gp gc:Nat} {w w':World} (h:But (fun k=>k=gc) w w'):But (fV gp gc) w w':=h.mono fun _ hi=>.inl (.inr hi)
theorem lC (gp gc gw:Nat) (W:aV) (s:au) (w:World) (h:aW gp gc gw W s w) :
  Calls Tryz.prog 89 #[.pointer (some ⟨gp,0,none⟩)] w fun e w'=>e=.returned (.tuple #[])∧aW gp gc gw W s.fail w'∧But (fV gp gc) w w':=by
 obtain⟨c0,c1,c2,c3,hg⟩:=cells4 h.blk
 have hfz:=h.blk.frozen
 have Hh:=ae h
 clear h
 go_enter Tryz.func89,Tryz.ntmps89
 go_wp2
 go_end0
 have hb:=(But.refl (fun k=>k=gp) w).setCell (p:=⟨gp,3,none⟩) (.inl rfl) (.bool true)
 exact⟨rfl,Hh.out.own hb (Hh.out.blk.stored 3 _) rfl,Qq hb⟩
theorem kW (gp gc gw:Nat) (W:aV) (s:au) (w:World) (h:aW gp gc gw W s w) :
  Calls Tryz.prog 51 #[.pointer (some ⟨gp,0,none⟩)] w fun e w'=>e=.returned (.tuple #[])∧aW gp gc gw W (dw s) w'∧But (fV gp gc) w w':=by
 obtain⟨c0,c1,c2,c3,hg⟩:=cells4 h.blk
 have hfz:=h.blk.frozen
 have Hh:=ae h
 clear h
 go_enter Tryz.func51,Tryz.ntmps51
 go_wp2
 go_end0
 have hb:=(But.refl (fun k=>k=gp) w).setCell (p:=⟨gp,1,none⟩) (.inl rfl) (.int .i64 (wrap64 (s.deep-1)))
 exact⟨rfl,Hh.out.own (s':=dw s) hb (Hh.out.blk.stored 1 _) rfl,Qq hb⟩
theorem kX (gp gc gw:Nat) (W:aV) (s:au) (w:World) (h:aW gp gc gw W s w) :
  Calls Tryz.prog 46 #[.pointer (some ⟨gp,0,none⟩)] w fun e w'=>e=.returned (.tuple #[])∧aW gp gc gw W (aG s) w'∧But (fV gp gc) w w':=by
 obtain⟨c0,c1,c2,c3,hg⟩:=cells4 h.blk
 have hfz:=h.blk.frozen
 have hb:=(But.refl (fun k=>k=gp) w).setCell (p:=⟨gp,1,none⟩) (.inl rfl) (.int .i64 (wrap64 (s.deep+1)))
 have h1:aW gp gc gw W (upP s) _:=h.own (s':=upP s) hb (h.blk.stored 1 _) rfl
 have hb2:=hb.setCell (p:=⟨gp,2,none⟩) (.inl rfl) (.bool true)
 have h2:aW gp gc gw W { upP s with over:=true } _:=h1.own (s':={ upP s with over:=true }) ((But.refl (fun k=>k=gp) _).setCell (p:=⟨gp,2,none⟩) (.inl rfl) (.bool true)) (h1.blk.stored 2 _) rfl
 have Hf:=ae (lC gp gc gw W _ _ h2)
 have H1:=ae h1
 have Hb:=ae hb
 have Hb2:=ae hb2
 clear h h1 h2 hb hb2
 unfold aG
 have e1:(upP s).deep=wrap64 (s.deep+1):=rfl
 rw[e1]
 clear e1
 rcases Classical.em (60<wrap64 (s.deep+1)) with hd|hd
 ·have q1:decide ((60:Int)<wrap64 (s.deep+1))=true:=by simpa using hd
  cases hbad:s.bad with
  | true =>
   rw[hbad] at c3
   rw[q1]
   simp only[Bool.not_true,Bool.and_false,Bool.false_eq_true,if_false]
   clear hbad
   go_enter Tryz.func46,Tryz.ntmps46
   go_wp2
   go_end0
   exact⟨rfl,H1.out,Qq Hb.out⟩
  | false =>
   rw[hbad] at c3
   rw[q1]
   simp only[Bool.not_false,Bool.and_true,if_true]
   clear hbad
   go_enter Tryz.func46,Tryz.ntmps46
   go_wp2_with (go_at_call 89;refine Hf.out.mono ?_;rintro e w2 ⟨rfl,h3,hb3⟩)
   go_end0
   exact⟨rfl,h3,(Qq Hb2.out).trans' hb3⟩
 ·have q1:decide ((60:Int)<wrap64 (s.deep+1))=false:=by simpa using hd
  rw[q1]
  simp only[Bool.false_and,Bool.false_eq_true,if_false]
  go_enter Tryz.func46,Tryz.ntmps46
  go_wp2
  go_end0
  exact⟨rfl,H1.out,Qq Hb.out⟩
theorem gX (gp gc gw:Nat) (W:aV) (s:au) (t:ByteArray) (w:World) (h:aW gp gc gw W s w) :
  Calls Tryz.prog 52 #[.pointer (some ⟨gp,0,none⟩),.string t] w fun e w'=>e=.returned (.bool (ay W t s).1)∧aW gp gc gw W (ay W t s).2 w'∧But (fV gp gc) w w':=by
 obtain⟨c0,c1,c2,c3,hg⟩:=cells4 h.blk
 have hb1:=(Below.refl w.heap.size w).alloc (Nat.le_refl _) (.cells #[.string t] 9)
 have h1:=h.below hb1
 have ht:=KP (fun b=>b=gw) gc s.at_ W (some ⟨w.heap.size,0,none⟩) 1 t _ h1.cu (rX.lit 9 [t] 1 rfl rfl (by omega))
 have H1:=ae h1
 have Hb1:=ae hb1
 unfold ay jO
 generalize hv:(W.look s.at_).says t=v at *
 have Ht:=ae ht
 have Hh:=ae h
 clear ht hb1 h1 h hv
 cases hbad:s.bad with
 | true =>
  rw[hbad] at c3
  simp only[Bool.not_true,Bool.false_and,Bool.false_eq_true,if_false]
  clear hbad
  go_enter Tryz.func52,Tryz.ntmps52
  go_wp2
  go_ret
  exact⟨rfl,Hh.out,But.refl _ _⟩
 | false =>
  rw[hbad] at c3
  have uI:=ae hbad
  clear hbad
  cases v with
  | false =>
   simp only[Bool.and_false,Bool.false_eq_true,if_false]
   go_enter Tryz.func52,Tryz.ntmps52
   go_wp2_with (go_at_call 88;refine Ht.out.mono ?_;rintro e w2 ⟨rfl,h3,hb3⟩)
   have H3:=ae (And.intro h3 hb3)
   clear h3 hb3
   go_wp2
   go_ret
   exact⟨rfl,H1.out.wU H3.out.2 (by simpa using H3.out.1) rfl rfl rfl,(But.of_below Hb1.out).trans' (FX (gp:=gp) H3.out.2)⟩
  | true =>
   simp only[Bool.not_false,Bool.and_true,if_true]
   go_enter Tryz.func52,Tryz.ntmps52
   go_wp2_with (go_at_call 88;refine Ht.out.mono ?_;rintro e w2 ⟨rfl,h3,hb3⟩)
   have H3:=ae (And.intro h3 hb3)
   clear h3 hb3
   go_wp2
   go_ret
   exact⟨rfl,H1.out.wU (s':=s.on) H3.out.2 (by simpa [au.on] using H3.out.1) rfl rfl rfl,(But.of_below Hb1.out).trans' (FX (gp:=gp) H3.out.2)⟩
theorem fV.alloc {gp gc:Nat} {w w':World} (o:Obj) (h:But (fV gp gc) (w.alloc o) w'):But (fV gp gc) w w':=(But.of_below ((Below.refl _ _).alloc (Nat.le_refl _) o)).trans' h
theorem dR (gp gc gw g:Nat) (W:aV) (s:au) (t:ByteArray) (w:World) (h:aW gp gc gw W s w) (hgs:g=w.heap.size) :
  Calls Tryz.prog 44 #[.pointer (some ⟨gp,0,none⟩),.slice (some ⟨g,0,none⟩) 1 1] (w.alloc (.cells #[.string t] 9)) fun e w'=>e=.returned (.tuple #[])∧aW gp gc gw W (ak W [t] s) w'∧But (fV gp gc) w w':=by
 have hb1:=(Below.refl w.heap.size w).alloc (Nat.le_refl _) (.cells #[.string t] 9)
 have hz1:=hb1.size
 obtain⟨w1,Hw1⟩:∃ w1,Hid (w1=w.alloc (.cells #[.string t] 9)):=⟨_,rfl⟩
 have h1:=h.below hb1
 have hk1:=af.laid w 9 #[.string t]
 rw[← Hw1.out] at hb1 h1 hk1 ⊢
 rw[← hgs] at hk1
 have hc1:w1.cell? ⟨g,0,none⟩=some (.string t):=by have:=hk1.cell 0;simpa using this
 have hlt1:=hk1.lt
 obtain⟨c0,c1,c2,c3,hg⟩:=cells4 h1.blk
 have hb2:=(Below.refl w1.heap.size w1).alloc (Nat.le_refl _) (.cells #[.string t] 9)
 have h2:=h1.below hb2
 have ht:=KP (fun b=>b=gw) gc s.at_ W (some ⟨w1.heap.size,0,none⟩) 1 t _ h2.cu (rX.lit 9 [t] 1 rfl rfl (by omega))
 have Hf1:=ae (lC gp gc gw W s w1 h1)
 have Hf2:=ae (fun w2 (hW:aW gp gc gw W s w2)=>lC gp gc gw W s w2 hW)
 have H1:=ae h1
 have H2:=ae h2
 have Hb1:=ae hb1
 have Hb2:=ae hb2
 unfold ak ak ay jO
 generalize hv:(W.look s.at_).says t=v at *
 have Ht:=ae ht
 clear ht hb1 hb2 h1 h2 h hv hk1 hz1 hgs
 cases hbad:s.bad with
 | true =>
  rw[hbad] at c3
  simp only[Bool.not_true,Bool.false_and,Bool.false_eq_true,if_false]
  clear hbad
  go_enter Tryz.func44,Tryz.ntmps44
  go_wp2
  refine wp_loop_rounds 2 ?_
  rw[rounds_succ]
  go_wp2_with (go_at_call 89;refine Hf1.out.mono ?_;rintro e w2 ⟨rfl,h3,hb3⟩)
  have H3:=ae (And.intro h3 hb3)
  clear h3 hb3
  go_wp2
  refine bodyPost_ret (results_none rfl _ _ _) rfl ?_
  exact⟨rfl,H3.out.1,(But.of_below Hb1.out).trans' H3.out.2⟩
 | false =>
  rw[hbad] at c3
  clear hbad
  cases v with
  | false =>
   simp only[Bool.and_false,Bool.false_eq_true,if_false]
   go_enter Tryz.func44,Tryz.ntmps44
   go_wp2
   refine wp_loop_rounds 2 ?_
   rw[rounds_succ]
   go_wp2_with (go_at_call 88;refine Ht.out.mono ?_;rintro e w2 ⟨rfl,h3,hb3⟩)
   have H3:=ae (And.intro (H2.out.wU (s':=s) hb3 (by simpa using h3) rfl rfl rfl) ((But.of_below Hb1.out).trans' ((But.of_below Hb2.out).trans' (FX (gp:=gp) hb3))))
   clear h3 hb3
   go_wp2_with (go_at_call 89;refine(Hf2.out _ H3.out.1).mono ?_;rintro e w3 ⟨rfl,h4,hb4⟩)
   have H4:=ae (And.intro h4 (H3.out.2.trans' hb4))
   clear h4 hb4
   go_wp2
   refine bodyPost_ret (results_none rfl _ _ _) rfl ?_
   exact⟨rfl,H4.out.1,H4.out.2⟩
  | true =>
   simp only[Bool.not_false,Bool.and_true,if_true]
   go_enter Tryz.func44,Tryz.ntmps44
   go_wp2
   refine wp_loop_rounds 2 ?_
   rw[rounds_succ]
   go_wp2_with (go_at_call 88;refine Ht.out.mono ?_;rintro e w2 ⟨rfl,h3,hb3⟩)
   have H3:=ae (And.intro (H2.out.wU (s':=s.on) hb3 (by simpa [au.on] using h3) rfl rfl rfl) ((But.of_below Hb1.out).trans' ((But.of_below Hb2.out).trans' (FX (gp:=gp) hb3))))
   clear h3 hb3
   rw[rounds_succ]
   go_wp2
   go_end0
   exact⟨rfl,H3.out.1,H3.out.2⟩
theorem aa1 (w:World):af (w.alloc (.cells #[.int .i64 0,.string ⟨#[]⟩,.int .i64 0,.int .i64 0] 101)) w.heap.size 101 #[.int .i64 0,.string ⟨#[]⟩,.int .i64 0,.int .i64 0]:=af.laid _ _ _
theorem wV (gp gc gw:Nat) (W:aV) (s:au) (w:World) (h:aW gp gc gw W s w) :
  Calls Tryz.prog 53 #[.pointer (some ⟨gp,0,none⟩)] w fun e w'=>e=.returned (.int .i64 (mP W s).1)∧aW gp gc gw W (mP W s).2 w'∧But (fV gp gc) w w':=by
 obtain⟨c0,c1,c2,c3,hg⟩:=cells4 h.blk
 have hk:=Jd (fun b=>b=gw) gc s.at_ 1 W w h.cu (by omega)
 have Hh:=ae h
 unfold mP
 have Hf:=ae (fun w2 (hW:aW gp gc gw W s w2)=>lC gp gc gw W s w2 hW)
 generalize hx:W.look s.at_=x at *
 obtain⟨xk,xs,xn,xa⟩:=x
 have hk:Calls Tryz.prog 91 #[.pointer (some ⟨gc,0,none⟩),.int .i64 1] w fun e w'=>e=.returned (.tuple #[.agg (if xk=1 then iO ⟨xk,xs,xn,xa⟩ else [.int .i64 0,.string ⟨#[]⟩,.int .i64 0,.int .i64 0]).toArray,.bool (decide (xk=1))]) ∧
   oM (fun b=>b=gw) gc W (if xk=1 then s.at_+1 else s.at_) w'∧But (fun k=>k=gc) w w':=hk
 clear h hx
 cases hbad:s.bad with
 | true =>
  rw[hbad] at c3
  clear hbad hk
  simp only[if_true]
  go_enter Tryz.func53,Tryz.ntmps53
  go_wp2
  go_ret
  exact⟨rfl,Hh.out,But.refl _ _⟩
 | false =>
  rw[hbad] at c3
  clear hbad
  simp only[Bool.false_eq_true,if_false]
  show Calls _ _ _ _ fun e w'=>e=.returned (.int .i64 (if xk=1 then (xn,s.on) else (0,s.fail)).1)∧aW gp gc gw W (if xk=1 then (xn,s.on) else (0,s.fail)).2 w'∧But (fV gp gc) w w'
  rcases Classical.em (xk=1) with he|he
  ·simp only[if_pos he,decide_eq_true he] at hk ⊢
   unfold iO at hk
   have Hk:=ae hk
   clear hk he
   go_enter Tryz.func53,Tryz.ntmps53
   go_wp2_with (go_at_call 91;refine Hk.out.mono ?_;rintro e w2 ⟨rfl,h3,hb3⟩)
   have H3:=ae (And.intro h3 hb3)
   clear h3 hb3
   go_wp2
   go_ret
   exact⟨rfl,(Hh.out.wU (s':=s.on) H3.out.2 (by simpa [au.on] using H3.out.1) rfl rfl rfl).below ((Below.refl _ _).alloc (Nat.le_refl _) _),(FX (gp:=gp) H3.out.2).alloc _⟩
  ·simp only[if_neg he,decide_eq_false he] at hk ⊢
   have Hk:=ae hk
   clear hk he
   go_enter Tryz.func53,Tryz.ntmps53
   go_wp2_with (go_at_call 91;refine Hk.out.mono ?_;rintro e w2 ⟨rfl,h3,hb3⟩)
   have h4:=(Hh.out.wU (s':=s) hb3 (by simpa using h3) rfl rfl rfl).below ((Below.refl _ _).alloc (Nat.le_refl _) (.cells #[.int .i64 0,.string ⟨#[]⟩,.int .i64 0,.int .i64 0] 101))
   have H4:=ae (And.intro h4 ((FX (gp:=gp) hb3).alloc (.cells #[.int .i64 0,.string ⟨#[]⟩,.int .i64 0,.int .i64 0] 101)))
   have hk5:=aa1 w2
   have hne:w2.heap.size≠gp∧w2.heap.size≠gc:=by
    have:=Hh.out.lt;have:=hb3.size
    constructor<;>omega
   clear h3 hb3 h4
   refine(Hf.out _ H4.out.1).mono ?_
   rintro e w3 ⟨rfl,h4,hb4⟩
   obtain⟨k0,k1,k2,k3,klt⟩:=cells4 (hk5.ag (hb4.block _ hk5.lt (by rintro(e|e);exact hne.1 e;exact hne.2 e)))
   have H5:=ae (And.intro h4 (H4.out.2.trans' hb4))
   clear h4 hb4 hk5 hne
   go_wp2
   go_ret
   exact⟨rfl,H5.out.1,H5.out.2⟩
open Go.RowKit Go.Afx
theorem lD (gp gc gw:Nat) (W:aV) (s:au) (w:World) (h:aW gp gc gw W s w) :
  Calls Tryz.prog 45 #[.pointer (some ⟨gp,0,none⟩)] w fun e w'=>e=.returned (.string (aS W s).1)∧aW gp gc gw W (aS W s).2 w'∧But (fV gp gc) w w':=by
 obtain⟨c0,c1,c2,c3,hg⟩:=cells4 h.blk
 have hwd:=uH (fun b=>b=gw) gc s.at_ W w h.cu
 have SC:=ae (fun w2 (hW:aW gp gc gw W s w2)=>Jd (fun b=>b=gw) gc s.at_ 3 W w2 hW.cu (by omega))
 have Hf:=ae (fun w2 (hW:aW gp gc gw W s w2)=>lC gp gc gw W s w2 hW)
 unfold aS
 generalize hx:W.look s.at_=x at *
 obtain⟨xk,xs,xn,xa⟩:=x
 have Xj:=ae (fun w=>DN xs w)
 unfold iO at hwd
 have MN:=ae hwd
 have Hk:Hid (∀ w2,aW gp gc gw W s w2→Calls Tryz.prog 91 #[.pointer (some ⟨gc,0,none⟩),.int .i64 3] w2 fun e w'=>e=.returned (.tuple #[.agg (if xk=3 then [.int .i64 xk,.string xs,.int .i64 xn,.int .i64 xa] else [.int .i64 0,.string ⟨#[]⟩,.int .i64 0,.int .i64 0]).toArray,.bool (decide (xk=3))]) ∧
   oM (fun b=>b=gw) gc W (if xk=3 then s.at_+1 else s.at_) w'∧But (fun k=>k=gc) w2 w'):=SC
 clear SC
 have Hh:=ae h
 have hlt:=h.lt
 clear h hx hwd
 show Calls _ _ _ _ fun e w'=>e=.returned (.string (if s.bad||!decide (xk=3)||tu xs then ((⟨#[]⟩:ByteArray),s.fail) else (xs,s.on)).1)∧aW gp gc gw W (if s.bad||!decide (xk=3)||tu xs then ((⟨#[]⟩:ByteArray),s.fail) else (xs,s.on)).2 w'∧But (fV gp gc) w w'
 clear hlt
 obtain⟨bad,hbad⟩:∃ b,s.bad=b:=⟨_,rfl⟩
 rw[hbad]
 have uI:=ae hbad
 clear hbad c0 c1 c2 c3
 obtain⟨c0,c1,c2,c3,_⟩:=cells4 Hh.out.blk
 rw[uI.out] at c3
 cases bad with
 | true =>
  simp only[Bool.true_or,if_true]
  go_enter Tryz.func45,Tryz.ntmps45
  go_wp2_with (go_at_call 43;refine MN.out.mono ?_;rintro e w2 ⟨rfl,hb2⟩;obtain⟨d0,d1,d2,d3,dg⟩:=cells4 (Hh.out.below hb2).blk;rw[uI.out] at d3)
  have hb3:=hb2.alloc hb2.size (.cells #[.int .i64 xk,.string xs,.int .i64 xn,.int .i64 xa] 101)
  refine(Hf.out _ (Hh.out.below hb3)).mono ?_
  rintro e w3 ⟨rfl,h3,hb4⟩
  have H5:=ae (And.intro h3 ((But.of_below hb3).trans' hb4))
  clear hb2 hb3 hb4 h3
  go_wp2
  go_ret
  exact⟨rfl,H5.out.1,H5.out.2⟩
 | false =>
  simp only[Bool.false_or]
  rcases Classical.em (xk=3) with he|he
  ·subst he
   simp only[decide_true,Bool.not_true,Bool.false_or,if_true] at Hk ⊢
   have hres:=Xj.out
   generalize hr:tu xs=r at *
   have Xj:=ae hres
   clear hres hr
   cases r with
   | true =>
    simp only[if_true]
    go_enter Tryz.func45,Tryz.ntmps45
    go_wp2_with (first|(go_at_call 43;refine MN.out.mono ?_;rintro e w2 ⟨rfl,hb2⟩;obtain⟨d0,d1,d2,d3,dg⟩:=cells4 (Hh.out.below hb2).blk;rw[uI.out] at d3)|(go_at_call 90;refine(Xj.out _).mono ?_;rintro e w5 ⟨rfl,hb5⟩;have hb6:=(hb2.alloc hb2.size (.cells #[.int .i64 3,.string xs,.int .i64 xn,.int .i64 xa] 101)).trans (hb5.mono (by have:=hb2.size;simp;omega));obtain⟨f0,f1,f2,f3,fg⟩:=cells4 (Hh.out.below hb6).blk))
    refine(Hf.out _ (Hh.out.below hb6)).mono ?_
    rintro e w3 ⟨rfl,h3,hb4⟩
    have H5:=ae (And.intro h3 ((But.of_below hb6).trans' hb4))
    clear hb2 hb4 h3 hb6 hb5
    go_wp2
    go_ret
    exact⟨rfl,H5.out.1,H5.out.2⟩
   | false =>
    simp only[Bool.false_eq_true,if_false]
    go_enter Tryz.func45,Tryz.ntmps45
    go_wp2_with (first|(go_at_call 43;refine MN.out.mono ?_;rintro e w2 ⟨rfl,hb2⟩;obtain⟨d0,d1,d2,d3,dg⟩:=cells4 (Hh.out.below hb2).blk;rw[uI.out] at d3)|(go_at_call 90;refine(Xj.out _).mono ?_;rintro e w5 ⟨rfl,hb5⟩;have hb6:=(hb2.alloc hb2.size (.cells #[.int .i64 3,.string xs,.int .i64 xn,.int .i64 xa] 101)).trans (hb5.mono (by have:=hb2.size;simp;omega));obtain⟨f0,f1,f2,f3,fg⟩:=cells4 (Hh.out.below hb6).blk))
    refine(Hk.out _ (Hh.out.below hb6)).mono ?_
    rintro e w3 ⟨rfl,h3,hb4⟩
    have h4:=(Hh.out.below hb6).wU (s':=s.on) hb4 (by simpa [au.on] using h3) rfl rfl rfl
    have H5:=ae (And.intro h4 ((But.of_below hb6).trans' (FX (gp:=gp) hb4)))
    clear hb2 hb4 h3 hb6 hb5 h4
    go_wp2
    go_ret
    exact⟨rfl,H5.out.1.below ((Below.refl _ _).alloc (Nat.le_refl _) _),H5.out.2.alloc _⟩
  ·have q2:(xk !=3)=true:=by simpa using he
   simp only[decide_eq_false he,Bool.not_false,Bool.true_or,if_true]
   clear he
   go_enter Tryz.func45,Tryz.ntmps45
   go_wp2_with (go_at_call 43;refine MN.out.mono ?_;rintro e w2 ⟨rfl,hb2⟩;obtain⟨d0,d1,d2,d3,dg⟩:=cells4 (Hh.out.below hb2).blk;rw[uI.out] at d3)
   have hb3:=hb2.alloc hb2.size (.cells #[.int .i64 xk,.string xs,.int .i64 xn,.int .i64 xa] 101)
   refine(Hf.out _ (Hh.out.below hb3)).mono ?_
   rintro e w3 ⟨rfl,h3,hb4⟩
   have H5:=ae (And.intro h3 ((But.of_below hb3).trans' hb4))
   clear hb2 hb3 hb4 h3
   go_wp2
   go_ret
   exact⟨rfl,H5.out.1,H5.out.2⟩
structure HY (gp gc:Nat) (w:World) (A:Option Addr) (ca:Nat) (B:Option Addr) (cb:Nat) (l:List (ByteArray×Int)):Prop where
 a:rX w A l.length ca (l.map (·.1))
 b:az w 1 B l.length cb (l.map fun p=>[.int .i64 p.2])
 akw:∀ x,A=some x→Off gp gc x.block
 akx:∀ x,B=some x→Off gp gc x.block
theorem HY.but {gp gc:Nat} {w w':World} {A:Option Addr} {ca:Nat} {B:Option Addr} {cb:Nat} {l:List (ByteArray×Int)} (h:HY gp gc w A ca B cb l) (hb:But (fV gp gc) w w'):HY gp gc w' A ca B cb l :=
 ⟨az.but h.a hb fun a ha _ hs=>by
   obtain⟨h1,h2⟩:=h.akw a ha
   rcases hs with e|e
   ·exact h1 e
   ·exact h2 e,
  az.but h.b hb fun a ha _ hs=>by
   obtain⟨h1,h2⟩:=h.akx a ha
   rcases hs with e|e
   ·exact h1 e
   ·exact h2 e,h.akw,h.akx⟩
theorem HY.op {gp gc:Nat} {w:World} {A:Option Addr} {ca:Nat} {B:Option Addr} {cb:Nat} {l:List (ByteArray×Int)} (h:HY gp gc w A ca B cb l) {k:Nat} {t:ByteArray} {op:Int} (hk:l[k]?=some (t,op)) :
  ∃ b o,B=some ⟨b,o,none⟩∧∀ W,But (fV gp gc) w W→b<W.heap.size∧W.cell? ⟨b,o+k,none⟩=some (.int .i64 op):=by
 obtain⟨b,o,hB,_,_⟩:=az.one h.b (k:=k) (u:=.int .i64 op) (by rw[List.getElem?_map,hk];rfl)
 refine⟨b,o,hB,fun W hW=>?_⟩
 obtain⟨b2,o2,hB2,hlt,hc⟩:=az.one (h.but hW).b (k:=k) (u:=.int .i64 op) (by rw[List.getElem?_map,hk];rfl)
 rw[hB] at hB2
 injection hB2 with hB2
 injection hB2 with e1 e2
 subst e1 e2
 exact⟨hlt,hc⟩
theorem ahr {W:aV} {l:List (ByteArray×Int)} {s:au} {k:Nat} {t:ByteArray} {op:Int} (h:l[k]?=some (t,op)):jH W (l.drop k) s=if (ay W t s).1 then (op,(ay W t s).2) else jH W (l.drop (k+1)) s:=by
 obtain⟨hk,e⟩:=List.getElem?_eq_some_iff.1 h
 rw[List.drop_eq_getElem_cons hk,e]
 rfl
theorem VI {W:aV} {s:au} {t:ByteArray} (h:(ay W t s).1=false):(ay W t s).2=s:=by
 unfold ay at h ⊢
 split at h
 ·cases h
 ·rename_i h1;rw[if_neg h1]
theorem DR (gp gc gw:Nat) (W:aV) (s:au) (l:List (ByteArray×Int)) (A B:Option Addr) (n ca cb:Nat) (w:World) (h:aW gp gc gw W s w) (hl:HY gp gc w A ca B cb l) (hn:l.length=n) :
  Calls Tryz.prog 165 #[.agg #[.slice A n ca,.slice B n cb],.pointer (some ⟨gp,0,none⟩)] w fun e w'=>e=.returned (.int .i64 (jH W l s).1)∧aW gp gc gw W (jH W l s).2 w'∧But (fV gp gc) w w':=by
 have hnn:=az.gu hl.a
 rw[hn] at hnn
 obtain⟨w1,Hw1⟩:∃ w1,Hid (w1=w.alloc (.cells #[.slice A n ca,.slice B n cb] 192)):=⟨_,rfl⟩
 have hb1:Below w.heap.size w w1:=by rw[Hw1.out];exact(Below.refl _ _).alloc (Nat.le_refl _) _
 have hk1:af w1 w.heap.size 192 #[.slice A n ca,.slice B n cb]:=by rw[Hw1.out];exact af.laid _ _ _
 have h1:=h.below hb1
 have hl1:=hl.but (But.of_below hb1)
 have hgs:w.heap.size≠gp∧w.heap.size≠gc:=by have:=h.lt;omega
 have Hb1:=ae hb1
 have hx:∀ W,But (fV gp gc) w1 W→W.cell? ⟨w.heap.size,0,none⟩=some (.slice A n ca)∧W.cell? ⟨w.heap.size,1,none⟩=some (.slice B n cb)∧w.heap.size<W.heap.size:=fun W hW=>by
  have hk:=hk1.ag (hW.block _ hk1.lt (by rintro(e|e);exact hgs.1 e;exact hgs.2 e))
  have a0:=hk.cell 0
  have a1:=hk.cell 1
  simp at a0 a1
  exact⟨a0,a1,hk.lt⟩
 have Hx:=ae hx
 have Hl1:=ae hl1
 have Hn:=ae hn
 have gB:=ae (fun t w2 (hW:aW gp gc gw W s w2)=>gX gp gc gw W s t w2 hW)
 obtain⟨y0,y1,yl⟩:=hx _ (But.refl _ _)
 generalize hfin:jH W l s=fin
 have bn:=ae hfin
 have H1:=ae h1
 clear h1 hl1 hk1 hb1 hx hgs hl hn h hfin
 go_enter Tryz.func165,Tryz.ntmps165
 go_upto_region 1 with (fail)
 rw[← Hw1.out]
 go_wp2
 go_loopw [10] (fun i wr=>∃ k:Nat,k≤n∧i=.int .i64 k∧aW gp gc gw W s wr∧But (fV gp gc) w1 wr∧Hid (jH W (l.drop k) s=fin)) (fun i _=>n-(intOf i).toNat)
 case atStart=>exact⟨0,Nat.zero_le _,rfl,H1.out,But.refl _ _,ae (by simpa using bn.out)⟩
 case round =>
  obtain⟨k,hk,rfl,hP,hB,HF⟩:=hrel
  rcases Nat.lt_or_ge k n with hlt|hge
  ·have hln:=Hn.out
   have hlk:l[k]?=some (l[k]'(by omega)):=List.getElem?_eq_getElem _
   generalize l[k]'(by omega)=pr at hlk
   obtain⟨t,op⟩:=pr
   have hl2:=Hl1.out.but hB
   obtain⟨b,o,t',rfl,hbl,ht,hc⟩:=hl2.a.get (k:=k) (by omega)
   rw[List.getElem?_map,hlk] at ht
   simp only[Option.map_some,Option.some.injEq] at ht
   subst ht
   obtain⟨b2,o2,rfl,hops⟩:=hl2.op hlk
   have wW:=ae hops
   have hm:=gB.out t wr hP
   have hop:=ahr (W:=W) (s:=s) hlk
   rw[HF.out] at hop
   obtain⟨z0,z1,zl⟩:=Hx.out _ hB
   have HB:=ae hB
   have Hmn:=ae (VI (W:=W) (s:=s) (t:=t))
   cases hv:(ay W t s).1 with
   | true =>
    rw[hv,if_pos rfl] at hop
    rw[hv] at hm
    have Hm:=ae hm
    subst hop
    clear hm hv hlk hB hP hl2 hln hops
    go_wp2_with (go_at_call 52;refine Hm.out.mono ?_;rintro e w3 ⟨rfl,hP3,hB3⟩;obtain⟨v0,v1,vl⟩:=Hx.out _ (HB.out.trans' hB3);obtain⟨q0,q1⟩:=wW.out _ hB3;have H3:=ae (And.intro hP3 hB3);clear hP3 hB3)
    go_ret
    exact⟨rfl,H3.out.1,(But.of_below Hb1.out).trans' (HB.out.trans' H3.out.2)⟩
   | false =>
    rw[hv] at hop hm
    have hm2:=Hmn.out hv
    rw[hm2] at hm
    rw[if_neg (by decide)] at hop
    have Hm:=ae hm
    have Hop:=ae hop
    clear hm hv hlk hB hP hl2 hln hops hop hm2
    go_wp2_with (go_at_call 52;refine Hm.out.mono ?_;rintro e w3 ⟨rfl,hP3,hB3⟩;have H3:=ae (And.intro hP3 hB3);clear hP3 hB3)
    go_roundw
    case rel=>exact⟨k+1,by omega,by simp,H3.out.1,HB.out.trans' H3.out.2,ae Hop.out.symm⟩
    case measure=>simp[intOf];omega
  ·have hkn:k=n:=by omega
   subst hkn
   have H3:=ae (And.intro hP hB)
   have hd:=HF.out
   rw[List.drop_eq_nil_of_le (by have:=Hn.out;omega)] at hd
   have Hd:=ae hd
   clear hP hB hd
   go_wp2
   go_ret
   rw[← Hd.out]
   exact⟨rfl,H3.out.1,(But.of_below Hb1.out).trans' H3.out.2⟩
theorem xO {F:Nat→Prop} {d n g:Nat} {w:World} (T:TypeId) (rows:List (List Value)) (es:List Ex) (hg:g=w.heap.size) (hF:F g) (hn:es.length=n) (hn2:n≤1000) (hl:rows.length=es.length) (h:∀ (k:Nat) (r:List Value) (x:Ex),rows[k]?=some r→es[k]?=some x→aC F d w r x) :
  aO F d (w.alloc (.cells rows.flatten.toArray T)) (some ⟨g,0,none⟩) n n es:=by
 have hb:=(Below.refl w.heap.size w).alloc (Nat.le_refl _) (.cells rows.flatten.toArray T)
 have h6:∀ (k:Nat) (r:List Value) (x:Ex),rows[k]?=some r→es[k]?=some x→r.length=6∧aC F d (w.alloc (.cells rows.flatten.toArray T)) r x:=fun k r x h1 h2=>⟨(h k r x h1 h2).len,(h k r x h1 h2).below hb⟩
 refine⟨rows,az.nG _ rows n hg (by simp) (fun r hr=>?_) (by omega) (by unfold maxLen;omega),fun a ha _=>by cases ha;exact hF,hl,h6⟩
 obtain⟨k,hk,rfl⟩:=List.mem_iff_getElem.1 hr
 exact(h6 k _ _ (List.getElem?_eq_getElem hk) (List.getElem?_eq_getElem (by omega))).1
theorem Ua {F:Nat→Prop} {d:Nat} {w:World} {op:Int} {A:Option Addr} {n c:Nat} {es:List Ex} (h0:0≤op) (h1:op≤100) (h:aO F d w A n c es):aC F (d+1) w [.int .i64 op,.int .i64 0,.string ⟨#[]⟩,.string ⟨#[]⟩,.string ⟨#[]⟩,.slice A n c] (.mk op 0 nil0 nil0 nil0 es):=by
 have h2:okS nil0:=by unfold okS;exact Nat.zero_le _
 exact⟨⟨by show _≤op;omega,by show op≤_;omega⟩,⟨by show (_:Int)≤0;omega,by show (0:Int)≤_;omega⟩,h2,h2,h2,A,n,c,rfl,h⟩
theorem ahs:(Tryz.prog.info? 55).map (·.size)=some 6:=by kernel_rfl
theorem fA {fn:Func} {p:Tmp} {tmps:Array Value} {w:World} {g:Nat} {t:TypeId} {cs:Array Value} (h:fn.results=#[.cell p 55]) (hp:tmps.getD p undef=.pointer (some ⟨g,0,none⟩)) (hk:af w g t cs) (hz:cs.size=6):(results fn tmps).run Tryz.prog w=.ok (.agg cs) w :=
 results_cell_row h tmps w g t cs (0,0) _ hp hk Tryz.underlying55 rfl (by rw[hz];exact ahs)
theorem bP {F:Nat→Prop} {d:Nat} {w:World} {row:List Value} {e:Ex} (h:aC F d w row e):∃ A m c,row=[.int .i64 e.op,.int .i64 e.n,.string e.s,.string e.name,.string e.src,.slice A m c]:=by
 cases d with
 | zero=>exact h.elim
 | succ d=>obtain⟨_,_,_,_,_,A,m,c,h,_⟩:=h.open_;exact⟨A,m,c,h⟩
theorem jr {w:World} {g:Nat} {T:TypeId} {cs:Array Value} (hg:g=w.heap.size):af (w.alloc (.cells cs T)) g T cs:=by subst hg;exact af.laid _ _ _
theorem wX (F:Nat→Prop) (d:Nat) (op:Int) (a b:Ex) (ra rb:List Value) (w:World) (h0:0≤op) (h1:op≤100) (ha:aC F d w ra a) (hb:aC F d w rb b) (hF:∀ k,w.heap.size≤k→F k) :
  Calls Tryz.prog 166 #[.int .i64 op,.agg ra.toArray,.agg rb.toArray] w fun e w'=>∃ row,e=.returned (.agg row.toArray)∧aC F (d+1) w' row (cO op a b)∧Below w.heap.size w w':=by
 obtain⟨A1,m1,c1,ea⟩:=bP ha
 obtain⟨A2,m2,c2,eb⟩:=bP hb
 have hres:∀ (W:World) (g:Nat),Below w.heap.size w W→g=W.heap.size→aC F (d+1) (W.alloc (.cells (ra++rb).toArray 55)) [.int .i64 op,.int .i64 0,.string ⟨#[]⟩,.string ⟨#[]⟩,.string ⟨#[]⟩,.slice (some ⟨g,0,none⟩) 2 2] (cO op a b):=fun W g hW hg=>by
  have h2:=xO (n:=2) (w:=W) 55 [ra,rb] [a,b] hg (hF _ (by have:=hW.size;omega)) rfl (by omega) rfl (d:=d) (F:=F) (fun k r x h1 h2=>by
   rcases k with _|_|k
   ·simp at h1 h2;subst h1 h2;exact ha.below hW
   ·simp at h1 h2;subst h1 h2;exact hb.below hW
   ·simp at h1)
  have e:[ra,rb].flatten=ra++rb:=by simp
  rw[e] at h2
  exact Ua h0 h1 h2
 have Xj:=ae hres
 clear hres ha hb
 subst ea eb
 go_enter Tryz.func166,Tryz.ntmps166
 go_wp2
 have hb3:Below w.heap.size w (((w.alloc (.cells #[.int .i64 a.op,.int .i64 a.n,.string a.s,.string a.name,.string a.src,.slice A1 m1 c1] 55)).alloc (.cells #[.int .i64 b.op,.int .i64 b.n,.string b.s,.string b.name,.string b.src,.slice A2 m2 c2] 55)).alloc (.cells #[.int .i64 op,.int .i64 0,.string ⟨#[]⟩,.string ⟨#[]⟩,.string ⟨#[]⟩,.slice (some ⟨w.heap.size+1+1+1,0,none⟩) 2 2] 55)) :=
  (((Below.refl _ _).alloc (Nat.le_refl _) _).alloc (by simp) _).alloc (by simp;omega) _
 refine bodyPost_ret (v:=.agg #[.int .i64 op,.int .i64 0,.string ⟨#[]⟩,.string ⟨#[]⟩,.string ⟨#[]⟩,.slice (some ⟨w.heap.size+1+1+1,0,none⟩) 2 2]) (fA Tryz.results166 rfl ((jr (by simp)).alloc _) rfl) rfl ⟨_,rfl,Xj.out _ _ hb3 (by simp),hb3.alloc (by simp;omega) _⟩
def Fit (W:aV) (m:Nat) (s:au):Prop:=s.bad=true∨W.l.length<s.at_+m
def Up {α:Type} (one:au→α×au):Prop:=∀ s,s.at_≤(one s).2.at_∧(s.bad=true→(one s).2.bad=true)
theorem Fit.up {W:aV} {m:Nat} {s:au} {α:Type} {one:au→α×au} (h:Fit W m s) (hu:Up one):Fit W m (one s).2:=by
 obtain⟨h1,h2⟩:=hu s
 rcases h with h|h
 ·exact .inl (h2 h)
 ·exact .inr (by omega)
theorem Fit.more {W:aV} {m m':Nat} {s:au} (h:Fit W m s) (hm:m≤m'):Fit W m' s:=h.imp id (fun h=>by omega)
theorem Fit.on {W:aV} {m:Nat} {s:au} (h:Fit W (m+1) s):Fit W m s.on:=h.imp id (fun h=>by show _<s.at_+1+m;omega)
def Fr (w:World):Nat→Prop:=fun b=>w.heap.size≤b
def jv (gp gc gw:Nat) (W:aV) (s':au) (x:Ex) (w:World) (e:Ending) (w':World):Prop:=∃ row D,e=.returned (.agg row.toArray)∧aC (Fr w) D w' row x∧aW gp gc gw W s' w'∧But (fV gp gc) w w'
def fB (gp gc gw:Nat) (W:aV) (f:FuncId) (one:au→Ex×au) (m:Nat):Prop:=∀ s w,aW gp gc gw W s w→Fit W m s→Calls Tryz.prog f #[.pointer (some ⟨gp,0,none⟩)] w (jv gp gc gw W (one s).2 (one s).1 w)
theorem fK {gp gc:Nat} {w2 w3:World} {F:Nat→Prop} (h:But (fV gp gc) w2 w3) (hF:∀ k,F k→gp<k∧gc<k):Kept F w2 w3:=Kept.aN h fun k hk hs=>by
 obtain⟨h1,h2⟩:=hF k hk
 rcases hs with e|e<;>omega
theorem xP (W:aV) (s:au):∀ (l:List (ByteArray×Int)),jH W l s=(0,s)∨∃ p∈l,jH W l s=(p.2,s.on)∧s.bad=false∧s.at_<W.l.length:=by
 intro l
 induction l with
 | nil=>exact .inl rfl
 | cons p l ih =>
  obtain⟨t,op⟩:=p
  cases hv:(ay W t s).1 with
  | true =>
   right
   refine⟨(t,op),by simp,?_⟩
   have e:ay W t s=(true,s.on):=by
    unfold ay at hv ⊢
    split at hv
    ·rename_i h;rw[if_pos h]
    ·cases hv
   have e2:jH W ((t,op)::l) s=(op,(ay W t s).2):=by
    show (if (ay W t s).1 then _ else _)=_
    rw[hv,if_pos rfl]
   rw[e2,e]
   unfold ay jO at hv
   split at hv
   ·rename_i h
    simp only[Bool.and_eq_true,Bool.not_eq_true'] at h
    exact⟨rfl,h.1,Io h.2⟩
   ·cases hv
  | false =>
   have e2:jH W ((t,op)::l) s=jH W l s:=by
    show (if (ay W t s).1 then _ else _)=_
    rw[hv,if_neg (by decide)]
   rw[e2]
   rcases ih with h|⟨p,hp,h⟩
   ·exact .inl h
   ·exact .inr ⟨p,by simp[hp],h⟩
def oN (W:aV) (l:List (ByteArray×Int)) (one:au→Ex×au) (k:Nat) (op:Int) (e:Ex) (s:au):Ex×au:=if op=0 then (e,s) else jq W l one k (cO op e (one s).1) (one s).2
theorem ve (W:aV) (l:List (ByteArray×Int)) (one:au→Ex×au) (k:Nat) (e:Ex) (s:au):jq W l one (k+1) e s=oN W l one k (jH W l s).1 e (jH W l s).2:=rfl
theorem oO {W:aV} {l:List (ByteArray×Int)} {s:au} {k m:Nat} (h1:Fit W (k+1) s) (h2:Fit W m s) (hop:∀ p∈l,1≤p.2∧p.2≤100) :
  Fit W (k+1) (jH W l s).2∧((jH W l s).1≠0→1≤(jH W l s).1∧(jH W l s).1≤100∧1≤k∧Fit W k (jH W l s).2∧Fit W m (jH W l s).2):=by
 rcases xP W s l with h|⟨p,hp,h,hb,hlt⟩
 ·rw[h];exact⟨h1,fun h=>absurd rfl h⟩
 ·rw[h]
  obtain⟨h3,h4⟩:=hop p hp
  have h1:W.l.length<s.at_+(k+1):=h1.elim (fun h=>by rw[hb] at h;cases h) id
  have h2:W.l.length<s.at_+m:=h2.elim (fun h=>by rw[hb] at h;cases h) id
  exact⟨.inr (by show _<s.at_+1+(k+1);omega),fun _=>⟨h3,h4,by omega,.inr (by show _<s.at_+1+k;omega),.inr (by show _<s.at_+1+m;omega)⟩⟩
theorem xQ {W:aV} {l:List (ByteArray×Int)} {s:au}:s.at_+(if (jH W l s).1=0 then 0 else 1)≤(jH W l s).2.at_:=by
 rcases xP W s l with h|⟨p,hp,h,hb,hlt⟩
 ·rw[h];simp
 ·rw[h]
  show _≤s.at_+1
  split<;>omega
def oP (w:World) (gc:Nat):Nat:=match w.cell? ⟨gc,0,none⟩ with|some (.int _ a)=>a.toNat|_=>0
theorem iQ {gp gc gw:Nat} {W:aV} {s:au} {w:World} (h:aW gp gc gw W s w):oP w gc=s.at_:=by
 obtain⟨⟨A,n,c,hk,_⟩,_⟩:=h.cu
 unfold oP
 rw[(cells3 hk).1]
 simp
theorem aW.le {gp gc gw:Nat} {W:aV} {s:au} {w:World} (h:aW gp gc gw W s w):s.at_≤W.l.length:=h.cu.le
theorem ah {gp gc g:Nat} {w w':World} {T:TypeId} {cs:Array Value} (h:af w g T cs) (hb:But (fV gp gc) w w') (hg:gp<g∧gc<g):af w' g T cs :=
 h.ag (hb.block _ h.lt (by rintro(e|e)<;>omega))
theorem cells2 {w:World} {g:Nat} {T:TypeId} {v0 v1:Value} (h:af w g T #[v0,v1]):w.cell? ⟨g,0,none⟩=some v0∧w.cell? ⟨g,1,none⟩=some v1∧g<w.heap.size:=by
 have h0:=h.cell 0;have h1:=h.cell 1
 simp at h0 h1
 exact⟨h0,h1,h.lt⟩
theorem aH {w:World} {g:Nat} {T:TypeId} {v0 v1 v2 v3 v4 v5:Value} (h:af w g T #[v0,v1,v2,v3,v4,v5]):w.cell? ⟨g,0,none⟩=some v0∧w.cell? ⟨g,1,none⟩=some v1∧w.cell? ⟨g,2,none⟩=some v2∧w.cell? ⟨g,3,none⟩=some v3∧w.cell? ⟨g,4,none⟩=some v4∧w.cell? ⟨g,5,none⟩=some v5∧g<w.heap.size:=by
 have h0:=h.cell 0;have h1:=h.cell 1;have h2:=h.cell 2;have h3:=h.cell 3;have h4:=h.cell 4;have h5:=h.cell 5
 simp at h0 h1 h2 h3 h4 h5
 exact⟨h0,h1,h2,h3,h4,h5,h.lt⟩
abbrev zero6:Array Value:=#[.int .i64 0,.int .i64 0,.string ⟨#[]⟩,.string ⟨#[]⟩,.string ⟨#[]⟩,.slice none 0 0]
def Sl (W:aV) (op:Int) (a:Nat):Nat:=2*(W.l.length-a)+(if op=0 then 0 else 1)
def uJ (w:World) (g:Nat) (v0 v1 v2 v3 v4 v5:Value):World:=(((((w.setCell ⟨g,0,none⟩ v0).setCell ⟨g,1,none⟩ v1).setCell ⟨g,2,none⟩ v2).setCell ⟨g,3,none⟩ v3).setCell ⟨g,4,none⟩ v4).setCell ⟨g,5,none⟩ v5
theorem bJ (w:World) (g:Nat) (v0 v1 v2 v3 v4 v5:Value):(((((w.setCell ⟨g,0,none⟩ v0).setCell ⟨g,1,none⟩ v1).setCell ⟨g,2,none⟩ v2).setCell ⟨g,3,none⟩ v3).setCell ⟨g,4,none⟩ v4).setCell ⟨g,5,none⟩ v5=uJ w g v0 v1 v2 v3 v4 v5:=rfl
theorem fO {w:World} {g:Nat} {T:TypeId} {u0 u1 u2 u3 u4 u5:Value} (v0 v1 v2 v3 v4 v5:Value) (h:af w g T #[u0,u1,u2,u3,u4,u5]):af (uJ w g v0 v1 v2 v3 v4 v5) g T #[v0,v1,v2,v3,v4,v5] :=
 (((((h.stored 0 v0).stored 1 v1).stored 2 v2).stored 3 v3).stored 4 v4).stored 5 v5
theorem fP (w:World) (g:Nat) (v0 v1 v2 v3 v4 v5:Value):But (fun k=>k=g) w (uJ w g v0 v1 v2 v3 v4 v5):=by
 have h:=But.refl (fun k=>k=g) w
 have h:=h.setCell (p:=⟨g,0,none⟩) (.inl rfl) v0
 have h:=h.setCell (p:=⟨g,1,none⟩) (.inl rfl) v1
 have h:=h.setCell (p:=⟨g,2,none⟩) (.inl rfl) v2
 have h:=h.setCell (p:=⟨g,3,none⟩) (.inl rfl) v3
 have h:=h.setCell (p:=⟨g,4,none⟩) (.inl rfl) v4
 exact h.setCell (p:=⟨g,5,none⟩) (.inl rfl) v5
end Go.Proofs.YtjjfkhbajidmdaaGreatDoor

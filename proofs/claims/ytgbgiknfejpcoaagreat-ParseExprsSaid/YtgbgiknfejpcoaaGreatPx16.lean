/- Parts of this proof, one behind the other: ParU, ParG0, ParG, ParH, ParI. -/
import Derived.Test.YtgbgiknfejpcoaaGreatPx14
import Derived.Test.YtgbgiknfejpcoaaGreatPx15
set_option maxRecDepth 1000000
set_option maxHeartbeats 40000000
namespace Go.Proofs.YtgbgiknfejpcoaaGreat
open Go.RowKit Go.Afx
def Ge (s s':PSt):Prop:=s.at_≤s'.at_∧(s.bad=true→s'.bad=true)
theorem Ge.refl (s:PSt):Ge s s:=⟨Nat.le_refl _,id⟩
theorem Ge.trans {a b c:PSt} (h:Ge a b) (k:Ge b c):Ge a c:=⟨Nat.le_trans h.1 k.1,fun x=>k.2 (h.2 x)⟩
theorem Fit.ge {W:Wds} {m:Nat} {s s':PSt} (h:Fit W m s) (hg:Ge s s'):Fit W m s':=h.imp (hg.2) (fun h=>by have:=hg.1;omega)
theorem ge_on (s:PSt):Ge s s.on:=⟨Nat.le_succ _,id⟩
theorem ge_fail (s:PSt):Ge s s.fail:=⟨Nat.le_refl _,fun _=>rfl⟩
theorem ge_may (W:Wds) (t:ByteArray) (s:PSt):Ge s (mayP W t s).2:=by
 unfold mayP
 split
 ·exact ge_on s
 ·exact Ge.refl s
theorem ge_must (W:Wds) (t:ByteArray) (s:PSt):Ge s (mustP W [t] s):=by
 unfold mustP mustP
 split
 ·exact ge_may W t s
 ·exact ge_fail s
theorem ge_enter (s:PSt):Ge s (enterP s):=by
 unfold enterP
 split
 ·exact⟨Nat.le_refl _,fun _=>rfl⟩
 ·exact⟨Nat.le_refl _,id⟩
theorem ge_leave (s:PSt):Ge s (leaveP s):=⟨Nat.le_refl _,id⟩
theorem up_name (W:Wds) (s:PSt):Ge s (nameP W s).2:=by
 unfold nameP
 split
 ·exact ge_fail s
 ·exact ge_on s
theorem up_num (W:Wds) (s:PSt):Ge s (numP W s).2:=by
 unfold numP
 split
 ·exact Ge.refl s
 ·split
  ·exact ge_on s
  ·exact ge_fail s
theorem up_op (W:Wds) (l:List (ByteArray×Int)) (s:PSt):Ge s (opP W l s).2:=by
 rcases opP_cases W s l with h|⟨p,_,h,_⟩
 ·rw[h];exact Ge.refl s
 ·rw[h];exact ge_on s
theorem up_chain (W:Wds) (l:List (ByteArray×Int)) {one:PSt→Ex×PSt} (h:∀ s,Ge s (one s).2):∀ (k:Nat) (e:Ex) (s:PSt),Ge s (chainP W l one k e s).2:=by
 intro k
 induction k with
 | zero=>exact fun e s=>Ge.refl s
 | succ k ih =>
  intro e s
  unfold chainP
  split
  ·exact up_op W l s
  ·exact(up_op W l s).trans ((h _).trans (ih _ _))
theorem up_chain1 (W:Wds) (l:List (ByteArray×Int)) {one:PSt→Ex×PSt} (h:∀ s,Ge s (one s).2) (s:PSt):Ge s (chain1 W l one s).2:=(h s).trans (up_chain W l h _ _ _)
theorem up_rows (W:Wds) (s:PSt):Ge s (rowsP W s).2:=(up_name W s).trans ((ge_must W _ _).trans (up_name W _))
section
variable (W:Wds) {E:PSt→Ex×PSt} (h:∀ s,Ge s (E s).2)
include h
theorem up_where (s:PSt):Ge s (whereP W E s).2:=by
 unfold whereP
 split
 ·exact(ge_may W _ s).trans (h _)
 ·exact Ge.refl s
omit h in
theorem up_foldOp (s:PSt):Ge s (foldOp W s).2:=by
 unfold foldOp
 split
 ·exact ge_may W _ s
 ·split
  ·exact ge_may W _ s
  ·split
   ·exact ge_may W _ s
   ·exact ge_must W _ s
theorem up_fold (s:PSt):Ge s (foldP W E s).2:=by
 have h1:=(up_foldOp W s).trans ((ge_must W (str [40]) _).trans ((ge_enter _).trans ((up_rows W _).trans (up_where W h _))))
 unfold foldP
 simp only
 split
 ·exact h1.trans ((ge_must W _ _).trans (ge_leave _))
 ·exact h1.trans ((ge_must W _ _).trans ((h _).trans ((ge_must W _ _).trans (ge_leave _))))
theorem up_paren (s:PSt):Ge s (parenP W E s).2:=(ge_must W _ s).trans ((ge_enter _).trans ((h _).trans ((ge_must W _ _).trans (ge_leave _))))
omit h in
theorem up_var (s:PSt):Ge s (varP W s).2:=by
 unfold varP
 simp only
 split
 ·exact(up_name W s).trans ((ge_may W _ _).trans (up_name W _))
 ·exact up_name W s
theorem up_single (s:PSt):Ge s (singleP W E s).2:=by
 unfold singleP
 repeat' split
 all_goals first|exact Ge.refl s|exact ge_on s|exact up_fold W h s|exact up_paren W h s|exact up_var W s
theorem up_signed:∀ (k:Nat) (s:PSt),Ge s (signedP W E k s).2:=by
 intro k
 induction k with
 | zero=>exact fun s=>Ge.refl s
 | succ k ih =>
  intro s
  unfold signedP
  split
  ·exact(ge_may W _ s).trans ((ge_enter _).trans ((ih _).trans (ge_leave _)))
  ·exact up_single W h s
theorem up_product (s:PSt):Ge s (productP W E s).2:=up_chain1 W _ (up_signed W h _) s
theorem up_sum (s:PSt):Ge s (sumP W E s).2:=up_chain1 W _ (up_product W h) s
theorem up_cmp (s:PSt):Ge s (cmpP W E s).2:=by
 unfold cmpP
 simp only
 split
 ·exact(up_sum W h s).trans (up_op W _ _)
 ·exact(up_sum W h s).trans ((up_op W _ _).trans (up_sum W h _))
theorem up_not:∀ (k:Nat) (s:PSt),Ge s (notP W E k s).2:=by
 intro k
 induction k with
 | zero=>exact fun s=>Ge.refl s
 | succ k ih =>
  intro s
  unfold notP
  split
  ·exact(ge_may W _ s).trans ((ge_enter _).trans ((ih _).trans (ge_leave _)))
  ·exact up_cmp W h s
theorem up_both (s:PSt):Ge s (bothP W E s).2:=up_chain1 W _ (up_not W h _) s
end
theorem up_expr (W:Wds):∀ (f:Nat) (s:PSt),Ge s (exprP W f s).2:=by
 intro f
 induction f with
 | zero=>exact fun s=>Ge.refl s
 | succ f ih=>exact fun s=>up_chain1 W _ (up_both W ih) s
open Go.RowKit Go.Afx
theorem gives_of {gp gc gw g:Nat} {W:Wds} {s':PSt} {x:Ex} {w w3 w4:World} {D:Nat} {A:Option Addr} {m c:Nat} {T:TypeId} {u0 u1 u2 u3 u4 u5:Value}
  (hx:ExAt (Fr w3) D w4 [.int .i64 x.op,.int .i64 x.n,.string x.s,.string x.name,.string x.src,.slice A m c] x) (hP:PAt gp gc gw W s' w4) (hB:But (On2 gp gc) w w4) (hk:IsBlk w4 g T #[u0,u1,u2,u3,u4,u5]) (hg1:w.heap.size≤g) (hg2:g<w3.heap.size) (hz:gp<w.heap.size∧gc<w.heap.size∧gw<w.heap.size) :
  IsBlk (lay6 w4 g (.int .i64 x.op) (.int .i64 x.n) (.string x.s) (.string x.name) (.string x.src) (.slice A m c)) g T #[.int .i64 x.op,.int .i64 x.n,.string x.s,.string x.name,.string x.src,.slice A m c] ∧
  GivesE gp gc gw W s' x w (.returned (.agg #[.int .i64 x.op,.int .i64 x.n,.string x.s,.string x.name,.string x.src,.slice A m c])) (lay6 w4 g (.int .i64 x.op) (.int .i64 x.n) (.string x.s) (.string x.name) (.string x.src) (.slice A m c)):=by
 have hb7:=lay6_but w4 g (.int .i64 x.op) (.int .i64 x.n) (.string x.s) (.string x.name) (.string x.src) (.slice A m c)
 refine⟨lay6_blk _ _ _ _ _ _ hk,_,D,rfl,?_,hP.elsewhere hb7 (by omega),hB.trans hb7 (fun i hi=>.inr (by omega))⟩
 exact ExAt.conv (fun k (hk:w3.heap.size≤k)=>by show w.heap.size≤k;omega) (Kept.of_but hb7 fun k (hk:w3.heap.size≤k) e=>by omega) D (Nat.le_refl _) hx
theorem name_ok {gp gc gw:Nat} {W:Wds} {s:PSt} {w:World} (h:PAt gp gc gw W s w) (s':PSt):okS (nameP W s').1:=by
 unfold nameP
 split
 ·unfold okS;exact Nat.zero_le _
 ·exact(h.okw _).2.1
theorem num_ok {gp gc gw:Nat} {W:Wds} {s:PSt} {w:World} (h:PAt gp gc gw W s w) (s':PSt):okI (numP W s').1:=by
 unfold numP
 split
 ·constructor<;>simp
 ·split
  ·exact(h.okw _).2.2.1
  ·constructor<;>simp
theorem pRows_any (gp gc gw:Nat) (W:Wds) (s:PSt) (w:World) (h:PAt gp gc gw W s w) :
  Calls Tryz.prog 194 #[.pointer (some ⟨gp,0,none⟩)] w fun e w'=>e=.returned (.tuple #[.string (rowsP W s).1.1,.string (rowsP W s).1.2])∧PAt gp gc gw W (rowsP W s).2 w'∧But (On2 gp gc) w w':=by
 have Hn:=Lhd (fun s' w2 (hW:PAt gp gc gw W s' w2)=>pName_any gp gc gw W s' w2 hW)
 have Hm:=Lhd (fun s' w2 (hW:PAt gp gc gw W s' w2)=>pMust_any gp gc gw w2.heap.size W s' (str [105,110]) w2 hW rfl)
 have Hh:=Lhd h
 clear h
 show Calls _ _ _ _ fun e w'=>e=.returned (.tuple #[.string (nameP W s).1,.string (nameP W (mustP W [str [105,110]] (nameP W s).2)).1])∧PAt gp gc gw W (nameP W (mustP W [str [105,110]] (nameP W s).2)).2 w'∧But (On2 gp gc) w w'
 simp only[str] at Hm
 go_enter Tryz.func194,Tryz.ntmps194
 go_wp2_with (fail)
 refine(Hn.out _ _ Hh.out).mono ?_
 rintro e w2 ⟨rfl,hP,hB⟩
 have H2:=Lhd (And.intro hP hB)
 clear hP hB
 go_wp2_with (fail)
 refine(Hm.out _ _ H2.out.1).mono ?_
 rintro e w3 ⟨rfl,hP,hB⟩
 have H3:=Lhd (And.intro hP (H2.out.2.trans' hB))
 clear hP hB
 go_wp2_with (fail)
 refine(Hn.out _ _ H3.out.1).mono ?_
 rintro e w4 ⟨rfl,hP,hB⟩
 have H4:=Lhd (And.intro hP (H3.out.2.trans' hB))
 clear hP hB
 go_wp2
 go_ret2
 exact⟨rfl,H4.out.1,H4.out.2⟩
theorem true_at (F:Nat→Prop) (w:World):ExAt F 1 w [.int .i64 3,.int .i64 1,.string ⟨#[]⟩,.string ⟨#[]⟩,.string ⟨#[]⟩,.slice none 0 0] (.mk 3 1 nil0 nil0 nil0 []):=by
 have h2:okS nil0:=by unfold okS;exact Nat.zero_le _
 exact⟨⟨by show (_:Int)≤3;omega,by show (3:Int)≤_;omega⟩,⟨by show (_:Int)≤1;omega,by show (1:Int)≤_;omega⟩,h2,h2,h2,none,0,0,rfl,LsAt.nil_ _ _ _ _⟩
theorem pWhere_any (gp gc gw:Nat) (W:Wds) (E:PSt→Ex×PSt) (m:Nat) (hE:TakesE gp gc gw W 34 E m):TakesE gp gc gw W 195 (whereP W E) m:=by
 intro s w h hf
 have hz:=And.intro h.lt.1 (And.intro h.lt.2 h.wl)
 have hb1:=(Below.refl w.heap.size w).alloc (Nat.le_refl _) (.cells zero6 60)
 have hk1:=IsBlk.laid w 60 zero6
 have h1:=h.below hb1
 have hm:=pMay_any gp gc gw W s (str [119,104,101,114,101]) _ h1
 have hno:=mayP_no (W:=W) (s:=s) (t:=str [119,104,101,114,101])
 have hE2:=fun w2 hW=>hE (mayP W (str [119,104,101,114,101]) s).2 w2 hW (hf.ge (ge_may W _ s))
 unfold whereP
 generalize (mayP W (str [119,104,101,114,101]) s)=r at *
 obtain⟨v,s2⟩:=r
 simp only[str] at hm
 have Hm:=Lhd hm
 have HE:=Lhd hE2
 have Hb1:=Lhd hb1
 have Hk1:=Lhd hk1
 have Hz:=Lhd hz
 clear hm hE2 hb1 hk1 hz h h1 hf hE
 cases v with
 | true =>
  clear hno
  show Calls _ _ _ _ (GivesE gp gc gw W (E s2).2 (E s2).1 w)
  simp only at HE
  generalize E s2=fin at *
  go_enter Tryz.func195,Tryz.ntmps195
  go_wp2_with (fail)
  refine Hm.out.mono ?_
  rintro e w3 ⟨rfl,hP,hB⟩
  have H3:=Lhd (And.intro hP hB)
  clear hP hB
  go_wp2_with (fail)
  refine(HE.out _ H3.out.1).mono ?_
  rintro e w4 ⟨row,D,rfl,hx,hP,hB⟩
  obtain⟨A2,m2,c2,rfl⟩:=ex_row6 hx
  have hB4:=H3.out.2.trans' hB
  have hk4:=on2_blk Hk1.out hB4 (by have:=Hz.out;omega)
  obtain⟨x0,x1,x2,x3,x4,x5,xl⟩:=cells6 hk4
  have f4:=hk4.frozen
  have hs:=H3.out.2.size
  simp only[World.alloc,Array.size_push] at hs
  have H:=Lhd (gives_of hx hP ((But.of_below Hb1.out).trans' hB4) hk4 (Nat.le_refl _) (by omega) Hz.out)
  clear hx hP hB hk4 hB4 hs
  go_wp2
  rw[lay6_eq]
  exact bodyPost_ret (ret_ex Tryz.results195 rfl H.out.1 rfl) rfl H.out.2
 | false =>
  obtain rfl:=hno rfl
  show Calls _ _ _ _ (GivesE gp gc gw W s2 (.mk 3 1 nil0 nil0 nil0 []) w)
  go_enter Tryz.func195,Tryz.ntmps195
  go_wp2_with (fail)
  refine Hm.out.mono ?_
  rintro e w3 ⟨rfl,hP,hB⟩
  have hk4:=on2_blk Hk1.out hB (by have:=Hz.out;omega)
  obtain⟨x0,x1,x2,x3,x4,x5,xl⟩:=cells6 hk4
  have f4:=hk4.frozen
  have hs:=hB.size
  simp only[World.alloc,Array.size_push] at hs
  have H:=Lhd (gives_of (x:=.mk 3 1 nil0 nil0 nil0 []) (w3:=w3) (true_at (Fr w3) w3) hP ((But.of_below Hb1.out).trans' hB) hk4 (Nat.le_refl _) (by omega) Hz.out)
  clear hP hB hk4 hs
  go_wp2
  rw[lay6_eq]
  exact bodyPost_ret (ret_ex Tryz.results195 rfl H.out.1 rfl) rfl H.out.2
theorem pAhead_not (gp gc gw:Nat) (W:Wds) (one:PSt→Ex×PSt) (s:PSt) (op:Int) (w:World) (h:PAt gp gc gw W s w) (h0:0≤op) (h1:op≤100) (hT:∀ w2,PAt gp gc gw W (enterP s) w2→Calls Tryz.prog 113 #[.pointer (some ⟨gp,0,none⟩)] w2 (GivesE gp gc gw W (one (enterP s)).2 (one (enterP s)).1 w2)) :
  Calls Tryz.prog 163 #[.pointer (some ⟨gp,0,none⟩),.int .i64 op,.func (.func 113) #[.pointer (some ⟨gp,0,none⟩)] #[]] w (GivesE gp gc gw W (leaveP (one (enterP s)).2) (oneP op (one (enterP s)).1) w):=by
 have hz:=And.intro h.lt.1 (And.intro h.lt.2 h.wl)
 have hb1:=(Below.refl w.heap.size w).alloc (Nat.le_refl _) (.cells zero6 60)
 have hk1:=IsBlk.laid w 60 zero6
 have He:=Lhd (pEnter_any gp gc gw W s _ (h.below hb1))
 generalize hfin:one (enterP s)=fin at *
 have Hl:=Lhd (fun w2 (hW:PAt gp gc gw W fin.2 w2)=>pLeave_any gp gc gw W fin.2 w2 hW)
 have HT:=Lhd hT
 have Hb1:=Lhd hb1
 have Hk1:=Lhd hk1
 have Hz:=Lhd hz
 have H01:=Lhd (And.intro h0 h1)
 clear h hz hb1 hk1 hT hfin h0 h1
 obtain⟨w1,Hw1⟩:∃ w1,Hid (w1=w.alloc (.cells zero6 60)):=⟨_,rfl⟩
 have hsz:w1.heap.size=w.heap.size+1:=by rw[Hw1.out];simp
 rw[← Hw1.out] at He Hb1 Hk1
 go_enter Tryz.func163,Tryz.ntmps163
 go_upto_region 1 with (fail)
 rw[← Hw1.out]
 go_wp2_with (fail)
 refine He.out.mono ?_
 rintro e w2 ⟨rfl,hP,hB⟩
 have H2:=Lhd (And.intro hP hB)
 clear hP hB
 go_wp2_with (fail)
 refine(HT.out _ H2.out.1).mono ?_
 rintro e w3 ⟨row,D,rfl,hx,hP,hB⟩
 obtain⟨A2,m2,c2,rfl⟩:=ex_row6 hx
 have hB3:=H2.out.2.trans' hB
 have hz3:=hB3.size
 have hlit:=exs_lit (F:=Fr w1) (d:=D) (n:=1) (g:=w3.heap.size) (w:=w3) 60 [[.int .i64 fin.1.op,.int .i64 fin.1.n,.string fin.1.s,.string fin.1.name,.string fin.1.src,.slice A2 m2 c2]] [fin.1] rfl hz3 rfl (by omega) rfl (fun k r x h1 h2=>by
  rcases k with _|k
  ·simp at h1 h2
   subst h1 h2
   exact ExAt.conv (fun k (hk:w2.heap.size≤k)=>by have:=H2.out.2.size;show w1.heap.size≤k;omega) (Kept.refl _ _) D (Nat.le_refl _) hx
  ·simp at h1)
 have hop:=ex_opn H01.out.1 H01.out.2 hlit
 simp only[List.flatten_cons,List.flatten_nil,List.append_nil] at hop
 have hb4:=(Below.refl w3.heap.size w3).alloc (Nat.le_refl _) (.cells #[.int .i64 fin.1.op,.int .i64 fin.1.n,.string fin.1.s,.string fin.1.name,.string fin.1.src,.slice A2 m2 c2] 60)
 have hb5:=(Below.refl (w3.alloc (.cells #[.int .i64 fin.1.op,.int .i64 fin.1.n,.string fin.1.s,.string fin.1.name,.string fin.1.src,.slice A2 m2 c2] 60)).heap.size (w3.alloc (.cells #[.int .i64 fin.1.op,.int .i64 fin.1.n,.string fin.1.s,.string fin.1.name,.string fin.1.src,.slice A2 m2 c2] 60))).alloc (Nat.le_refl _) (.cells #[.int .i64 op,.int .i64 0,.string ⟨#[]⟩,.string ⟨#[]⟩,.string ⟨#[]⟩,.slice (some ⟨w3.heap.size,0,none⟩) 1 1] 60)
 have hx5:=hop.below hb5
 have hP5:=(hP.below hb4).below hb5
 have hk5:IsBlk ((w3.alloc (.cells #[.int .i64 fin.1.op,.int .i64 fin.1.n,.string fin.1.s,.string fin.1.name,.string fin.1.src,.slice A2 m2 c2] 60)).alloc (.cells #[.int .i64 op,.int .i64 0,.string ⟨#[]⟩,.string ⟨#[]⟩,.string ⟨#[]⟩,.slice (some ⟨w3.heap.size,0,none⟩) 1 1] 60)) (w3.heap.size+1) 60 #[.int .i64 op,.int .i64 0,.string ⟨#[]⟩,.string ⟨#[]⟩,.string ⟨#[]⟩,.slice (some ⟨w3.heap.size,0,none⟩) 1 1]:=blk_new (by simp)
 have hB5:=(hB3.alloc (.cells #[.int .i64 fin.1.op,.int .i64 fin.1.n,.string fin.1.s,.string fin.1.name,.string fin.1.src,.slice A2 m2 c2] 60)).alloc (.cells #[.int .i64 op,.int .i64 0,.string ⟨#[]⟩,.string ⟨#[]⟩,.string ⟨#[]⟩,.slice (some ⟨w3.heap.size,0,none⟩) 1 1] 60)
 have H5:=Lhd (And.intro hx5 (And.intro hP5 (And.intro hk5 (And.intro hB5 hz3))))
 clear hx hP hB hB3 hz3 hlit hop hb4 hb5 hx5 hP5 hk5 hB5
 go_wp2_with (fail)
 refine(Hl.out _ H5.out.2.1).mono ?_
 rintro e w6 ⟨rfl,hP,hB⟩
 have hB6:=H5.out.2.2.2.1.trans' hB
 have hk6:=on2_blk Hk1.out hB6 (by have:=Hz.out;omega)
 have hk7:=on2_blk H5.out.2.2.1 hB (by have:=Hz.out;have:=H5.out.2.2.2.2;omega)
 obtain⟨x0,x1,x2,x3,x4,x5,xl⟩:=cells6 hk6
 obtain⟨y0,y1,y2,y3,y4,y5,yl⟩:=cells6 hk7
 have f6:=hk6.frozen
 have hx6:=H5.out.1.kept (fr_on2 (gp:=gp) (gc:=gc) hB (fun k (hk:w1.heap.size≤k)=>by have:=Hz.out;omega))
 have H:=Lhd (gives_of (x:=oneP op fin.1) (w3:=w1) hx6 hP ((But.of_below Hb1.out).trans' hB6) hk6 (Nat.le_refl _) (by omega) Hz.out)
 clear hP hB hB6 hk6 hk7 hx6
 go_wp2
 rw[lay6_eq]
 exact bodyPost_ret (ret_ex Tryz.results163 rfl H.out.1 rfl) rfl H.out.2
theorem pAhead_signed (gp gc gw:Nat) (W:Wds) (one:PSt→Ex×PSt) (s:PSt) (op:Int) (w:World) (h:PAt gp gc gw W s w) (h0:0≤op) (h1:op≤100) (hT:∀ w2,PAt gp gc gw W (enterP s) w2→Calls Tryz.prog 218 #[.pointer (some ⟨gp,0,none⟩)] w2 (GivesE gp gc gw W (one (enterP s)).2 (one (enterP s)).1 w2)) :
  Calls Tryz.prog 163 #[.pointer (some ⟨gp,0,none⟩),.int .i64 op,.func (.func 218) #[.pointer (some ⟨gp,0,none⟩)] #[]] w (GivesE gp gc gw W (leaveP (one (enterP s)).2) (oneP op (one (enterP s)).1) w):=by
 have hz:=And.intro h.lt.1 (And.intro h.lt.2 h.wl)
 have hb1:=(Below.refl w.heap.size w).alloc (Nat.le_refl _) (.cells zero6 60)
 have hk1:=IsBlk.laid w 60 zero6
 have He:=Lhd (pEnter_any gp gc gw W s _ (h.below hb1))
 generalize hfin:one (enterP s)=fin at *
 have Hl:=Lhd (fun w2 (hW:PAt gp gc gw W fin.2 w2)=>pLeave_any gp gc gw W fin.2 w2 hW)
 have HT:=Lhd hT
 have Hb1:=Lhd hb1
 have Hk1:=Lhd hk1
 have Hz:=Lhd hz
 have H01:=Lhd (And.intro h0 h1)
 clear h hz hb1 hk1 hT hfin h0 h1
 obtain⟨w1,Hw1⟩:∃ w1,Hid (w1=w.alloc (.cells zero6 60)):=⟨_,rfl⟩
 have hsz:w1.heap.size=w.heap.size+1:=by rw[Hw1.out];simp
 rw[← Hw1.out] at He Hb1 Hk1
 go_enter Tryz.func163,Tryz.ntmps163
 go_upto_region 1 with (fail)
 rw[← Hw1.out]
 go_wp2_with (fail)
 refine He.out.mono ?_
 rintro e w2 ⟨rfl,hP,hB⟩
 have H2:=Lhd (And.intro hP hB)
 clear hP hB
 go_wp2_with (fail)
 refine(HT.out _ H2.out.1).mono ?_
 rintro e w3 ⟨row,D,rfl,hx,hP,hB⟩
 obtain⟨A2,m2,c2,rfl⟩:=ex_row6 hx
 have hB3:=H2.out.2.trans' hB
 have hz3:=hB3.size
 have hlit:=exs_lit (F:=Fr w1) (d:=D) (n:=1) (g:=w3.heap.size) (w:=w3) 60 [[.int .i64 fin.1.op,.int .i64 fin.1.n,.string fin.1.s,.string fin.1.name,.string fin.1.src,.slice A2 m2 c2]] [fin.1] rfl hz3 rfl (by omega) rfl (fun k r x h1 h2=>by
  rcases k with _|k
  ·simp at h1 h2
   subst h1 h2
   exact ExAt.conv (fun k (hk:w2.heap.size≤k)=>by have:=H2.out.2.size;show w1.heap.size≤k;omega) (Kept.refl _ _) D (Nat.le_refl _) hx
  ·simp at h1)
 have hop:=ex_opn H01.out.1 H01.out.2 hlit
 simp only[List.flatten_cons,List.flatten_nil,List.append_nil] at hop
 have hb4:=(Below.refl w3.heap.size w3).alloc (Nat.le_refl _) (.cells #[.int .i64 fin.1.op,.int .i64 fin.1.n,.string fin.1.s,.string fin.1.name,.string fin.1.src,.slice A2 m2 c2] 60)
 have hb5:=(Below.refl (w3.alloc (.cells #[.int .i64 fin.1.op,.int .i64 fin.1.n,.string fin.1.s,.string fin.1.name,.string fin.1.src,.slice A2 m2 c2] 60)).heap.size (w3.alloc (.cells #[.int .i64 fin.1.op,.int .i64 fin.1.n,.string fin.1.s,.string fin.1.name,.string fin.1.src,.slice A2 m2 c2] 60))).alloc (Nat.le_refl _) (.cells #[.int .i64 op,.int .i64 0,.string ⟨#[]⟩,.string ⟨#[]⟩,.string ⟨#[]⟩,.slice (some ⟨w3.heap.size,0,none⟩) 1 1] 60)
 have hx5:=hop.below hb5
 have hP5:=(hP.below hb4).below hb5
 have hk5:IsBlk ((w3.alloc (.cells #[.int .i64 fin.1.op,.int .i64 fin.1.n,.string fin.1.s,.string fin.1.name,.string fin.1.src,.slice A2 m2 c2] 60)).alloc (.cells #[.int .i64 op,.int .i64 0,.string ⟨#[]⟩,.string ⟨#[]⟩,.string ⟨#[]⟩,.slice (some ⟨w3.heap.size,0,none⟩) 1 1] 60)) (w3.heap.size+1) 60 #[.int .i64 op,.int .i64 0,.string ⟨#[]⟩,.string ⟨#[]⟩,.string ⟨#[]⟩,.slice (some ⟨w3.heap.size,0,none⟩) 1 1]:=blk_new (by simp)
 have hB5:=(hB3.alloc (.cells #[.int .i64 fin.1.op,.int .i64 fin.1.n,.string fin.1.s,.string fin.1.name,.string fin.1.src,.slice A2 m2 c2] 60)).alloc (.cells #[.int .i64 op,.int .i64 0,.string ⟨#[]⟩,.string ⟨#[]⟩,.string ⟨#[]⟩,.slice (some ⟨w3.heap.size,0,none⟩) 1 1] 60)
 have H5:=Lhd (And.intro hx5 (And.intro hP5 (And.intro hk5 (And.intro hB5 hz3))))
 clear hx hP hB hB3 hz3 hlit hop hb4 hb5 hx5 hP5 hk5 hB5
 go_wp2_with (fail)
 refine(Hl.out _ H5.out.2.1).mono ?_
 rintro e w6 ⟨rfl,hP,hB⟩
 have hB6:=H5.out.2.2.2.1.trans' hB
 have hk6:=on2_blk Hk1.out hB6 (by have:=Hz.out;omega)
 have hk7:=on2_blk H5.out.2.2.1 hB (by have:=Hz.out;have:=H5.out.2.2.2.2;omega)
 obtain⟨x0,x1,x2,x3,x4,x5,xl⟩:=cells6 hk6
 obtain⟨y0,y1,y2,y3,y4,y5,yl⟩:=cells6 hk7
 have f6:=hk6.frozen
 have hx6:=H5.out.1.kept (fr_on2 (gp:=gp) (gc:=gc) hB (fun k (hk:w1.heap.size≤k)=>by have:=Hz.out;omega))
 have H:=Lhd (gives_of (x:=oneP op fin.1) (w3:=w1) hx6 hP ((But.of_below Hb1.out).trans' hB6) hk6 (Nat.le_refl _) (by omega) Hz.out)
 clear hP hB hB6 hk6 hk7 hx6
 go_wp2
 rw[lay6_eq]
 exact bodyPost_ret (ret_ex Tryz.results163 rfl H.out.1 rfl) rfl H.out.2
theorem may_cases (W:Wds) (t:ByteArray) (s:PSt):mayP W t s=(false,s)∨(mayP W t s=(true,s.on)∧s.bad=false∧s.at_<W.l.length):=by
 unfold mayP
 split
 ·rename_i h
  unfold isP at h
  simp only[Bool.and_eq_true,Bool.not_eq_true'] at h
  exact .inr ⟨rfl,h.1,says_in h.2⟩
 ·exact .inl rfl
theorem signedP_no {W:Wds} {E:PSt→Ex×PSt} {k:Nat} {s:PSt} (h:mayP W (str [45]) s=(false,s)):signedP W E (k+1) s=singleP W E s:=by unfold signedP;simp[h]
theorem signedP_yes {W:Wds} {E:PSt→Ex×PSt} {k:Nat} {s:PSt} (h:mayP W (str [45]) s=(true,s.on)):signedP W E (k+1) s=(oneP 20 (signedP W E k (enterP s.on)).1,leaveP (signedP W E k (enterP s.on)).2):=by
 conv=>lhs;unfold signedP
 simp[h]
theorem pSigned_fuel (gp gc gw:Nat) (W:Wds) (E:PSt→Ex×PSt) (m:Nat) (hS:TakesE gp gc gw W 231 (singleP W E) m):∀ (k:Nat),1≤k→∀ (s:PSt) (w:World),PAt gp gc gw W s w→Fit W k s→Fit W m s →
  Calls Tryz.prog 218 #[.pointer (some ⟨gp,0,none⟩)] w (GivesE gp gc gw W (signedP W E k s).2 (signedP W E k s).1 w):=by
 intro k
 induction k with
 | zero=>intro h;omega
 | succ k ih =>
  intro _ s w h hf hfm
  have hz:=And.intro h.lt.1 (And.intro h.lt.2 h.wl)
  have hb1:=(Below.refl w.heap.size w).alloc (Nat.le_refl _) (.cells zero6 60)
  have hk1:=IsBlk.laid w 60 zero6
  have hm:=pMay_any gp gc gw W s (str [45]) _ (h.below hb1)
  have hsz:(w.alloc (.cells zero6 60)).heap.size=w.heap.size+1:=by simp
  obtain⟨w1,Hw1⟩:∃ w1,Hid (w1=w.alloc (.cells zero6 60)):=⟨_,rfl⟩
  rw[← Hw1.out] at hb1 hk1 hm hsz
  have Hb1:=Lhd hb1
  have Hk1:=Lhd hk1
  have Hz:=Lhd hz
  rcases may_cases W (str [45]) s with hc|⟨hc,hbad,hat⟩
  ·rw[hc] at hm
   rw[signedP_no hc]
   simp only[str] at hm
   have Hm:=Lhd hm
   have HS:=Lhd (fun w2 hW=>hS s w2 hW hfm)
   clear hb1 hk1 hz h hf hfm hm hc ih hS
   generalize singleP W E s=fin at *
   go_enter Tryz.func218,Tryz.ntmps218
   go_upto_region 1 with (fail)
   rw[← Hw1.out]
   go_wp2_with (fail)
   refine Hm.out.mono ?_
   rintro e w2 ⟨rfl,hP,hB⟩
   have H2:=Lhd (And.intro hP hB)
   clear hP hB
   go_wp2_with (fail)
   refine(HS.out _ H2.out.1).mono ?_
   rintro e w3 ⟨row,D,rfl,hx,hP,hB⟩
   obtain⟨A2,m2,c2,rfl⟩:=ex_row6 hx
   have hB3:=H2.out.2.trans' hB
   have hk3:=on2_blk Hk1.out hB3 (by have:=Hz.out;omega)
   obtain⟨x0,x1,x2,x3,x4,x5,xl⟩:=cells6 hk3
   have f3:=hk3.frozen
   have hs:=H2.out.2.size
   have H:=Lhd (gives_of hx hP ((But.of_below Hb1.out).trans' hB3) hk3 (Nat.le_refl _) (by omega) Hz.out)
   clear hx hP hB hB3 hk3 hs
   go_wp2
   rw[lay6_eq]
   exact bodyPost_ret (ret_ex Tryz.results218 rfl H.out.1 rfl) rfl H.out.2
  ·rw[hc] at hm
   rw[signedP_yes hc]
   simp only[str] at hm
   have hf1:Fit W k s.on:=Fit.on hf
   have hk0:1≤k:=by
    rcases hf1 with h1|h1
    ·rw[show s.on.bad=s.bad from rfl,hbad] at h1;cases h1
    ·have:s.on.at_=s.at_+1:=rfl
     omega
   have hih:=fun w2 hW=>ih hk0 (enterP s.on) w2 hW (hf1.ge (ge_enter _)) ((hfm.ge (ge_on s)).ge (ge_enter _))
   have Ha:=Lhd (fun w2 hW=>pAhead_signed gp gc gw W (signedP W E k) s.on 20 w2 hW (by omega) (by omega) hih)
   have Hm:=Lhd hm
   clear hb1 hk1 hz h hf hfm hm hc ih hS hih hf1 hk0
   generalize signedP W E k (enterP s.on)=fin at *
   go_enter Tryz.func218,Tryz.ntmps218
   go_upto_region 1 with (fail)
   rw[← Hw1.out]
   go_wp2_with (fail)
   refine Hm.out.mono ?_
   rintro e w2 ⟨rfl,hP,hB⟩
   have H2:=Lhd (And.intro hP hB)
   clear hP hB
   go_wp2_with (fail)
   refine(Ha.out _ H2.out.1).mono ?_
   rintro e w3 ⟨row,D,rfl,hx,hP,hB⟩
   obtain⟨A2,m2,c2,rfl⟩:=ex_row6 hx
   have hB3:=H2.out.2.trans' hB
   have hk3:=on2_blk Hk1.out hB3 (by have:=Hz.out;omega)
   obtain⟨x0,x1,x2,x3,x4,x5,xl⟩:=cells6 hk3
   have f3:=hk3.frozen
   have hs:=H2.out.2.size
   have H:=Lhd (gives_of hx hP ((But.of_below Hb1.out).trans' hB3) hk3 (Nat.le_refl _) (by omega) Hz.out)
   clear hx hP hB hB3 hk3 hs
   go_wp2
   rw[lay6_eq]
   exact bodyPost_ret (ret_ex Tryz.results218 rfl H.out.1 rfl) rfl H.out.2
theorem fit_all (W:Wds) (s:PSt):Fit W W.fuel s:=.inr (by unfold Wds.fuel;omega)
theorem pSigned_any (gp gc gw:Nat) (W:Wds) (E:PSt→Ex×PSt) (m:Nat) (hS:TakesE gp gc gw W 231 (singleP W E) m):TakesE gp gc gw W 218 (signedP W E W.fuel) m :=
 fun s w h hf=>pSigned_fuel gp gc gw W E m hS W.fuel (by unfold Wds.fuel;omega) s w h (fit_all W s) hf
theorem notP_no {W:Wds} {E:PSt→Ex×PSt} {k:Nat} {s:PSt} (h:mayP W (str [110,111,116]) s=(false,s)):notP W E (k+1) s=cmpP W E s:=by unfold notP;simp[h]
theorem notP_yes {W:Wds} {E:PSt→Ex×PSt} {k:Nat} {s:PSt} (h:mayP W (str [110,111,116]) s=(true,s.on)):notP W E (k+1) s=(oneP 19 (notP W E k (enterP s.on)).1,leaveP (notP W E k (enterP s.on)).2):=by
 conv=>lhs;unfold notP
 simp[h]
theorem cmpP_eq (W:Wds) (E:PSt→Ex×PSt) (s:PSt):cmpP W E s=if (opP W lvCmp (sumP W E s).2).1=0 then ((sumP W E s).1,(opP W lvCmp (sumP W E s).2).2) else (twoP (opP W lvCmp (sumP W E s).2).1 (sumP W E s).1 (sumP W E (opP W lvCmp (sumP W E s).2).2).1,(sumP W E (opP W lvCmp (sumP W E s).2).2).2):=rfl
theorem pNot_cmp (gp gc gw:Nat) (W:Wds) (E:PSt→Ex×PSt) (m:Nat) (hS:TakesE gp gc gw W 164 (sumP W E) m) (hU:∀ s,Ge s (sumP W E s).2) (s:PSt) (w:World) (h:PAt gp gc gw W s w) (hf:Fit W m s) (hno:mayP W (str [110,111,116]) s=(false,s)) :
  Calls Tryz.prog 113 #[.pointer (some ⟨gp,0,none⟩)] w (GivesE gp gc gw W (cmpP W E s).2 (cmpP W E s).1 w):=by
 have hz:=And.intro h.lt.1 (And.intro h.lt.2 h.wl)
 have hb1:=(Below.refl w.heap.size w).alloc (Nat.le_refl _) (.cells zero6 60)
 have hk1:=IsBlk.laid w 60 zero6
 have hm:=pMay_any gp gc gw W s (str [110,111,116]) _ (h.below hb1)
 have hsz:(w.alloc (.cells zero6 60)).heap.size=w.heap.size+1:=by simp
 obtain⟨w1,Hw1⟩:∃ w1,Hid (w1=w.alloc (.cells zero6 60)):=⟨_,rfl⟩
 rw[← Hw1.out] at hb1 hk1 hm hsz
 have Hb1:=Lhd hb1
 have Hk1:=Lhd hk1
 have Hz:=Lhd hz
 rw[hno] at hm
 rw[cmpP_eq]
 have HS:=Lhd (fun w2 hW=>hS s w2 hW hf)
 have hfit:=hf.ge (hU s)
 have Hop:=Lhd (fun (A B:Option Addr) (w2:World) (hW:PAt gp gc gw W (sumP W E s).2 w2) (hl:LvAt gp gc w2 A 6 B 6 lvCmp)=>pOp_any gp gc gw W (sumP W E s).2 lvCmp A B 6 6 6 w2 hW hl rfl)
 have HS2:=Lhd (fun w2 hW=>hS (opP W lvCmp (sumP W E s).2).2 w2 hW (hfit.ge (up_op W lvCmp _)))
 have Hops:=Lhd (opP_cases W (sumP W E s).2 lvCmp)
 generalize sumP W E s=fin at *
 obtain⟨x,s2⟩:=fin
 simp only[str] at hm
 have Hm:=Lhd hm
 clear hb1 hk1 hz h hf hm hS hU hfit hno
 generalize hop:opP W lvCmp s2=r at *
 obtain⟨op,s3⟩:=r
 simp only at HS2 Hops Hop
 clear hop
 generalize hfin2:(if op=0 then (x,s3) else (twoP op x (sumP W E s3).1,(sumP W E s3).2))=fin2
 have Hfin2:=Lhd hfin2
 have Hsz:=Lhd hsz
 clear hfin2 hsz
 have hopb:op≠0→0≤op∧op≤100:=fun h0=>by
  rcases Hops.out with h1|⟨p,hp,h1,_⟩
  ·simp at h1;exact absurd h1.1 h0
  ·simp at h1
   have h2:∀ p∈lvCmp,0≤p.2∧p.2≤100:=by unfold lvCmp;decide
   rw[h1.1];exact h2 p hp
 have Hopb:=Lhd hopb
 clear hopb Hops
 go_enter Tryz.func113,Tryz.ntmps113
 go_upto_region 1 with (fail)
 rw[← Hw1.out]
 go_wp2_with (fail)
 refine Hm.out.mono ?_
 rintro e w2 ⟨rfl,hP,hB⟩
 have H2:=Lhd (And.intro hP hB)
 clear hP hB
 go_wp2_with (fail)
 refine(HS.out _ H2.out.1).mono ?_
 rintro e w3 ⟨row,D,rfl,hx,hP,hB⟩
 obtain⟨A2,m2,c2,rfl⟩:=ex_row6 hx
 have hB3:=H2.out.2.trans' hB
 have hs3:=hB3.size
 have hal:=(Below.refl w3.heap.size w3).alloc (Nat.le_refl _) (.cells #[.int .i64 x.op,.int .i64 x.n,.string x.s,.string x.name,.string x.src,.slice A2 m2 c2] 60)
 have hk3:IsBlk (w3.alloc (.cells #[.int .i64 x.op,.int .i64 x.n,.string x.s,.string x.name,.string x.src,.slice A2 m2 c2] 60)) w3.heap.size 60 #[.int .i64 x.op,.int .i64 x.n,.string x.s,.string x.name,.string x.src,.slice A2 m2 c2]:=IsBlk.laid _ _ _
 have hz3:gp<w3.heap.size∧gc<w3.heap.size∧gw<w3.heap.size:=by have:=Hz.out;have:=Hsz.out;omega
 have Hz3:=Lhd hz3
 have hxs:=ExAt.turn (F':=fun b=>w1.heap.size≤b∧b≠w3.heap.size) (fun k hk (hf:w2.heap.size≤k)=>by have:=H2.out.2.size;constructor<;>omega) (Kept.of_below hal) D (Nat.le_refl _) hx
 have H3:=Lhd (And.intro (hP.below hal) (And.intro hxs (And.intro (hB3.alloc (.cells #[.int .i64 x.op,.int .i64 x.n,.string x.s,.string x.name,.string x.src,.slice A2 m2 c2] 60)) (And.intro hk3 hs3))))
 clear hx hP hB hB3 hs3 hal hk3 hz3 hxs
 obtain⟨w4,Hw4⟩:∃ w4,Hid (w4=w3.alloc (.cells #[.int .i64 x.op,.int .i64 x.n,.string x.s,.string x.name,.string x.src,.slice A2 m2 c2] 60)):=⟨_,rfl⟩
 have hsz4:w4.heap.size=w3.heap.size+1:=by rw[Hw4.out];simp
 rw[← Hw4.out] at H3
 have Hsz4:=Lhd hsz4
 go_upto_region 4 with (fail)
 rw[← Hw4.out]
 have hlv0:=lv_lit gp gc w4 lvCmp 6 w4.heap.size (w4.heap.size+1) rfl rfl (by have:=Hz3.out;omega) rfl (by omega)
 clear hsz4
 have hal5:=hlv0.2.alloc (hlv0.2.size) (.cells #[.slice (some ⟨w4.heap.size,0,none⟩) 6 6,.slice (some ⟨w4.heap.size+1,0,none⟩) 6 6] 154)
 have hlv:=hlv0.1.but (But.of_below ((Below.refl _ _).alloc (Nat.le_refl _) (.cells #[.slice (some ⟨w4.heap.size,0,none⟩) 6 6,.slice (some ⟨w4.heap.size+1,0,none⟩) 6 6] 154)))
 have hop5:=Hop.out _ _ _ (H3.out.1.below hal5) hlv
 simp only[lvCmp,str,List.map_cons,List.map_nil] at hop5 hal5
 have Hop5:=Lhd hop5
 have Hal5:=Lhd hal5
 clear hop5 hal5 hlv hlv0
 go_wp2_with (fail)
 refine Hop5.out.mono ?_
 rintro e w6 ⟨rfl,hP,hB⟩
 have hB46:=(But.of_below Hal5.out).trans' hB
 have hk7:=on2_blk H3.out.2.2.2.1 hB46 (by have:=Hz3.out;omega)
 have hB6:=H3.out.2.2.1.trans' hB46
 have hk6:=on2_blk Hk1.out hB6 (by have:=Hz.out;omega)
 have hx6:=H3.out.2.1.kept (fr_on2 (gp:=gp) (gc:=gc) hB46 (fun k hk=>by have:=Hz.out;have:=Hsz.out;have:=hk.1;omega))
 have H6:=Lhd (And.intro hP (And.intro hB6 (And.intro hk6 (And.intro hk7 hx6))))
 obtain⟨x0,x1,x2,x3,x4,x5,xl⟩:=cells6 hk6
 obtain⟨y0,y1,y2,y3,y4,y5,yl⟩:=cells6 hk7
 have f6:=hk6.frozen
 clear hP hB hB46 hk7 hB6 hk6 hx6
 rcases Classical.em (op=0) with h0|h0
 ·have hf0:=Hfin2.out
  rw[if_pos h0] at hf0
  subst h0 hf0
  have H:=Lhd (gives_of (w3:=w1) (ExAt.conv (F':=Fr w1) (fun k hk=>hk.1) (Kept.refl _ _) D (Nat.le_refl _) H6.out.2.2.2.2) H6.out.1 ((But.of_below Hb1.out).trans' H6.out.2.1) H6.out.2.2.1 (Nat.le_refl _) (by have:=Hsz.out;omega) Hz.out)
  go_wp2
  rw[lay6_eq]
  exact bodyPost_ret (ret_ex Tryz.results113 rfl H.out.1 rfl) rfl H.out.2
 ·have hf0:=Hfin2.out
  rw[if_neg h0] at hf0
  subst hf0
  have q0:(op !=0)=true:=by simpa using h0
  have Ho:=Lhd (Hopb.out h0)
  clear h0
  go_upto_region 7 with (fail)
  have Hd:=Lhd (And.intro (show PAt gp gc gw W s3 w6.drew from H6.out.1.below (Below.refl _ _).drew) (And.intro (show IsBlk w6.drew w3.heap.size 60 #[.int .i64 x.op,.int .i64 x.n,.string x.s,.string x.name,.string x.src,.slice A2 m2 c2] from H6.out.2.2.2.1) (show IsBlk w6.drew w.heap.size 60 zero6 from H6.out.2.2.1)))
  have HX2:=Lhd (show ExAt (fun b=>w1.heap.size≤b∧b≠w3.heap.size) D w6.drew [.int .i64 x.op,.int .i64 x.n,.string x.s,.string x.name,.string x.src,.slice A2 m2 c2] x from H6.out.2.2.2.2.below (Below.refl _ _).drew)
  have hzr:w1.heap.size≤w6.drew.heap.size∧w3.heap.size<w6.drew.heap.size:=⟨H6.out.2.1.size,H6.out.2.2.2.1.lt⟩
  have Hzr:=Lhd hzr
  have hFC:∀ k,w1.heap.size≤k∧k≠w3.heap.size→gp<k∧gc<k:=fun k hk=>by have:=Hz.out;have:=Hsz.out;omega
  have HFC:=Lhd hFC
  have Htwo:=Lhd (fun (W2:World) (D2:Nat) (b:Ex) (rb:List Value) (hB2:But (On2 gp gc) w6.drew W2) (hb:ExAt (Fr w6.drew) D2 W2 rb b)=>pTwo_any (fun b=>w1.heap.size≤b∧b≠w3.heap.size) (max D D2) op x b [.int .i64 x.op,.int .i64 x.n,.string x.s,.string x.name,.string x.src,.slice A2 m2 c2] rb W2 Ho.out.1 Ho.out.2
   (ExAt.conv (fun _ h=>h) (fr_on2 hB2 HFC.out) D (Nat.le_max_left _ _) HX2.out) (ExAt.conv (fun k (hk:w6.drew.heap.size≤k)=>by have:=Hzr.out;constructor<;>omega) (Kept.refl _ _) D2 (Nat.le_max_right _ _) hb) (fun k hk=>by have:=Hzr.out;have:=hB2.size;constructor<;>omega))
  clear hzr hFC
  go_region_with (first
   | (go_at_call 164;refine(HS2.out _ Hd.out.1).mono ?_;rintro e7 w7 ⟨row7,D7,rfl,hx7,hP7,hB7⟩;obtain⟨A7,m7,c7,rfl⟩:=ex_row6 hx7;obtain⟨z0,z1,z2,z3,z4,z5,zl⟩:=cells6 (on2_blk Hd.out.2.1 hB7 (by have:=Hz3.out;omega)))
   | (go_at_call 112;refine(Htwo.out _ _ _ _ hB7 hx7).mono ?_;rintro e8 w8 ⟨row8,rfl,hx8,hb8⟩;obtain⟨A8,m8,c8,rfl⟩:=ex_row6 hx8;have hk78:=on2_blk Hd.out.2.2 hB7 (by have:=Hz.out;omega);have hk88:=hk78.as_was (hb8.block _ hk78.lt);obtain⟨v0,v1,v2,v3,v4,v5,vl⟩:=cells6 hk88;have f88:=hk88.frozen;have hB68:=(H6.out.2.1.drew).trans' (hB7.trans' (But.of_below hb8));have H8:=Lhd (gives_of (w3:=w1) (ExAt.conv (F':=Fr w1) (fun k hk=>hk.1) (Kept.refl _ _) _ (Nat.le_refl _) hx8) (hP7.below hb8) ((But.of_below Hb1.out).trans' hB68) hk88 (Nat.le_refl _) (by have:=Hsz.out;omega) Hz.out)))
  all_goals
   clear hP7 hB7 hx7 hb8 hx8 hk78 hk88 hB68
   go_wp2
   rw[lay6_eq]
   exact bodyPost_ret (ret_ex Tryz.results113 rfl H8.out.1 rfl) rfl H8.out.2
end Go.Proofs.YtgbgiknfejpcoaaGreat

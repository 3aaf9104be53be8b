/- Parts of this proof, one behind the other: ParG0, ParG, ParH, PfA. -/
import Derived.Test.YtdgapmnojmhllaaGreatDoorPf23
import Derived.Test.YtdgapmnojmhllaaGreatDoorPf21
set_option maxRecDepth 1000000
set_option maxHeartbeats 40000000
namespace Go.Proofs.YtdgapmnojmhllaaGreatDoor
open Go.RowKit Go.Afx
theorem gives_of {gp gc gw g:Nat} {W:Wds} {s':PSt} {x:Ex} {w w3 w4:World} {D:Nat} {A:Option Addr} {m c:Nat} {T:TypeId} {u0 u1 u2 u3 u4 u5:Value}
  (hx:ExAt (Fr w3) D w4 [.int .i64 x.op,.int .i64 x.n,.string x.s,.string x.name,.string x.src,.slice A m c] x) (hP:PAt gp gc gw W s' w4) (hB:But (On2 gp gc) w w4) (hk:IsBlk w4 g T #[u0,u1,u2,u3,u4,u5]) (hg1:w.heap.size≤g) (hg2:g<w3.heap.size) (hz:gp<w.heap.size∧gc<w.heap.size∧gw<w.heap.size) :
  IsBlk (lay6 w4 g (.int .i64 x.op) (.int .i64 x.n) (.string x.s) (.string x.name) (.string x.src) (.slice A m c)) g T #[.int .i64 x.op,.int .i64 x.n,.string x.s,.string x.name,.string x.src,.slice A m c] ∧
  GivesE gp gc gw W s' x w (.returned (.agg #[.int .i64 x.op,.int .i64 x.n,.string x.s,.string x.name,.string x.src,.slice A m c])) (lay6 w4 g (.int .i64 x.op) (.int .i64 x.n) (.string x.s) (.string x.name) (.string x.src) (.slice A m c)):=by
 have hb7:=lay6_but w4 g (.int .i64 x.op) (.int .i64 x.n) (.string x.s) (.string x.name) (.string x.src) (.slice A m c)
 refine⟨lay6_blk _ _ _ _ _ _ hk,_,D,rfl,?_,hP.elsewhere hb7 (by omega),hB.trans hb7 (fun i hi=>.inr (by omega))⟩
 exact ExAt.conv (fun k (hk:w3.heap.size≤k)=>by show w.heap.size≤k;omega) (Kept.of_but hb7 fun k (hk:w3.heap.size≤k) e=>by omega) D (Nat.le_refl _) hx
theorem name_ok {gp gc gw:Nat} {W:Wds} {s:PSt} {w:World} (h:PAt gp gc gw W s w) (s':PSt):okS (nameP W s').1:=by
 unfold nameP
 split
 ·unfold okS;exact Nat.zero_le _
 ·exact(h.okw _).2.1
theorem pRows_any (gp gc gw:Nat) (W:Wds) (s:PSt) (w:World) (h:PAt gp gc gw W s w) :
  Calls Tryz.prog 164 #[.pointer (some ⟨gp,0,none⟩)] w fun e w'=>e=.returned (.tuple #[.string (rowsP W s).1.1,.string (rowsP W s).1.2])∧PAt gp gc gw W (rowsP W s).2 w'∧But (On2 gp gc) w w':=by
 have Hn:=Lhd (fun s' w2 (hW:PAt gp gc gw W s' w2)=>pName_any gp gc gw W s' w2 hW)
 have Hm:=Lhd (fun s' w2 (hW:PAt gp gc gw W s' w2)=>pMust_any gp gc gw w2.heap.size W s' (str [105,110]) w2 hW rfl)
 have Hh:=Lhd h
 clear h
 show Calls _ _ _ _ fun e w'=>e=.returned (.tuple #[.string (nameP W s).1,.string (nameP W (mustP W [str [105,110]] (nameP W s).2)).1])∧PAt gp gc gw W (nameP W (mustP W [str [105,110]] (nameP W s).2)).2 w'∧But (On2 gp gc) w w'
 simp only[str] at Hm
 go_enter Tryz.func164,Tryz.ntmps164
 go_wp2_with (fail)
 refine(Hn.out _ _ Hh.out).mono ?_
 rintro e w2 ⟨rfl,hP,hB⟩
 have H2:=Lhd (And.intro hP hB)
 clear hP hB
 go_wp2_with (fail)
 refine(Hm.out _ _ H2.out.1).mono ?_
 rintro e w3 ⟨rfl,hP,hB⟩
 have H3:=Lhd (And.intro hP (H2.out.2.trans' hB))
 clear hP hB
 go_wp2_with (fail)
 refine(Hn.out _ _ H3.out.1).mono ?_
 rintro e w4 ⟨rfl,hP,hB⟩
 have H4:=Lhd (And.intro hP (H3.out.2.trans' hB))
 clear hP hB
 go_wp2
 go_ret2
 exact⟨rfl,H4.out.1,H4.out.2⟩
theorem true_at (F:Nat→Prop) (w:World):ExAt F 1 w [.int .i64 3,.int .i64 1,.string ⟨#[]⟩,.string ⟨#[]⟩,.string ⟨#[]⟩,.slice none 0 0] (.mk 3 1 nil0 nil0 nil0 []):=by
 have h2:okS nil0:=by unfold okS;exact Nat.zero_le _
 exact⟨⟨by show (_:Int)≤3;omega,by show (3:Int)≤_;omega⟩,⟨by show (_:Int)≤1;omega,by show (1:Int)≤_;omega⟩,h2,h2,h2,none,0,0,rfl,LsAt.nil_ _ _ _ _⟩
theorem pWhere_any (gp gc gw:Nat) (W:Wds) (E:PSt→Ex×PSt) (m:Nat) (hE:TakesE gp gc gw W 24 E m):TakesE gp gc gw W 165 (whereP W E) m:=by
 intro s w h hf
 have hz:=And.intro h.lt.1 (And.intro h.lt.2 h.wl)
 have hb1:=(Below.refl w.heap.size w).alloc (Nat.le_refl _) (.cells zero6 32)
 have hk1:=IsBlk.laid w 32 zero6
 have h1:=h.below hb1
 have hm:=pMay_any gp gc gw W s (str [119,104,101,114,101]) _ h1
 have hno:=mayP_no (W:=W) (s:=s) (t:=str [119,104,101,114,101])
 have hE2:=fun w2 hW=>hE (mayP W (str [119,104,101,114,101]) s).2 w2 hW (hf.ge (ge_may W _ s))
 unfold whereP
 generalize (mayP W (str [119,104,101,114,101]) s)=r at *
 obtain⟨v,s2⟩:=r
 simp only[str] at hm
 have Hm:=Lhd hm
 have HE:=Lhd hE2
 have Hb1:=Lhd hb1
 have Hk1:=Lhd hk1
 have Hz:=Lhd hz
 clear hm hE2 hb1 hk1 hz h h1 hf hE
 cases v with
 | true =>
  clear hno
  show Calls _ _ _ _ (GivesE gp gc gw W (E s2).2 (E s2).1 w)
  simp only at HE
  generalize E s2=fin at *
  go_enter Tryz.func165,Tryz.ntmps165
  go_wp2_with (fail)
  refine Hm.out.mono ?_
  rintro e w3 ⟨rfl,hP,hB⟩
  have H3:=Lhd (And.intro hP hB)
  clear hP hB
  go_wp2_with (fail)
  refine(HE.out _ H3.out.1).mono ?_
  rintro e w4 ⟨row,D,rfl,hx,hP,hB⟩
  obtain⟨A2,m2,c2,rfl⟩:=ex_row6 hx
  have hB4:=H3.out.2.trans' hB
  have hk4:=on2_blk Hk1.out hB4 (by have:=Hz.out;omega)
  obtain⟨x0,x1,x2,x3,x4,x5,xl⟩:=cells6 hk4
  have f4:=hk4.frozen
  have hs:=H3.out.2.size
  simp only[World.alloc,Array.size_push] at hs
  have H:=Lhd (gives_of hx hP ((But.of_below Hb1.out).trans' hB4) hk4 (Nat.le_refl _) (by omega) Hz.out)
  clear hx hP hB hk4 hB4 hs
  go_wp2
  rw[lay6_eq]
  exact bodyPost_ret (ret_ex Tryz.results165 rfl H.out.1 rfl) rfl H.out.2
 | false =>
  obtain rfl:=hno rfl
  show Calls _ _ _ _ (GivesE gp gc gw W s2 (.mk 3 1 nil0 nil0 nil0 []) w)
  go_enter Tryz.func165,Tryz.ntmps165
  go_wp2_with (fail)
  refine Hm.out.mono ?_
  rintro e w3 ⟨rfl,hP,hB⟩
  have hk4:=on2_blk Hk1.out hB (by have:=Hz.out;omega)
  obtain⟨x0,x1,x2,x3,x4,x5,xl⟩:=cells6 hk4
  have f4:=hk4.frozen
  have hs:=hB.size
  simp only[World.alloc,Array.size_push] at hs
  have H:=Lhd (gives_of (x:=.mk 3 1 nil0 nil0 nil0 []) (w3:=w3) (true_at (Fr w3) w3) hP ((But.of_below Hb1.out).trans' hB) hk4 (Nat.le_refl _) (by omega) Hz.out)
  clear hP hB hk4 hs
  go_wp2
  rw[lay6_eq]
  exact bodyPost_ret (ret_ex Tryz.results165 rfl H.out.1 rfl) rfl H.out.2
theorem pAhead_not (gp gc gw:Nat) (W:Wds) (one:PSt→Ex×PSt) (s:PSt) (op:Int) (w:World) (h:PAt gp gc gw W s w) (h0:0≤op) (h1:op≤100) (hT:∀ w2,PAt gp gc gw W (enterP s) w2→Calls Tryz.prog 105 #[.pointer (some ⟨gp,0,none⟩)] w2 (GivesE gp gc gw W (one (enterP s)).2 (one (enterP s)).1 w2)) :
  Calls Tryz.prog 145 #[.pointer (some ⟨gp,0,none⟩),.int .i64 op,.func (.func 105) #[.pointer (some ⟨gp,0,none⟩)] #[]] w (GivesE gp gc gw W (leaveP (one (enterP s)).2) (oneP op (one (enterP s)).1) w):=by
 have hz:=And.intro h.lt.1 (And.intro h.lt.2 h.wl)
 have hb1:=(Below.refl w.heap.size w).alloc (Nat.le_refl _) (.cells zero6 32)
 have hk1:=IsBlk.laid w 32 zero6
 have He:=Lhd (pEnter_any gp gc gw W s _ (h.below hb1))
 generalize hfin:one (enterP s)=fin at *
 have Hl:=Lhd (fun w2 (hW:PAt gp gc gw W fin.2 w2)=>pLeave_any gp gc gw W fin.2 w2 hW)
 have HT:=Lhd hT
 have Hb1:=Lhd hb1
 have Hk1:=Lhd hk1
 have Hz:=Lhd hz
 have H01:=Lhd (And.intro h0 h1)
 clear h hz hb1 hk1 hT hfin h0 h1
 obtain⟨w1,Hw1⟩:∃ w1,Hid (w1=w.alloc (.cells zero6 32)):=⟨_,rfl⟩
 have hsz:w1.heap.size=w.heap.size+1:=by rw[Hw1.out];simp
 rw[← Hw1.out] at He Hb1 Hk1
 go_enter Tryz.func145,Tryz.ntmps145
 go_upto_region 1 with (fail)
 rw[← Hw1.out]
 go_wp2_with (fail)
 refine He.out.mono ?_
 rintro e w2 ⟨rfl,hP,hB⟩
 have H2:=Lhd (And.intro hP hB)
 clear hP hB
 go_wp2_with (fail)
 refine(HT.out _ H2.out.1).mono ?_
 rintro e w3 ⟨row,D,rfl,hx,hP,hB⟩
 obtain⟨A2,m2,c2,rfl⟩:=ex_row6 hx
 have hB3:=H2.out.2.trans' hB
 have hz3:=hB3.size
 have hlit:=exs_lit (F:=Fr w1) (d:=D) (n:=1) (g:=w3.heap.size) (w:=w3) 32 [[.int .i64 fin.1.op,.int .i64 fin.1.n,.string fin.1.s,.string fin.1.name,.string fin.1.src,.slice A2 m2 c2]] [fin.1] rfl hz3 rfl (by omega) rfl (fun k r x h1 h2=>by
  rcases k with _|k
  ·simp at h1 h2
   subst h1 h2
   exact ExAt.conv (fun k (hk:w2.heap.size≤k)=>by have:=H2.out.2.size;show w1.heap.size≤k;omega) (Kept.refl _ _) D (Nat.le_refl _) hx
  ·simp at h1)
 have hop:=ex_opn H01.out.1 H01.out.2 hlit
 simp only[List.flatten_cons,List.flatten_nil,List.append_nil] at hop
 have hb4:=(Below.refl w3.heap.size w3).alloc (Nat.le_refl _) (.cells #[.int .i64 fin.1.op,.int .i64 fin.1.n,.string fin.1.s,.string fin.1.name,.string fin.1.src,.slice A2 m2 c2] 32)
 have hb5:=(Below.refl (w3.alloc (.cells #[.int .i64 fin.1.op,.int .i64 fin.1.n,.string fin.1.s,.string fin.1.name,.string fin.1.src,.slice A2 m2 c2] 32)).heap.size (w3.alloc (.cells #[.int .i64 fin.1.op,.int .i64 fin.1.n,.string fin.1.s,.string fin.1.name,.string fin.1.src,.slice A2 m2 c2] 32))).alloc (Nat.le_refl _) (.cells #[.int .i64 op,.int .i64 0,.string ⟨#[]⟩,.string ⟨#[]⟩,.string ⟨#[]⟩,.slice (some ⟨w3.heap.size,0,none⟩) 1 1] 32)
 have hx5:=hop.below hb5
 have hP5:=(hP.below hb4).below hb5
 have hk5:IsBlk ((w3.alloc (.cells #[.int .i64 fin.1.op,.int .i64 fin.1.n,.string fin.1.s,.string fin.1.name,.string fin.1.src,.slice A2 m2 c2] 32)).alloc (.cells #[.int .i64 op,.int .i64 0,.string ⟨#[]⟩,.string ⟨#[]⟩,.string ⟨#[]⟩,.slice (some ⟨w3.heap.size,0,none⟩) 1 1] 32)) (w3.heap.size+1) 32 #[.int .i64 op,.int .i64 0,.string ⟨#[]⟩,.string ⟨#[]⟩,.string ⟨#[]⟩,.slice (some ⟨w3.heap.size,0,none⟩) 1 1]:=blk_new (by simp)
 have hB5:=(hB3.alloc (.cells #[.int .i64 fin.1.op,.int .i64 fin.1.n,.string fin.1.s,.string fin.1.name,.string fin.1.src,.slice A2 m2 c2] 32)).alloc (.cells #[.int .i64 op,.int .i64 0,.string ⟨#[]⟩,.string ⟨#[]⟩,.string ⟨#[]⟩,.slice (some ⟨w3.heap.size,0,none⟩) 1 1] 32)
 have H5:=Lhd (And.intro hx5 (And.intro hP5 (And.intro hk5 (And.intro hB5 hz3))))
 clear hx hP hB hB3 hz3 hlit hop hb4 hb5 hx5 hP5 hk5 hB5
 go_wp2_with (fail)
 refine(Hl.out _ H5.out.2.1).mono ?_
 rintro e w6 ⟨rfl,hP,hB⟩
 have hB6:=H5.out.2.2.2.1.trans' hB
 have hk6:=on2_blk Hk1.out hB6 (by have:=Hz.out;omega)
 have hk7:=on2_blk H5.out.2.2.1 hB (by have:=Hz.out;have:=H5.out.2.2.2.2;omega)
 obtain⟨x0,x1,x2,x3,x4,x5,xl⟩:=cells6 hk6
 obtain⟨y0,y1,y2,y3,y4,y5,yl⟩:=cells6 hk7
 have f6:=hk6.frozen
 have hx6:=H5.out.1.kept (fr_on2 (gp:=gp) (gc:=gc) hB (fun k (hk:w1.heap.size≤k)=>by have:=Hz.out;omega))
 have H:=Lhd (gives_of (x:=oneP op fin.1) (w3:=w1) hx6 hP ((But.of_below Hb1.out).trans' hB6) hk6 (Nat.le_refl _) (by omega) Hz.out)
 clear hP hB hB6 hk6 hk7 hx6
 go_wp2
 rw[lay6_eq]
 exact bodyPost_ret (ret_ex Tryz.results145 rfl H.out.1 rfl) rfl H.out.2
theorem pAhead_signed (gp gc gw:Nat) (W:Wds) (one:PSt→Ex×PSt) (s:PSt) (op:Int) (w:World) (h:PAt gp gc gw W s w) (h0:0≤op) (h1:op≤100) (hT:∀ w2,PAt gp gc gw W (enterP s) w2→Calls Tryz.prog 198 #[.pointer (some ⟨gp,0,none⟩)] w2 (GivesE gp gc gw W (one (enterP s)).2 (one (enterP s)).1 w2)) :
  Calls Tryz.prog 145 #[.pointer (some ⟨gp,0,none⟩),.int .i64 op,.func (.func 198) #[.pointer (some ⟨gp,0,none⟩)] #[]] w (GivesE gp gc gw W (leaveP (one (enterP s)).2) (oneP op (one (enterP s)).1) w):=by
 have hz:=And.intro h.lt.1 (And.intro h.lt.2 h.wl)
 have hb1:=(Below.refl w.heap.size w).alloc (Nat.le_refl _) (.cells zero6 32)
 have hk1:=IsBlk.laid w 32 zero6
 have He:=Lhd (pEnter_any gp gc gw W s _ (h.below hb1))
 generalize hfin:one (enterP s)=fin at *
 have Hl:=Lhd (fun w2 (hW:PAt gp gc gw W fin.2 w2)=>pLeave_any gp gc gw W fin.2 w2 hW)
 have HT:=Lhd hT
 have Hb1:=Lhd hb1
 have Hk1:=Lhd hk1
 have Hz:=Lhd hz
 have H01:=Lhd (And.intro h0 h1)
 clear h hz hb1 hk1 hT hfin h0 h1
 obtain⟨w1,Hw1⟩:∃ w1,Hid (w1=w.alloc (.cells zero6 32)):=⟨_,rfl⟩
 have hsz:w1.heap.size=w.heap.size+1:=by rw[Hw1.out];simp
 rw[← Hw1.out] at He Hb1 Hk1
 go_enter Tryz.func145,Tryz.ntmps145
 go_upto_region 1 with (fail)
 rw[← Hw1.out]
 go_wp2_with (fail)
 refine He.out.mono ?_
 rintro e w2 ⟨rfl,hP,hB⟩
 have H2:=Lhd (And.intro hP hB)
 clear hP hB
 go_wp2_with (fail)
 refine(HT.out _ H2.out.1).mono ?_
 rintro e w3 ⟨row,D,rfl,hx,hP,hB⟩
 obtain⟨A2,m2,c2,rfl⟩:=ex_row6 hx
 have hB3:=H2.out.2.trans' hB
 have hz3:=hB3.size
 have hlit:=exs_lit (F:=Fr w1) (d:=D) (n:=1) (g:=w3.heap.size) (w:=w3) 32 [[.int .i64 fin.1.op,.int .i64 fin.1.n,.string fin.1.s,.string fin.1.name,.string fin.1.src,.slice A2 m2 c2]] [fin.1] rfl hz3 rfl (by omega) rfl (fun k r x h1 h2=>by
  rcases k with _|k
  ·simp at h1 h2
   subst h1 h2
   exact ExAt.conv (fun k (hk:w2.heap.size≤k)=>by have:=H2.out.2.size;show w1.heap.size≤k;omega) (Kept.refl _ _) D (Nat.le_refl _) hx
  ·simp at h1)
 have hop:=ex_opn H01.out.1 H01.out.2 hlit
 simp only[List.flatten_cons,List.flatten_nil,List.append_nil] at hop
 have hb4:=(Below.refl w3.heap.size w3).alloc (Nat.le_refl _) (.cells #[.int .i64 fin.1.op,.int .i64 fin.1.n,.string fin.1.s,.string fin.1.name,.string fin.1.src,.slice A2 m2 c2] 32)
 have hb5:=(Below.refl (w3.alloc (.cells #[.int .i64 fin.1.op,.int .i64 fin.1.n,.string fin.1.s,.string fin.1.name,.string fin.1.src,.slice A2 m2 c2] 32)).heap.size (w3.alloc (.cells #[.int .i64 fin.1.op,.int .i64 fin.1.n,.string fin.1.s,.string fin.1.name,.string fin.1.src,.slice A2 m2 c2] 32))).alloc (Nat.le_refl _) (.cells #[.int .i64 op,.int .i64 0,.string ⟨#[]⟩,.string ⟨#[]⟩,.string ⟨#[]⟩,.slice (some ⟨w3.heap.size,0,none⟩) 1 1] 32)
 have hx5:=hop.below hb5
 have hP5:=(hP.below hb4).below hb5
 have hk5:IsBlk ((w3.alloc (.cells #[.int .i64 fin.1.op,.int .i64 fin.1.n,.string fin.1.s,.string fin.1.name,.string fin.1.src,.slice A2 m2 c2] 32)).alloc (.cells #[.int .i64 op,.int .i64 0,.string ⟨#[]⟩,.string ⟨#[]⟩,.string ⟨#[]⟩,.slice (some ⟨w3.heap.size,0,none⟩) 1 1] 32)) (w3.heap.size+1) 32 #[.int .i64 op,.int .i64 0,.string ⟨#[]⟩,.string ⟨#[]⟩,.string ⟨#[]⟩,.slice (some ⟨w3.heap.size,0,none⟩) 1 1]:=blk_new (by simp)
 have hB5:=(hB3.alloc (.cells #[.int .i64 fin.1.op,.int .i64 fin.1.n,.string fin.1.s,.string fin.1.name,.string fin.1.src,.slice A2 m2 c2] 32)).alloc (.cells #[.int .i64 op,.int .i64 0,.string ⟨#[]⟩,.string ⟨#[]⟩,.string ⟨#[]⟩,.slice (some ⟨w3.heap.size,0,none⟩) 1 1] 32)
 have H5:=Lhd (And.intro hx5 (And.intro hP5 (And.intro hk5 (And.intro hB5 hz3))))
 clear hx hP hB hB3 hz3 hlit hop hb4 hb5 hx5 hP5 hk5 hB5
 go_wp2_with (fail)
 refine(Hl.out _ H5.out.2.1).mono ?_
 rintro e w6 ⟨rfl,hP,hB⟩
 have hB6:=H5.out.2.2.2.1.trans' hB
 have hk6:=on2_blk Hk1.out hB6 (by have:=Hz.out;omega)
 have hk7:=on2_blk H5.out.2.2.1 hB (by have:=Hz.out;have:=H5.out.2.2.2.2;omega)
 obtain⟨x0,x1,x2,x3,x4,x5,xl⟩:=cells6 hk6
 obtain⟨y0,y1,y2,y3,y4,y5,yl⟩:=cells6 hk7
 have f6:=hk6.frozen
 have hx6:=H5.out.1.kept (fr_on2 (gp:=gp) (gc:=gc) hB (fun k (hk:w1.heap.size≤k)=>by have:=Hz.out;omega))
 have H:=Lhd (gives_of (x:=oneP op fin.1) (w3:=w1) hx6 hP ((But.of_below Hb1.out).trans' hB6) hk6 (Nat.le_refl _) (by omega) Hz.out)
 clear hP hB hB6 hk6 hk7 hx6
 go_wp2
 rw[lay6_eq]
 exact bodyPost_ret (ret_ex Tryz.results145 rfl H.out.1 rfl) rfl H.out.2
theorem may_cases (W:Wds) (t:ByteArray) (s:PSt):mayP W t s=(false,s)∨(mayP W t s=(true,s.on)∧s.bad=false∧s.at_<W.l.length):=by
 unfold mayP
 split
 ·rename_i h
  unfold isP at h
  simp only[Bool.and_eq_true,Bool.not_eq_true'] at h
  exact .inr ⟨rfl,h.1,says_in h.2⟩
 ·exact .inl rfl
theorem signedP_no {W:Wds} {E:PSt→Ex×PSt} {k:Nat} {s:PSt} (h:mayP W (str [45]) s=(false,s)):signedP W E (k+1) s=singleP W E s:=by unfold signedP;simp[h]
theorem signedP_yes {W:Wds} {E:PSt→Ex×PSt} {k:Nat} {s:PSt} (h:mayP W (str [45]) s=(true,s.on)):signedP W E (k+1) s=(oneP 20 (signedP W E k (enterP s.on)).1,leaveP (signedP W E k (enterP s.on)).2):=by
 conv=>lhs;unfold signedP
 simp[h]
theorem pSigned_fuel (gp gc gw:Nat) (W:Wds) (E:PSt→Ex×PSt) (m:Nat) (hS:TakesE gp gc gw W 207 (singleP W E) m):∀ (k:Nat),1≤k→∀ (s:PSt) (w:World),PAt gp gc gw W s w→Fit W k s→Fit W m s →
  Calls Tryz.prog 198 #[.pointer (some ⟨gp,0,none⟩)] w (GivesE gp gc gw W (signedP W E k s).2 (signedP W E k s).1 w):=by
 intro k
 induction k with
 | zero=>intro h;omega
 | succ k ih =>
  intro _ s w h hf hfm
  have hz:=And.intro h.lt.1 (And.intro h.lt.2 h.wl)
  have hb1:=(Below.refl w.heap.size w).alloc (Nat.le_refl _) (.cells zero6 32)
  have hk1:=IsBlk.laid w 32 zero6
  have hm:=pMay_any gp gc gw W s (str [45]) _ (h.below hb1)
  have hsz:(w.alloc (.cells zero6 32)).heap.size=w.heap.size+1:=by simp
  obtain⟨w1,Hw1⟩:∃ w1,Hid (w1=w.alloc (.cells zero6 32)):=⟨_,rfl⟩
  rw[← Hw1.out] at hb1 hk1 hm hsz
  have Hb1:=Lhd hb1
  have Hk1:=Lhd hk1
  have Hz:=Lhd hz
  rcases may_cases W (str [45]) s with hc|⟨hc,hbad,hat⟩
  ·rw[hc] at hm
   rw[signedP_no hc]
   simp only[str] at hm
   have Hm:=Lhd hm
   have HS:=Lhd (fun w2 hW=>hS s w2 hW hfm)
   clear hb1 hk1 hz h hf hfm hm hc ih hS
   generalize singleP W E s=fin at *
   go_enter Tryz.func198,Tryz.ntmps198
   go_upto_region 1 with (fail)
   rw[← Hw1.out]
   go_wp2_with (fail)
   refine Hm.out.mono ?_
   rintro e w2 ⟨rfl,hP,hB⟩
   have H2:=Lhd (And.intro hP hB)
   clear hP hB
   go_wp2_with (fail)
   refine(HS.out _ H2.out.1).mono ?_
   rintro e w3 ⟨row,D,rfl,hx,hP,hB⟩
   obtain⟨A2,m2,c2,rfl⟩:=ex_row6 hx
   have hB3:=H2.out.2.trans' hB
   have hk3:=on2_blk Hk1.out hB3 (by have:=Hz.out;omega)
   obtain⟨x0,x1,x2,x3,x4,x5,xl⟩:=cells6 hk3
   have f3:=hk3.frozen
   have hs:=H2.out.2.size
   have H:=Lhd (gives_of hx hP ((But.of_below Hb1.out).trans' hB3) hk3 (Nat.le_refl _) (by omega) Hz.out)
   clear hx hP hB hB3 hk3 hs
   go_wp2
   rw[lay6_eq]
   exact bodyPost_ret (ret_ex Tryz.results198 rfl H.out.1 rfl) rfl H.out.2
  ·rw[hc] at hm
   rw[signedP_yes hc]
   simp only[str] at hm
   have hf1:Fit W k s.on:=Fit.on hf
   have hk0:1≤k:=by
    rcases hf1 with h1|h1
    ·rw[show s.on.bad=s.bad from rfl,hbad] at h1;cases h1
    ·have:s.on.at_=s.at_+1:=rfl
     omega
   have hih:=fun w2 hW=>ih hk0 (enterP s.on) w2 hW (hf1.ge (ge_enter _)) ((hfm.ge (ge_on s)).ge (ge_enter _))
   have Ha:=Lhd (fun w2 hW=>pAhead_signed gp gc gw W (signedP W E k) s.on 20 w2 hW (by omega) (by omega) hih)
   have Hm:=Lhd hm
   clear hb1 hk1 hz h hf hfm hm hc ih hS hih hf1 hk0
   generalize signedP W E k (enterP s.on)=fin at *
   go_enter Tryz.func198,Tryz.ntmps198
   go_upto_region 1 with (fail)
   rw[← Hw1.out]
   go_wp2_with (fail)
   refine Hm.out.mono ?_
   rintro e w2 ⟨rfl,hP,hB⟩
   have H2:=Lhd (And.intro hP hB)
   clear hP hB
   go_wp2_with (fail)
   refine(Ha.out _ H2.out.1).mono ?_
   rintro e w3 ⟨row,D,rfl,hx,hP,hB⟩
   obtain⟨A2,m2,c2,rfl⟩:=ex_row6 hx
   have hB3:=H2.out.2.trans' hB
   have hk3:=on2_blk Hk1.out hB3 (by have:=Hz.out;omega)
   obtain⟨x0,x1,x2,x3,x4,x5,xl⟩:=cells6 hk3
   have f3:=hk3.frozen
   have hs:=H2.out.2.size
   have H:=Lhd (gives_of hx hP ((But.of_below Hb1.out).trans' hB3) hk3 (Nat.le_refl _) (by omega) Hz.out)
   clear hx hP hB hB3 hk3 hs
   go_wp2
   rw[lay6_eq]
   exact bodyPost_ret (ret_ex Tryz.results198 rfl H.out.1 rfl) rfl H.out.2
theorem fit_all (W:Wds) (s:PSt):Fit W W.fuel s:=.inr (by unfold Wds.fuel;omega)
theorem pSigned_any (gp gc gw:Nat) (W:Wds) (E:PSt→Ex×PSt) (m:Nat) (hS:TakesE gp gc gw W 207 (singleP W E) m):TakesE gp gc gw W 198 (signedP W E W.fuel) m :=
 fun s w h hf=>pSigned_fuel gp gc gw W E m hS W.fuel (by unfold Wds.fuel;omega) s w h (fit_all W s) hf
def cntW (W:Wds) (i:Nat):Nat:=((W.l.take i).filter fun x=>x.says (str [40])).length
theorem cnt_mono (W:Wds) {i j:Nat} (h:i≤j):cntW W i≤cntW W j:=by
 unfold cntW
 exact(List.Sublist.filter _ (List.take_prefix_take_left h).sublist).length_le
theorem cnt_on {W:Wds} {i:Nat} (h:(W.look i).says (str [40])=true):cntW W (i+1)=cntW W i+1:=by
 have hlt:=says_in h
 have hx:W.l[i]?=some (W.l[i]):=List.getElem?_eq_getElem hlt
 rw[look_in hx] at h
 unfold cntW
 rw[List.take_succ_eq_append_getElem hlt,List.filter_append,List.length_append,List.filter_cons,if_pos h]
 rfl
def wrP (L:Nat) (op:Int) (n:Nat):Nat:=if lvlN op<L then n+1 else n
theorem wr_mono {L M:Nat} (h:L≤M) (op:Int) (n:Nat):wrP L op n≤wrP M op n:=by
 unfold wrP
 split
 ·rw[if_pos (by omega)];exact Nat.le_refl _
 ·split<;>omega
theorem wr_le (L:Nat) (op:Int) (n:Nat):wrP L op n≤n+1:=by
 unfold wrP
 split<;>omega
theorem lvl_one (op:Int):1≤lvlN op:=by
 unfold lvlN
 repeat' split
 all_goals omega
theorem wr_one (op:Int) (n:Nat):wrP 1 op n=n:=by
 unfold wrP
 rw[if_neg (by have:=lvl_one op;omega)]
theorem wr_own {L:Nat} {op:Int} (h:lvlN op=L) (n:Nat):wrP L op n=n:=by
 unfold wrP
 rw[if_neg (by omega)]
def nP:Nat→Ex→Nat
 | 0,_=>0
 | d+1,e =>
  if e.op≤5 then 0 else match e.args with
   | []=>0
   | a::r =>
    if e.op=19∨e.op=20 then wrP (lvlN e.op) a.op (nP d a)
    else if 21≤e.op then 1+nP d a+(if e.op=21 then 0 else match r with|[]=>0|b::_=>nP d b)
    else wrP (lvlN e.op+if lvlN e.op=4 then 1 else 0) a.op (nP d a)+(match r with|[]=>0|b::_=>wrP (lvlN e.op+1) b.op (nP d b))
section
variable {d:Nat} {op n:Int} {s name src:ByteArray} {a b:Ex}
theorem nP_low (h:op≤5) (l:List Ex):nP d (.mk op n s name src l)=0:=by
 cases d with
 | zero=>rfl
 | succ d=>simp only[nP,Ex.op,h,if_true]
theorem nP_two (h1:6≤op) (h2:op≤18):nP (d+1) (.mk op n s name src [a,b])=wrP (lvlN op+if lvlN op=4 then 1 else 0) a.op (nP d a)+wrP (lvlN op+1) b.op (nP d b):=by
 have g1:¬ op≤5:=by omega
 have g6:¬ (op=19∨op=20):=by omega
 have g7:¬ 21≤op:=by omega
 simp only[nP,Ex.op,Ex.args,g1,g6,g7,if_false]
 rfl
theorem nP_one (h:op=19∨op=20):nP (d+1) (.mk op n s name src [a])=wrP (lvlN op) a.op (nP d a):=by
 have g1:¬ op≤5:=by omega
 simp only[nP,Ex.op,Ex.args,g1,h,if_false,if_true]
theorem nP_count:nP (d+1) (.mk 21 n s name src [a])=1+nP d a:=by
 have g1:¬ (21:Int)≤5:=by omega
 have g6:¬ ((21:Int)=19∨(21:Int)=20):=by omega
 have g7:(21:Int)≤21:=by omega
 simp only[nP,Ex.op,Ex.args,g1,g6,g7,if_false,if_true,Nat.add_zero]
theorem nP_fold (h1:22≤op):nP (d+1) (.mk op n s name src [a,b])=1+nP d a+nP d b:=by
 have g1:¬ op≤5:=by omega
 have g6:¬ (op=19∨op=20):=by omega
 have g7:21≤op:=by omega
 have g8:¬ op=21:=by omega
 simp only[nP,Ex.op,Ex.args,g1,g6,g7,g8,if_false,if_true]
end
theorem bad_ge {s s':PSt} (h:Ge s s') (hb:s'.bad=false):s.bad=false:=by
 cases hs:s.bad with
 | false=>rfl
 | true=>rw[h.2 hs] at hb;cases hb
theorem enter_at (s:PSt):(enterP s).at_=s.at_:=by
 unfold enterP
 split<;>rfl
section
variable (W:Wds)
theorem must_open {s:PSt} (h:(mustP W [str [40]] s).bad=false):cntW W (mustP W [str [40]] s).at_=cntW W s.at_+1:=by
 unfold mustP at h ⊢
 cases hm:(mayP W (str [40]) s).1 with
 | false =>
  rw[hm,if_neg Bool.false_ne_true] at h
  cases h
 | true =>
  rw[if_pos rfl]
  unfold mayP isP at hm ⊢
  split at hm
  ·rename_i hc
   rw[if_pos hc]
   simp only[Bool.and_eq_true] at hc
   exact cnt_on hc.2
  ·cases hm
def Cn (f:PSt→Ex×PSt) (L:Nat):Prop:=∀ (s:PSt),(f s).2.bad=false→∀ d:Nat,wrP L (f s).1.op (nP d (f s).1)+cntW W s.at_≤cntW W (f s).2.at_
theorem Cn.le {W:Wds} {f:PSt→Ex×PSt} {L M:Nat} (h:Cn W f M) (hl:L≤M):Cn W f L:=fun s hb d=>by
 have h1:=h s hb d
 have h2:=wr_mono hl (f s).1.op (nP d (f s).1)
 omega
theorem cn_chain {l:List (ByteArray×Int)} {one:PSt→Ex×PSt} {L:Nat} (hl:∀ p∈l,lvlN p.2=L∧6≤p.2∧p.2≤18) (h4:L≠4) (h1:Cn W one (L+1)) (hU:∀ s,Ge s (one s).2) :
  ∀ (F:Nat) (e:Ex) (s:PSt) (c0:Nat),(∀ d:Nat,wrP L e.op (nP d e)+c0≤cntW W s.at_)→(chainP W l one F e s).2.bad=false→∀ d:Nat,wrP L (chainP W l one F e s).1.op (nP d (chainP W l one F e s).1)+c0≤cntW W (chainP W l one F e s).2.at_:=by
 intro F
 induction F with
 | zero=>intro e s c0 h _;exact h
 | succ F ih =>
  intro e s c0 h hb
  unfold chainP at hb ⊢
  rcases opP_cases W s l with ho|⟨p,hp,ho,_,_⟩
  ·rw[ho,if_pos rfl]
   exact h
  ·obtain⟨e1,e2,e3⟩:=hl p hp
   rw[ho] at hb ⊢
   have h0:¬ p.2=0:=by omega
   rw[if_neg h0] at hb ⊢
   refine ih _ _ c0 ?_ hb
   have hb1:(one s.on).2.bad=false:=bad_ge (up_chain W l hU _ _ _) hb
   have hm:cntW W s.at_≤cntW W s.on.at_:=cnt_mono W (Nat.le_succ _)
   intro d
   have ht:=h1 s.on hb1
   show wrP L p.2 (nP d (twoP p.2 e (one s.on).1))+c0≤_
   rw[wr_own e1]
   cases d with
   | zero =>
    have a:=h 0
    have b:=ht 0
    show 0+c0≤cntW W (one s.on).2.at_
    omega
   | succ d =>
    have a:=h d
    have b:=ht d
    unfold twoP
    rw[nP_two e2 e3,e1,if_neg h4]
    show wrP L e.op (nP d e)+_+c0≤cntW W (one s.on).2.at_
    omega
theorem cn_chain1 {l:List (ByteArray×Int)} {one:PSt→Ex×PSt} {L:Nat} (hl:∀ p∈l,lvlN p.2=L∧6≤p.2∧p.2≤18) (h4:L≠4) (h1:Cn W one (L+1)) (hU:∀ s,Ge s (one s).2):Cn W (chain1 W l one) L:=fun s hb =>
 cn_chain W hl h4 h1 hU _ _ _ _ (h1.le (Nat.le_succ L) s (bad_ge (up_chain W l hU _ _ _) hb)) hb
section
variable {E:PSt→Ex×PSt} (hE:Cn W E 1) (hU:∀ s,Ge s (E s).2)
include hE hU
omit hU in
theorem cn_where (s:PSt) (hb:(whereP W E s).2.bad=false) (d:Nat):nP d (whereP W E s).1+cntW W s.at_≤cntW W (whereP W E s).2.at_:=by
 unfold whereP at hb ⊢
 split
 ·rename_i h
  rw[if_pos h] at hb
  have a:=hE _ hb d
  rw[wr_one] at a
  have b:=cnt_mono W (ge_may W (str [119,104,101,114,101]) s).1
  omega
 ·rw[nP_low (by omega),Nat.zero_add]
  exact Nat.le_refl _
theorem cn_fold:Cn W (foldP W E) 8:=by
 intro s hb d
 have hop:(foldOp W s).1=21∨22≤(foldOp W s).1:=by
  unfold foldOp
  repeat' split
  all_goals first|exact .inl rfl|exact .inr (by simp)
 have hle:(foldOp W s).1≤24:=by
  unfold foldOp
  repeat' split
  all_goals simp
 have u1:=up_foldOp W s
 unfold foldP at hb ⊢
 simp only at hb ⊢
 generalize foldOp W s=o at *
 obtain⟨op,s1⟩:=o
 simp only at *
 have g1:=ge_must W (str [40]) s1
 have g2:=must_open W (s:=s1)
 have g3:=ge_enter (mustP W [str [40]] s1)
 generalize mustP W [str [40]] s1=s2 at *
 have g3a:=enter_at s2
 generalize enterP s2=s3 at *
 have g4:=up_rows W s3
 generalize rowsP W s3=r at *
 have g5:=up_where W hU r.2
 have g6:=cn_where W hE r.2
 generalize whereP W E r.2=a at *
 have m1:=cnt_mono W u1.1
 have m4:=cnt_mono W g4.1
 rcases hop with e|e
 ·subst e
  rw[if_pos rfl] at hb ⊢
  have g7:=ge_must W (str [41]) a.2
  have b3:(mustP W [str [41]] a.2).bad=false:=bad_ge (ge_leave _) hb
  have b2:=bad_ge g7 b3
  have b1:=bad_ge g5 b2
  have b0:=bad_ge (g3.trans g4) b1
  have c1:=g2 b0
  have m7:=cnt_mono W g7.1
  show wrP 8 21 (nP d (.mk 21 0 nil0 r.1.1 r.1.2 [a.1]))+cntW W s.at_≤cntW W (mustP W [str [41]] a.2).at_
  rw[wr_own (by decide)]
  rw[← g3a] at c1
  cases d with
  | zero=>have c2:=g6 b2 0;show 0+_≤_;omega
  | succ d=>have c2:=g6 b2 d;rw[nP_count];omega
 ·have hne:¬ op=21:=by omega
  rw[if_neg hne] at hb ⊢
  have g7:=ge_must W (str [58]) a.2
  generalize mustP W [str [58]] a.2=s5 at *
  have g8:=hU s5
  have g9:=hE s5
  generalize E s5=b at *
  have g10:=ge_must W (str [41]) b.2
  have b3:(mustP W [str [41]] b.2).bad=false:=bad_ge (ge_leave _) hb
  have b4:=bad_ge g10 b3
  have b5:=bad_ge (g7.trans g8) b4
  have b1:=bad_ge g5 b5
  have b0:=bad_ge (g3.trans g4) b1
  have c1:=g2 b0
  have m7:=cnt_mono W g7.1
  have m10:=cnt_mono W g10.1
  show wrP 8 op (nP d (.mk op 0 nil0 r.1.1 r.1.2 [a.1,b.1]))+cntW W s.at_≤cntW W (mustP W [str [41]] b.2).at_
  have hl8:lvlN op=8:=by
   obtain rfl|rfl|rfl:op=22∨op=23∨op=24:=by omega
   all_goals decide
  rw[wr_own hl8]
  rw[← g3a] at c1
  cases d with
  | zero=>have c2:=g6 b5 0;have c3:=g9 b4 0;show 0+_≤_;omega
  | succ d=>have c2:=g6 b5 d;have c3:=g9 b4 d;rw[wr_one] at c3;rw[nP_fold e];omega
theorem cn_single:Cn W (singleP W E) 8:=by
 intro s hb d
 have hlow:∀ (op n:Int) (a b c:ByteArray) (s':PSt),1≤op→op≤5→Ge s s'→wrP 8 op (nP d (.mk op n a b c []))+cntW W s.at_≤cntW W s'.at_:=fun op n a b c s' h1 h2 hg=>by
  have hl8:lvlN op=8:=by
   obtain rfl|rfl|rfl|rfl|rfl:op=1∨op=2∨op=3∨op=4∨op=5:=by omega
   all_goals decide
  rw[wr_own hl8,nP_low h2]
  have:=cnt_mono W hg.1
  omega
 have hvar:wrP 8 (varP W s).1.op (nP d (varP W s).1)+cntW W s.at_≤cntW W (varP W s).2.at_:=by
  have hu:=up_var W s
  unfold varP at hu ⊢
  simp only at hu ⊢
  split
  ·rename_i h
   rw[if_pos h] at hu
   exact hlow 5 _ _ _ _ _ (by decide) (by decide) hu
  ·rename_i h
   rw[if_neg h] at hu
   exact hlow 4 _ _ _ _ _ (by decide) (by decide) hu
 have hpar:(parenP W E s).2.bad=false→wrP 8 (parenP W E s).1.op (nP d (parenP W E s).1)+cntW W s.at_≤cntW W (parenP W E s).2.at_:=fun hb=>by
  unfold parenP at hb ⊢
  simp only at hb ⊢
  have g2:=must_open W (s:=s)
  have g3:=ge_enter (mustP W [str [40]] s)
  generalize mustP W [str [40]] s=s2 at *
  have g3a:=enter_at s2
  generalize enterP s2=s3 at *
  have g8:=hU s3
  have g9:=hE s3
  generalize E s3=b at *
  have g10:=ge_must W (str [41]) b.2
  have b3:(mustP W [str [41]] b.2).bad=false:=bad_ge (ge_leave _) hb
  have b4:=bad_ge g10 b3
  have b0:=bad_ge (g3.trans g8) b4
  have c1:=g2 b0
  rw[← g3a] at c1
  have c3:=g9 b4 d
  rw[wr_one] at c3
  have m10:=cnt_mono W g10.1
  have:=wr_le 8 b.1.op (nP d b.1)
  show _≤cntW W (mustP W [str [41]] b.2).at_
  omega
 unfold singleP at hb ⊢
 split
 ·rename_i h
  rw[if_pos h] at hb
  rw[h] at hb
  cases hb
 ·rename_i h0
  rw[if_neg h0] at hb
  split
  ·exact hlow 1 _ _ _ _ _ (by decide) (by decide) (ge_on s)
  ·rename_i h1
   rw[if_neg h1] at hb
   split
   ·exact hlow 2 _ _ _ _ _ (by decide) (by decide) (ge_on s)
   ·rename_i h2
    rw[if_neg h2] at hb
    split
    ·exact hlow 3 _ _ _ _ _ (by decide) (by decide) (ge_on s)
    ·rename_i h3
     rw[if_neg h3] at hb
     split
     ·exact hlow 3 _ _ _ _ _ (by decide) (by decide) (ge_on s)
     ·rename_i h4
      rw[if_neg h4] at hb
      split
      ·rename_i h5
       rw[if_pos h5] at hb
       exact cn_fold W hE hU s hb d
      ·rename_i h5
       rw[if_neg h5] at hb
       split
       ·rename_i h6
        rw[if_pos h6] at hb
        exact hpar hb
       ·exact hvar
theorem cn_signed:∀ k s,(signedP W E k s).2.bad=false→∀ d:Nat,wrP 7 (signedP W E k s).1.op (nP d (signedP W E k s).1)+cntW W s.at_≤cntW W (signedP W E k s).2.at_:=by
 intro k
 induction k with
 | zero =>
  intro s _ d
  show wrP 7 0 (nP d ex0)+_≤_
  unfold ex0
  rw[nP_low (by omega),wrP,if_neg (by decide)]
  show 0+_≤cntW W s.at_
  omega
 | succ k ih =>
  intro s hb d
  rcases may_cases W (str [45]) s with hc|⟨hc,hbad,hat⟩
  ·rw[signedP_no hc] at hb ⊢
   exact(cn_single W hE hU).le (by omega) s hb d
  ·rw[signedP_yes hc] at hb ⊢
   have hi:=ih (enterP s.on) (bad_ge (ge_leave _) hb)
   rw[enter_at] at hi
   have m:=cnt_mono W (ge_on s).1
   show wrP 7 20 (nP d (oneP 20 (signedP W E k (enterP s.on)).1))+_≤cntW W (signedP W E k (enterP s.on)).2.at_
   rw[wr_own (by decide)]
   cases d with
   | zero=>have:=hi 0;show 0+_≤_;omega
   | succ d =>
    have:=hi d
    unfold oneP
    rw[nP_one (.inr rfl),show lvlN 20=7 by decide]
    omega
theorem cn_product:Cn W (productP W E) 6:=by
 refine cn_chain1 W (L:=6) (l:=lvMul) (by decide) (by decide) (fun s hb=>?_) (up_signed W hU _)
 exact cn_signed W hE hU W.fuel s hb
theorem cn_sum:Cn W (sumP W E) 5:=cn_chain1 W (L:=5) (l:=lvSum) (by decide) (by decide) (cn_product W hE hU) (up_product W hU)
theorem cn_cmp:Cn W (cmpP W E) 4:=by
 intro s hb d
 have u1:=up_sum W hU s
 have c1:=cn_sum W hE hU s
 have c2:=cn_sum W hE hU
 have u2:=up_sum W hU
 unfold cmpP at hb ⊢
 simp only at hb ⊢
 generalize sumP W E s=a at *
 rcases opP_cases W a.2 lvCmp with ho|⟨p,hp,ho,_,_⟩
 ·rw[ho,if_pos rfl] at hb ⊢
  have h:=c1 hb d
  have:=wr_mono (show 4≤5 by omega) a.1.op (nP d a.1)
  show wrP 4 a.1.op (nP d a.1)+_≤cntW W a.2.at_
  omega
 ·have hl:lvlN p.2=4∧6≤p.2∧p.2≤18:=(show ∀ p∈lvCmp,lvlN p.2=4∧6≤p.2∧p.2≤18 by decide) p hp
  obtain⟨e1,e2,e3⟩:=hl
  have h0:¬ p.2=0:=by omega
  rw[ho] at hb ⊢
  rw[if_neg h0] at hb ⊢
  have hb1:a.2.bad=false:=bad_ge ((ge_on _).trans (u2 a.2.on)) hb
  have m:=cnt_mono W (ge_on a.2).1
  show wrP 4 p.2 (nP d (twoP p.2 a.1 (sumP W E a.2.on).1))+_≤cntW W (sumP W E a.2.on).2.at_
  rw[wr_own e1]
  cases d with
  | zero=>have h1:=c1 hb1 0;have h2:=c2 a.2.on hb 0;show 0+_≤_;omega
  | succ d =>
   have h1:=c1 hb1 d
   have h2:=c2 a.2.on hb d
   unfold twoP
   rw[nP_two e2 e3,e1,if_pos rfl]
   show wrP 5 a.1.op (nP d a.1)+wrP 5 (sumP W E a.2.on).1.op (nP d (sumP W E a.2.on).1)+_≤_
   omega
theorem cn_not:∀ k s,(notP W E k s).2.bad=false→∀ d:Nat,wrP 3 (notP W E k s).1.op (nP d (notP W E k s).1)+cntW W s.at_≤cntW W (notP W E k s).2.at_:=by
 intro k
 induction k with
 | zero =>
  intro s _ d
  show wrP 3 0 (nP d ex0)+_≤_
  unfold ex0
  rw[nP_low (by omega),wrP,if_neg (by decide)]
  show 0+_≤cntW W s.at_
  omega
 | succ k ih =>
  intro s hb d
  unfold notP at hb ⊢
  rcases may_cases W (str [110,111,116]) s with hc|⟨hc,hbad,hat⟩
  ·rw[hc,if_neg Bool.false_ne_true] at hb ⊢
   exact(cn_cmp W hE hU).le (by omega) s hb d
  ·rw[hc,if_pos rfl] at hb ⊢
   have hi:=ih (enterP s.on) (bad_ge (ge_leave _) hb)
   rw[enter_at] at hi
   have m:=cnt_mono W (ge_on s).1
   show wrP 3 19 (nP d (oneP 19 (notP W E k (enterP s.on)).1))+_≤cntW W (notP W E k (enterP s.on)).2.at_
   rw[wr_own (by decide)]
   cases d with
   | zero=>have:=hi 0;show 0+_≤_;omega
   | succ d =>
    have:=hi d
    unfold oneP
    rw[nP_one (.inl rfl),show lvlN 19=3 by decide]
    omega
theorem cn_both:Cn W (bothP W E) 2:=by
 refine cn_chain1 W (L:=2) (l:=lvAnd) (by decide) (by decide) (fun s hb=>?_) (up_not W hU _)
 exact cn_not W hE hU W.fuel s hb
theorem cn_or:Cn W (chain1 W lvOr (bothP W E)) 1:=cn_chain1 W (L:=1) (l:=lvOr) (by decide) (by decide) (cn_both W hE hU) (up_both W hU)
end
theorem cn_expr:∀ f,Cn W (exprP W f) 1:=by
 intro f
 induction f with
 | zero =>
  intro s _ d
  show wrP 1 0 (nP d ex0)+_≤_
  unfold ex0
  rw[nP_low (by omega),wr_one]
  show 0+_≤cntW W s.at_
  omega
 | succ f ih=>exact cn_or W ih (up_expr W f)
end
end Go.Proofs.YtdgapmnojmhllaaGreatDoor

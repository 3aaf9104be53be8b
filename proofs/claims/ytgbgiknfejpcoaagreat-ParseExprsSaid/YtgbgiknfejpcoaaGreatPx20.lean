/- Parts of this proof, one behind the other: ParR0, ParR, ParS, ParT. -/
import Derived.Test.YtgbgiknfejpcoaaGreatPx19
set_option maxRecDepth 1000000
set_option maxHeartbeats 40000000
namespace Go.Proofs.YtgbgiknfejpcoaaGreat
open Go.RowKit Go.Afx
abbrev zero8:Array Value:=#[.int .i64 0,.string ⟨#[]⟩,.string ⟨#[]⟩,.int .i64 0,.slice none 0 0,.slice none 0 0,.slice none 0 0,.slice none 0 0]
def GivesS (gp gc gw:Nat) (W:Wds) (s':PSt) (x:St) (w:World) (e:Ending) (w':World):Prop:=∃ row D,e=.returned (.agg row.toArray)∧StAt (Fr w) D w' row x∧PAt gp gc gw W s' w'∧But (On2 gp gc) w w'
theorem st_row8 {F:Nat→Prop} {d:Nat} {w:World} {row:List Value} {x:St} (h:StAt F d w row x):∃ Ac nc cc Ae ne ce Ab nb cb Al nl cl,row=[.int .i64 x.op,.string x.name,.string x.src,.int .i64 x.n,.slice Ac nc cc,.slice Ae ne ce,.slice Ab nb cb,.slice Al nl cl]:=by
 cases d with
 | zero=>exact h.elim
 | succ d=>obtain⟨_,_,_,_,Ac,nc,cc,Ae,ne,ce,Ab,nb,cb,Al,nl,cl,h,_⟩:=h.open_;exact⟨Ac,nc,cc,Ae,ne,ce,Ab,nb,cb,Al,nl,cl,h⟩
theorem cells8 {w:World} {g:Nat} {T:TypeId} {v0 v1 v2 v3 v4 v5 v6 v7:Value} (h:IsBlk w g T #[v0,v1,v2,v3,v4,v5,v6,v7]):w.cell? ⟨g,0,none⟩=some v0∧w.cell? ⟨g,1,none⟩=some v1∧w.cell? ⟨g,2,none⟩=some v2∧w.cell? ⟨g,3,none⟩=some v3∧w.cell? ⟨g,4,none⟩=some v4∧w.cell? ⟨g,5,none⟩=some v5∧w.cell? ⟨g,6,none⟩=some v6∧w.cell? ⟨g,7,none⟩=some v7∧g<w.heap.size:=by
 have h0:=h.cell 0;have h1:=h.cell 1;have h2:=h.cell 2;have h3:=h.cell 3;have h4:=h.cell 4;have h5:=h.cell 5;have h6:=h.cell 6;have h7:=h.cell 7
 simp at h0 h1 h2 h3 h4 h5 h6 h7
 exact⟨h0,h1,h2,h3,h4,h5,h6,h7,h.lt⟩
def lay8 (w:World) (g:Nat) (v0 v1 v2 v3 v4 v5 v6 v7:Value):World:=(((((((w.setCell ⟨g,0,none⟩ v0).setCell ⟨g,1,none⟩ v1).setCell ⟨g,2,none⟩ v2).setCell ⟨g,3,none⟩ v3).setCell ⟨g,4,none⟩ v4).setCell ⟨g,5,none⟩ v5).setCell ⟨g,6,none⟩ v6).setCell ⟨g,7,none⟩ v7
theorem lay8_eq (w:World) (g:Nat) (v0 v1 v2 v3 v4 v5 v6 v7:Value):(((((((w.setCell ⟨g,0,none⟩ v0).setCell ⟨g,1,none⟩ v1).setCell ⟨g,2,none⟩ v2).setCell ⟨g,3,none⟩ v3).setCell ⟨g,4,none⟩ v4).setCell ⟨g,5,none⟩ v5).setCell ⟨g,6,none⟩ v6).setCell ⟨g,7,none⟩ v7=lay8 w g v0 v1 v2 v3 v4 v5 v6 v7:=rfl
theorem lay8_blk {w:World} {g:Nat} {T:TypeId} {u0 u1 u2 u3 u4 u5 u6 u7:Value} (v0 v1 v2 v3 v4 v5 v6 v7:Value) (h:IsBlk w g T #[u0,u1,u2,u3,u4,u5,u6,u7]):IsBlk (lay8 w g v0 v1 v2 v3 v4 v5 v6 v7) g T #[v0,v1,v2,v3,v4,v5,v6,v7]:=by
 have h:IsBlk _ g T #[v0,u1,u2,u3,u4,u5,u6,u7]:=h.stored 0 v0
 have h:IsBlk _ g T #[v0,v1,u2,u3,u4,u5,u6,u7]:=h.stored 1 v1
 have h:IsBlk _ g T #[v0,v1,v2,u3,u4,u5,u6,u7]:=h.stored 2 v2
 have h:IsBlk _ g T #[v0,v1,v2,v3,u4,u5,u6,u7]:=h.stored 3 v3
 have h:IsBlk _ g T #[v0,v1,v2,v3,v4,u5,u6,u7]:=h.stored 4 v4
 have h:IsBlk _ g T #[v0,v1,v2,v3,v4,v5,u6,u7]:=h.stored 5 v5
 have h:IsBlk _ g T #[v0,v1,v2,v3,v4,v5,v6,u7]:=h.stored 6 v6
 have h:IsBlk _ g T #[v0,v1,v2,v3,v4,v5,v6,v7]:=h.stored 7 v7
 exact h
theorem lay8_but (w:World) (g:Nat) (v0 v1 v2 v3 v4 v5 v6 v7:Value):But (fun k=>k=g) w (lay8 w g v0 v1 v2 v3 v4 v5 v6 v7):=by
 have h:=But.refl (fun k=>k=g) w
 have h:=h.setCell (p:=⟨g,0,none⟩) (.inl rfl) v0
 have h:=h.setCell (p:=⟨g,1,none⟩) (.inl rfl) v1
 have h:=h.setCell (p:=⟨g,2,none⟩) (.inl rfl) v2
 have h:=h.setCell (p:=⟨g,3,none⟩) (.inl rfl) v3
 have h:=h.setCell (p:=⟨g,4,none⟩) (.inl rfl) v4
 have h:=h.setCell (p:=⟨g,5,none⟩) (.inl rfl) v5
 have h:=h.setCell (p:=⟨g,6,none⟩) (.inl rfl) v6
 exact h.setCell (p:=⟨g,7,none⟩) (.inl rfl) v7
theorem sizeSt:(Tryz.prog.info? 73).map (·.size)=some 8:=by kernel_rfl
theorem ret_st {fn:Func} {p:Tmp} {tmps:Array Value} {w:World} {g:Nat} {t:TypeId} {cs:Array Value} (h:fn.results=#[.cell p 73]) (hp:tmps.getD p undef=.pointer (some ⟨g,0,none⟩)) (hk:IsBlk w g t cs) (hz:cs.size=8):(results fn tmps).run Tryz.prog w=.ok (.agg cs) w :=
 results_cell_row h tmps w g t cs (0,0) _ hp hk Tryz.underlying73 rfl (by rw[hz];exact sizeSt)
theorem gives8_of {gp gc gw g:Nat} {W:Wds} {s':PSt} {x:St} {w w3 w4:World} {D:Nat} {Ac Ae Ab Al:Option Addr} {nc cc ne ce nb cb nl cl:Nat} {T:TypeId} {u0 u1 u2 u3 u4 u5 u6 u7:Value}
  (hx:StAt (Fr w3) D w4 [.int .i64 x.op,.string x.name,.string x.src,.int .i64 x.n,.slice Ac nc cc,.slice Ae ne ce,.slice Ab nb cb,.slice Al nl cl] x) (hP:PAt gp gc gw W s' w4) (hB:But (On2 gp gc) w w4) (hk:IsBlk w4 g T #[u0,u1,u2,u3,u4,u5,u6,u7]) (hg1:w.heap.size≤g) (hg2:g<w3.heap.size) (hz:gp<w.heap.size∧gc<w.heap.size∧gw<w.heap.size) :
  IsBlk (lay8 w4 g (.int .i64 x.op) (.string x.name) (.string x.src) (.int .i64 x.n) (.slice Ac nc cc) (.slice Ae ne ce) (.slice Ab nb cb) (.slice Al nl cl)) g T #[.int .i64 x.op,.string x.name,.string x.src,.int .i64 x.n,.slice Ac nc cc,.slice Ae ne ce,.slice Ab nb cb,.slice Al nl cl] ∧
  GivesS gp gc gw W s' x w (.returned (.agg #[.int .i64 x.op,.string x.name,.string x.src,.int .i64 x.n,.slice Ac nc cc,.slice Ae ne ce,.slice Ab nb cb,.slice Al nl cl])) (lay8 w4 g (.int .i64 x.op) (.string x.name) (.string x.src) (.int .i64 x.n) (.slice Ac nc cc) (.slice Ae ne ce) (.slice Ab nb cb) (.slice Al nl cl)):=by
 have hb7:=lay8_but w4 g (.int .i64 x.op) (.string x.name) (.string x.src) (.int .i64 x.n) (.slice Ac nc cc) (.slice Ae ne ce) (.slice Ab nb cb) (.slice Al nl cl)
 refine⟨lay8_blk _ _ _ _ _ _ _ _ hk,_,D,rfl,?_,hP.elsewhere hb7 (by omega),hB.trans hb7 (fun i hi=>.inr (by omega))⟩
 exact StAt.conv (fun k (hk:w3.heap.size≤k)=>by show w.heap.size≤k;omega) (Kept.of_but hb7 fun k (hk:w3.heap.size≤k) e=>by omega) D (Nat.le_refl _) hx
theorem st_of {F:Nat→Prop} {d:Nat} {w:World} {op n:Int} {name src:ByteArray} {cols:List ByteArray} {es:List Ex} {bo el:List St} {Ac Ae Ab Al:Option Addr} {nc cc ne ce nb cb nl cl:Nat} (h0:0≤op) (h1:op≤100) (hn:okI n) (hm:okS name) (hs:okS src)
  (hc:LsAt F w 1 SRow Ac nc cc cols) (he:ExsAt F d w Ae ne ce es) (hb:StsAt F d w Ab nb cb bo) (hl:StsAt F d w Al nl cl el):StAt F (d+1) w [.int .i64 op,.string name,.string src,.int .i64 n,.slice Ac nc cc,.slice Ae ne ce,.slice Ab nb cb,.slice Al nl cl] (.mk op name src n cols es bo el) :=
 ⟨⟨by show _≤op;omega,by show op≤_;omega⟩,hn,hm,hs,Ac,nc,cc,Ae,ne,ce,Ab,nb,cb,Al,nl,cl,rfl,hc,he,hb,hl⟩
theorem sts_nil (F:Nat→Prop) (d:Nat) (w:World):StsAt F d w none 0 0 []:=LsAt.nil_ _ _ _ _
theorem okS_0:okS nil0:=by unfold okS;exact Nat.zero_le _
theorem okI_0:okI 0:=by constructor<;>simp
theorem one_expr {w1 w4 w5:World} {g5 D g:Nat} {bx:Ex} {A9:Option Addr} {m9 c9:Nat} {v:Value} (hx:ExAt (Fr w4) D w5 [.int .i64 bx.op,.int .i64 bx.n,.string bx.s,.string bx.name,.string bx.src,.slice A9 m9 c9] bx) (h14:w1.heap.size≤w4.heap.size) (h45:w4.heap.size≤w5.heap.size) (hg5:g5<w4.heap.size) (hg:g=w5.heap.size) :
  ExsAt (Fr w1) D ((w5.setCell ⟨g5,5,none⟩ v).alloc (.cells #[.int .i64 bx.op,.int .i64 bx.n,.string bx.s,.string bx.name,.string bx.src,.slice A9 m9 c9] 60)) (some ⟨g,0,none⟩) 1 1 [bx]:=by
 have hb:=(But.refl (fun k=>k=g5) w5).setCell (p:=⟨g5,5,none⟩) (.inl rfl) v
 have hx2:=hx.kept (Kept.of_but hb fun k (hk:w4.heap.size≤k) e=>by omega)
 have hsz:(w5.setCell ⟨g5,5,none⟩ v).heap.size=w5.heap.size:=by simp[World.setCell]
 have h:=exs_lit (F:=Fr w1) (d:=D) (n:=1) (g:=g) (w:=w5.setCell ⟨g5,5,none⟩ v) 60 [[.int .i64 bx.op,.int .i64 bx.n,.string bx.s,.string bx.name,.string bx.src,.slice A9 m9 c9]] [bx] (by rw[hsz];exact hg) (show w1.heap.size≤g by omega) rfl (by omega) rfl (fun k r x h1 h2=>by
  rcases k with _|k
  ·simp at h1 h2
   subst h1 h2
   exact ExAt.conv (fun k (hk:w4.heap.size≤k)=>by show w1.heap.size≤k;omega) (Kept.refl _ _) D (Nat.le_refl _) hx2
  ·simp at h1)
 simpa using h
theorem assignP_eq (W:Wds) (op:Int) (s:PSt):assignP W op s=(.mk op (nameP W s).1 nil0 0 [] [(expr1 W (mustP W [str [61]] (nameP W s).2)).1] [] [],(expr1 W (mustP W [str [61]] (nameP W s).2)).2):=rfl
theorem pAssign_any (gp gc gw:Nat) (W:Wds) (op:Int) (s:PSt) (w:World) (h:PAt gp gc gw W s w) (h0:0≤op) (h1:op≤100) :
  Calls Tryz.prog 219 #[.pointer (some ⟨gp,0,none⟩),.int .i64 op] w (GivesS gp gc gw W (assignP W op s).2 (assignP W op s).1 w):=by
 have hz:=And.intro h.lt.1 (And.intro h.lt.2 h.wl)
 obtain⟨w1,Hw1⟩:∃ w1,Hid (w1=w.alloc (.cells zero8 73)):=⟨_,rfl⟩
 have hb1:Below w.heap.size w w1:=by rw[Hw1.out];exact(Below.refl _ _).alloc (Nat.le_refl _) _
 have hk4:IsBlk w1 w.heap.size 73 zero8:=by rw[Hw1.out];exact IsBlk.laid _ _ _
 have hsz:w1.heap.size=w.heap.size+1:=by rw[Hw1.out];simp
 have hn1:=pName_any gp gc gw W s w1 (h.below hb1)
 have hok:=name_ok h s
 have hfin:=assignP_eq W op s
 generalize assignP W op s=fin at *
 generalize nameP W s=a at *
 obtain⟨na,sa⟩:=a
 have hmu:=fun g w2 (hW:PAt gp gc gw W sa w2) (hg:g=w2.heap.size)=>pMust_any gp gc gw g W sa (str [61]) w2 hW hg
 simp only at hfin hok hn1
 generalize mustP W [str [61]] sa=sm at *
 simp only[str] at hmu
 have hex:=fun w2 (hW:PAt gp gc gw W sm w2)=>pExpr1_any gp gc gw W sm w2 hW
 generalize expr1 W sm=b at *
 obtain⟨bx,sb⟩:=b
 simp only at hfin hex
 have Hfin:=Lhd hfin
 have Hn1:=Lhd hn1
 have Hok:=Lhd hok
 have Hmu:=Lhd hmu
 have Hex:=Lhd hex
 have Hsz:=Lhd hsz
 have Hb1:=Lhd hb1
 have Hk4:=Lhd hk4
 have Hz:=Lhd hz
 have Hop:=Lhd (And.intro h0 h1)
 clear hfin hn1 hok hmu hex hsz hb1 hk4 hz h0 h1 h
 go_enter Tryz.func219,Tryz.ntmps219
 go_upto_region 1 with (fail)
 rw[← Hw1.out]
 go_wp2_with (fail)
 refine Hn1.out.mono ?_
 rintro e w2 ⟨rfl,hP,hB⟩
 have hal:=(Below.refl w2.heap.size w2).alloc (Nat.le_refl _) (.cells #[.int .i64 op,.string na,.string ⟨#[]⟩,.int .i64 0,.slice none 0 0,.slice none 0 0,.slice none 0 0,.slice none 0 0] 73)
 have hk5:IsBlk (w2.alloc (.cells #[.int .i64 op,.string na,.string ⟨#[]⟩,.int .i64 0,.slice none 0 0,.slice none 0 0,.slice none 0 0,.slice none 0 0] 73)) w2.heap.size 73 #[.int .i64 op,.string na,.string ⟨#[]⟩,.int .i64 0,.slice none 0 0,.slice none 0 0,.slice none 0 0,.slice none 0 0]:=IsBlk.laid _ _ _
 obtain⟨w3,Hw3⟩:∃ w3,Hid (w3=w2.alloc (.cells #[.int .i64 op,.string na,.string ⟨#[]⟩,.int .i64 0,.slice none 0 0,.slice none 0 0,.slice none 0 0,.slice none 0 0] 73)):=⟨_,rfl⟩
 have hz3:w2.heap.size+1=w3.heap.size:=by rw[Hw3.out];simp
 have hz2:w.heap.size<w2.heap.size:=by have:=hB.size;have:=Hsz.out;omega
 have H3:=Lhd (And.intro (hP.below hal) (And.intro (hB.trans' (But.of_below hal)) (And.intro hk5 (And.intro hz3 hz2))))
 rw[← Hw3.out] at H3
 clear hP hB hal hk5 hz3 hz2
 go_wp2_with (fail)
 rw[← Hw3.out]
 refine(Hmu.out _ _ H3.out.1 H3.out.2.2.2.1).mono ?_
 rintro e w4 ⟨rfl,hP,hB⟩
 have H4:=Lhd (And.intro hP hB)
 clear hP hB
 go_wp2_with (fail)
 refine(Hex.out _ H4.out.1).mono ?_
 rintro e w5 ⟨row,D,rfl,hx,hP,hB⟩
 obtain⟨A9,m9,c9,rfl⟩:=ex_row6 hx
 have hB35:=H4.out.2.trans' hB
 have hk55:=on2_blk H3.out.2.2.1 hB35 (by have:=Hz.out;have:=H3.out.2.2.2.2;omega)
 have hk45:=on2_blk Hk4.out (H3.out.2.1.trans' hB35) (by have:=Hz.out;omega)
 obtain⟨x0,x1,x2,x3,x4,x5,x6,x7,xl⟩:=cells8 hk55
 have f5:=hk55.frozen
 go_upto_region 4 with (fail)
 have hz5:w1.heap.size≤w4.heap.size∧w4.heap.size≤w5.heap.size∧w2.heap.size<w4.heap.size:=by have:=H3.out.2.1.size;have:=H4.out.2.size;have:=hB.size;have:=H3.out.2.2.2.1;omega
 have hl6:=one_expr (w1:=w1) (v:=.slice (some ⟨w5.heap.size,0,none⟩) 1 1) hx hz5.1 hz5.2.1 hz5.2.2 rfl
 have hz:=Hz.out
 have hz2:=H3.out.2.2.2.2
 have hb6:=(But.refl (fun k=>k=w2.heap.size) w5).setCell (p:=⟨w2.heap.size,5,none⟩) (.inl rfl) (.slice (some ⟨w5.heap.size,0,none⟩) 1 1)
 have hP6:=hP.elsewhere hb6 (by omega)
 have hk56:IsBlk (w5.setCell ⟨w2.heap.size,5,none⟩ (.slice (some ⟨w5.heap.size,0,none⟩) 1 1)) w2.heap.size 73 #[.int .i64 op,.string na,.string ⟨#[]⟩,.int .i64 0,.slice none 0 0,.slice (some ⟨w5.heap.size,0,none⟩) 1 1,.slice none 0 0,.slice none 0 0]:=hk55.stored 5 (.slice (some ⟨w5.heap.size,0,none⟩) 1 1)
 have hk46:=hk45.as_was (hb6.block _ hk45.lt (by omega))
 have hB6:=((But.of_below Hb1.out).trans' (H3.out.2.1.trans' hB35)).trans hb6 (fun i hi=>.inr (by omega))
 have hal:=fun (W2:World)=>(Below.refl W2.heap.size W2).alloc (Nat.le_refl _) (.cells #[.int .i64 bx.op,.int .i64 bx.n,.string bx.s,.string bx.name,.string bx.src,.slice A9 m9 c9] 60)
 have hP7:=hP6.below (hal _)
 have hk57:=hk56.as_was ((hal _).block _ hk56.lt)
 have hk47:=hk46.as_was ((hal _).block _ hk46.lt)
 have hB7:=hB6.trans' (But.of_below (hal _))
 obtain⟨w6,Hw6⟩:∃ w6,Hid (w6=(w5.setCell ⟨w2.heap.size,5,none⟩ (.slice (some ⟨w5.heap.size,0,none⟩) 1 1)).alloc (.cells #[.int .i64 bx.op,.int .i64 bx.n,.string bx.s,.string bx.name,.string bx.src,.slice A9 m9 c9] 60)):=⟨_,rfl⟩
 rw[← Hw6.out] at hl6 hP7 hk57 hk47 hB7 ⊢
 have hst:=st_of (n:=0) Hop.out.1 Hop.out.2 okI_0 Hok.out okS_0 (LsAt.nil_ (Fr w1) w6 1 SRow) hl6 (sts_nil (Fr w1) D w6) (sts_nil (Fr w1) D w6)
 have H:=Lhd (gives8_of (x:=.mk op na nil0 0 [] [bx] [] []) (w3:=w1) hst hP7 hB7 hk47 (Nat.le_refl _) (by have:=Hsz.out;omega) Hz.out)
 clear x0 x1 x2 x3 x4 x5 x6 x7 xl f5
 obtain⟨x0,x1,x2,x3,x4,x5,x6,x7,xl⟩:=cells8 hk57
 obtain⟨y0,y1,y2,y3,y4,y5,y6,y7,yl⟩:=cells8 hk47
 have f4:=hk47.frozen
 clear hx hP hB hB35 hk55 hk45 hz5 hl6 hz hz2 hb6 hP6 hk56 hk46 hB6 hal hP7 hk57 hk47 hB7 hst
 go_wp2
 rw[lay8_eq]
 refine bodyPost_ret (ret_st Tryz.results219 rfl H.out.1 rfl) rfl ?_
 rw[Hfin.out]
 exact H.out.2
theorem intoP_eq (W:Wds) (op:Int) (s:PSt):intoP W op s=(.mk op nil0 (nameP W s).1 0 [] (exprsP W (enterP (mustP W [str [40]] (nameP W s).2))).1 [] [],leaveP (mustP W [str [41]] (exprsP W (enterP (mustP W [str [40]] (nameP W s).2))).2)):=rfl
theorem pInto_any (gp gc gw:Nat) (W:Wds) (op:Int) (s:PSt) (w:World) (h:PAt gp gc gw W s w) (h0:0≤op) (h1:op≤100) :
  Calls Tryz.prog 220 #[.pointer (some ⟨gp,0,none⟩),.int .i64 op] w (GivesS gp gc gw W (intoP W op s).2 (intoP W op s).1 w):=by
 have hz:=And.intro h.lt.1 (And.intro h.lt.2 h.wl)
 obtain⟨w1,Hw1⟩:∃ w1,Hid (w1=w.alloc (.cells zero8 73)):=⟨_,rfl⟩
 have hb1:Below w.heap.size w w1:=by rw[Hw1.out];exact(Below.refl _ _).alloc (Nat.le_refl _) _
 have hk4:IsBlk w1 w.heap.size 73 zero8:=by rw[Hw1.out];exact IsBlk.laid _ _ _
 have hsz:w1.heap.size=w.heap.size+1:=by rw[Hw1.out];simp
 have hn1:=pName_any gp gc gw W s w1 (h.below hb1)
 have hok:=name_ok h s
 have hfin:=intoP_eq W op s
 generalize intoP W op s=fin at *
 generalize nameP W s=a at *
 obtain⟨na,sa⟩:=a
 have hmu:=fun g w2 (hW:PAt gp gc gw W sa w2) (hg:g=w2.heap.size)=>pMust_any gp gc gw g W sa (str [40]) w2 hW hg
 simp only at hfin hok hn1
 generalize mustP W [str [40]] sa=sm at *
 simp only[str] at hmu
 have hen:=fun w2 (hW:PAt gp gc gw W sm w2)=>pEnter_any gp gc gw W sm w2 hW
 have hex:=fun w2 (hW:PAt gp gc gw W (enterP sm) w2)=>pExprs_any gp gc gw W (enterP sm) w2 hW
 generalize exprsP W (enterP sm)=b at *
 obtain⟨xs,sb⟩:=b
 have hmu2:=fun g w2 (hW:PAt gp gc gw W sb w2) (hg:g=w2.heap.size)=>pMust_any gp gc gw g W sb (str [41]) w2 hW hg
 simp only at hfin hex
 generalize mustP W [str [41]] sb=sn at *
 simp only[str] at hmu2
 have hlv:=fun w2 (hW:PAt gp gc gw W sn w2)=>pLeave_any gp gc gw W sn w2 hW
 have Hfin:=Lhd hfin
 have Hn1:=Lhd hn1
 have Hok:=Lhd hok
 have Hmu:=Lhd hmu
 have Hen:=Lhd hen
 have Hex:=Lhd hex
 have Hmu2:=Lhd hmu2
 have Hlv:=Lhd hlv
 have Hsz:=Lhd hsz
 have Hb1:=Lhd hb1
 have Hk4:=Lhd hk4
 have Hz:=Lhd hz
 have Hop:=Lhd (And.intro h0 h1)
 clear hfin hn1 hok hmu hen hex hmu2 hlv hsz hb1 hk4 hz h0 h1 h
 go_enter Tryz.func220,Tryz.ntmps220
 go_upto_region 1 with (fail)
 rw[← Hw1.out]
 go_wp2_with (fail)
 refine Hn1.out.mono ?_
 rintro e w2 ⟨rfl,hP,hB⟩
 have hal:=(Below.refl w2.heap.size w2).alloc (Nat.le_refl _) (.cells #[.int .i64 op,.string ⟨#[]⟩,.string na,.int .i64 0,.slice none 0 0,.slice none 0 0,.slice none 0 0,.slice none 0 0] 73)
 have hk5:IsBlk (w2.alloc (.cells #[.int .i64 op,.string ⟨#[]⟩,.string na,.int .i64 0,.slice none 0 0,.slice none 0 0,.slice none 0 0,.slice none 0 0] 73)) w2.heap.size 73 #[.int .i64 op,.string ⟨#[]⟩,.string na,.int .i64 0,.slice none 0 0,.slice none 0 0,.slice none 0 0,.slice none 0 0]:=IsBlk.laid _ _ _
 obtain⟨w3,Hw3⟩:∃ w3,Hid (w3=w2.alloc (.cells #[.int .i64 op,.string ⟨#[]⟩,.string na,.int .i64 0,.slice none 0 0,.slice none 0 0,.slice none 0 0,.slice none 0 0] 73)):=⟨_,rfl⟩
 have hz3:w2.heap.size+1=w3.heap.size:=by rw[Hw3.out];simp
 have hz2:w.heap.size<w2.heap.size:=by have:=hB.size;have:=Hsz.out;omega
 have H3:=Lhd (And.intro (hP.below hal) (And.intro (hB.trans' (But.of_below hal)) (And.intro hk5 (And.intro hz3 hz2))))
 rw[← Hw3.out] at H3
 clear hP hB hal hk5 hz3 hz2
 go_wp2_with (fail)
 rw[← Hw3.out]
 refine(Hmu.out _ _ H3.out.1 H3.out.2.2.2.1).mono ?_
 rintro e w4 ⟨rfl,hP,hB⟩
 have H4:=Lhd (And.intro hP hB)
 clear hP hB
 go_wp2_with (fail)
 refine(Hen.out _ H4.out.1).mono ?_
 rintro e w5 ⟨rfl,hP,hB⟩
 have H5:=Lhd (And.intro hP (H4.out.2.trans' hB))
 clear hP hB
 go_wp2_with (fail)
 refine(Hex.out _ H5.out.1).mono ?_
 rintro e w6 ⟨A,n,c,D,rfl,hx,hP,hB⟩
 have hB36:=H5.out.2.trans' hB
 have hz:=Hz.out
 have hz2:=H3.out.2.2.2.2
 have hk56:=on2_blk H3.out.2.2.1 hB36 (by omega)
 have hk46:=on2_blk Hk4.out (H3.out.2.1.trans' hB36) (by omega)
 obtain⟨x0,x1,x2,x3,x4,x5,x6,x7,xl⟩:=cells8 hk56
 have f5:=hk56.frozen
 have hb7:=(But.refl (fun k=>k=w2.heap.size) w6).setCell (p:=⟨w2.heap.size,5,none⟩) (.inl rfl) (.slice A n c)
 have hP7:=hP.elsewhere hb7 (by omega)
 have hk57:IsBlk (w6.setCell ⟨w2.heap.size,5,none⟩ (.slice A n c)) w2.heap.size 73 #[.int .i64 op,.string ⟨#[]⟩,.string na,.int .i64 0,.slice none 0 0,.slice A n c,.slice none 0 0,.slice none 0 0]:=hk56.stored 5 (.slice A n c)
 have hk47:=hk46.as_was (hb7.block _ hk46.lt (by omega))
 have hB7:=((But.of_below Hb1.out).trans' (H3.out.2.1.trans' hB36)).trans hb7 (fun i hi=>.inr (by omega))
 have hs5:w3.heap.size≤w5.heap.size:=H5.out.2.size
 have hs3:=H3.out.2.2.2.1
 have hx7:=ExsAt.kept hx (Kept.of_but hb7 fun k (hk:w5.heap.size≤k) e=>by omega)
 have hsw:(w6.setCell ⟨w2.heap.size,5,none⟩ (.slice A n c)).heap.size=w6.heap.size:=by simp[World.setCell]
 obtain⟨w7,Hw7⟩:∃ w7,Hid (w7=w6.setCell ⟨w2.heap.size,5,none⟩ (.slice A n c)):=⟨_,rfl⟩
 rw[← Hw7.out] at hP7 hk57 hk47 hB7 hx7 hsw
 have hs1:=Hsz.out
 have H7:=Lhd (And.intro hP7 (And.intro hB7 (And.intro hk47 (And.intro hk57 (And.intro hx7 (And.intro hsw.symm (show w1.heap.size≤w5.heap.size by omega)))))))
 clear hx hP hB hB36 hz hz2 hk56 hk46 hb7 hP7 hk57 hk47 hB7 hs5 hs3 hx7 hsw hs1
 go_wp2_with (fail)
 rw[← Hw7.out]
 refine(Hmu2.out _ _ H7.out.1 H7.out.2.2.2.2.2.1).mono ?_
 rintro e w8 ⟨rfl,hP,hB⟩
 have H8:=Lhd (And.intro hP hB)
 clear hP hB x0 x1 x2 x3 x4 x5 x6 x7 xl f5
 go_wp2_with (fail)
 refine(Hlv.out _ H8.out.1).mono ?_
 rintro e w9 ⟨rfl,hP,hB⟩
 have hB79:=H8.out.2.trans' hB
 have hz:=Hz.out
 have hz2:=H3.out.2.2.2.2
 have hz5:=H7.out.2.2.2.2.2.2
 have hs1:=Hsz.out
 have hk59:=on2_blk H7.out.2.2.2.1 hB79 (by omega)
 have hk49:=on2_blk H7.out.2.2.1 hB79 (by omega)
 obtain⟨x0,x1,x2,x3,x4,x5,x6,x7,xl⟩:=cells8 hk59
 obtain⟨y0,y1,y2,y3,y4,y5,y6,y7,yl⟩:=cells8 hk49
 have f4:=hk49.frozen
 have hl9:=ExsAt.conv (F':=Fr w1) (fun k (hk:w5.heap.size≤k)=>by show w1.heap.size≤k;omega) (fr_on2 hB79 (fun k (hk:w5.heap.size≤k)=>by omega)) (Nat.le_refl D) H7.out.2.2.2.2.1
 have hst:=st_of (n:=0) Hop.out.1 Hop.out.2 okI_0 okS_0 Hok.out (LsAt.nil_ (Fr w1) w9 1 SRow) hl9 (sts_nil (Fr w1) D w9) (sts_nil (Fr w1) D w9)
 have H:=Lhd (gives8_of (x:=.mk op nil0 na 0 [] xs [] []) (w3:=w1) hst hP (H7.out.2.1.trans' hB79) hk49 (Nat.le_refl _) (by omega) Hz.out)
 clear hP hB hB79 hz hz2 hz5 hs1 hk59 hk49 hl9 hst
 go_wp2
 rw[lay8_eq]
 refine bodyPost_ret (ret_st Tryz.results220 rfl H.out.1 rfl) rfl ?_
 rw[Hfin.out]
 exact H.out.2
theorem limitP_eq (W:Wds) (s:PSt):limitP W s=(min (numP W (if (W.look s.at_).kind=1∧(W.look s.at_).n=0 then s.fail else s)).1 1001,(numP W (if (W.look s.at_).kind=1∧(W.look s.at_).n=0 then s.fail else s)).2):=rfl
theorem pLimit_any (gp gc gw:Nat) (W:Wds) (s:PSt) (w:World) (h:PAt gp gc gw W s w) :
  Calls Tryz.prog 196 #[.pointer (some ⟨gp,0,none⟩)] w fun e w'=>e=.returned (.int .i64 (limitP W s).1)∧PAt gp gc gw W (limitP W s).2 w'∧But (On2 gp gc) w w':=by
 obtain⟨c0,c1,c2,c3,hg⟩:=cells4 h.blk
 have hwd:=word_any _ gc s.at_ W w h.cu
 have hfin:=limitP_eq W s
 generalize limitP W s=fin at *
 generalize hx:W.look s.at_=x at *
 obtain⟨xk,xs,xn,xa⟩:=x
 unfold wrow at hwd
 simp only at hfin
 have Hwd:=Lhd hwd
 have Hf:=Lhd (fun s' w2 (hW:PAt gp gc gw W s' w2)=>pFail_any gp gc gw W s' w2 hW)
 have Hnum:=Lhd (fun s' w2 (hW:PAt gp gc gw W s' w2)=>pNumber_any gp gc gw W s' w2 hW)
 have Hh:=Lhd h
 have Hfin:=Lhd hfin
 clear hwd hfin hx h
 rcases Classical.em (xk=1∧xn=0) with hc|hc
 ·obtain⟨rfl,rfl⟩:=hc
  have hf:=Hfin.out
  rw[if_pos ⟨rfl,rfl⟩] at hf
  have HF:=Lhd hf
  clear hf Hfin
  go_enter Tryz.func196,Tryz.ntmps196
  go_wp2_with (fail)
  refine Hwd.out.mono ?_
  rintro e w2 ⟨rfl,hb2⟩
  have hb3:=hb2.alloc hb2.size (.cells #[.int .i64 1,.string xs,.int .i64 0,.int .i64 xa] 150)
  have H3:=Lhd (And.intro (Hh.out.below hb3) (But.of_below (S:=On2 gp gc) hb3))
  clear hb2 hb3
  go_wp2_with (fail)
  refine(Hf.out _ _ H3.out.1).mono ?_
  rintro e w4 ⟨rfl,hP,hB⟩
  have H4:=Lhd (And.intro hP (H3.out.2.trans' hB))
  clear hP hB
  have hn:=Hnum.out _ _ H4.out.1
  generalize numP W s.fail=r at *
  obtain⟨rn,rs⟩:=r
  simp only at hn HF
  have Hn:=Lhd hn
  clear hn
  go_wp2_with (fail)
  refine Hn.out.mono ?_
  rintro e w5 ⟨rfl,hP,hB⟩
  have H5:=Lhd (And.intro hP (H4.out.2.trans' hB))
  clear hP hB
  go_wp2
  all_goals
   go_ret
   rw[HF.out]
   refine⟨ret_int ?_,H5.out.1,H5.out.2⟩
   simp only
   omega
 ·rcases Classical.em (xk=1) with h1|h1
  ·have q1:(xk==1)=true:=by simpa using h1
   have q2:(xn==0)=false:=by
    rcases Classical.em (xn=0) with h2|h2
    ·exact absurd ⟨h1,h2⟩ hc
    ·simpa using h2
   clear h1
   have hf:=Hfin.out
   rw[if_neg hc] at hf
   have HF:=Lhd hf
   clear hf Hfin hc
   have hn:=fun w2 (hW:PAt gp gc gw W s w2)=>Hnum.out s w2 hW
   generalize numP W s=r at *
   obtain⟨rn,rs⟩:=r
   simp only at hn HF
   have Hn:=Lhd hn
   clear hn
   go_enter Tryz.func196,Tryz.ntmps196
   go_wp2_with (fail)
   refine Hwd.out.mono ?_
   rintro e w2 ⟨rfl,hb2⟩
   have hb3:=hb2.alloc hb2.size (.cells #[.int .i64 xk,.string xs,.int .i64 xn,.int .i64 xa] 150)
   have H3:=Lhd (And.intro (Hh.out.below hb3) (But.of_below (S:=On2 gp gc) hb3))
   clear hb2 hb3
   go_wp2_with (fail)
   refine(Hn.out _ H3.out.1).mono ?_
   rintro e w5 ⟨rfl,hP,hB⟩
   have H5:=Lhd (And.intro hP (H3.out.2.trans' hB))
   clear hP hB
   go_wp2
   all_goals
    go_ret
    rw[HF.out]
    refine⟨ret_int ?_,H5.out.1,H5.out.2⟩
    simp only
    omega
  ·have q1:(xk==1)=false:=by simpa using h1
   clear h1
   have hf:=Hfin.out
   rw[if_neg hc] at hf
   have HF:=Lhd hf
   clear hf Hfin hc
   have hn:=fun w2 (hW:PAt gp gc gw W s w2)=>Hnum.out s w2 hW
   generalize numP W s=r at *
   obtain⟨rn,rs⟩:=r
   simp only at hn HF
   have Hn:=Lhd hn
   clear hn
   go_enter Tryz.func196,Tryz.ntmps196
   go_wp2_with (fail)
   refine Hwd.out.mono ?_
   rintro e w2 ⟨rfl,hb2⟩
   have hb3:=hb2.alloc hb2.size (.cells #[.int .i64 xk,.string xs,.int .i64 xn,.int .i64 xa] 150)
   have H3:=Lhd (And.intro (Hh.out.below hb3) (But.of_below (S:=On2 gp gc) hb3))
   clear hb2 hb3
   go_wp2_with (fail)
   refine(Hn.out _ H3.out.1).mono ?_
   rintro e w5 ⟨rfl,hP,hB⟩
   have H5:=Lhd (And.intro hP (H3.out.2.trans' hB))
   clear hP hB
   go_wp2
   all_goals
    go_ret
    rw[HF.out]
    refine⟨ret_int ?_,H5.out.1,H5.out.2⟩
    simp only
    omega
end Go.Proofs.YtgbgiknfejpcoaaGreat

/- Parts of this proof, one behind the other: ParN3, ParW. -/
import Derived.Test.YtgbgiknfejpcoaaGreatPx21
set_option maxRecDepth 1000000
set_option maxHeartbeats 40000000
namespace Go.Proofs.YtgbgiknfejpcoaaGreat
open Go.RowKit Go.Afx
theorem up_set (W:Wds) (s:PSt):Ge s (setP W s).2:=(up_name W s).trans ((ge_must W _ _).trans (up_expr1 W _))
theorem pList_sets (gp gc gw gl gb n0:Nat) (W:Wds) (s:PSt) (w:World) (nm sc:ByteArray) (A0:Option Addr) (c0 D0:Nat) (rows0:List (List Value)) (a0:Ex) (h:PAt gp gc gw W s w) (hl:SetOwn n0 gl w nm sc none 0 A0 c0 rows0 D0 [] [a0]) (hb:IsBlk w gb 98 #[.pointer (some ⟨gp,0,none⟩)])
  (hg:gp<n0∧gc<n0∧gw<n0∧gl≠gp∧gl≠gc) (hg2:gl≠gw∧gl<n0∧gb<n0∧gb≠gp∧gb≠gc∧gb≠gl) (hn:n0≤w.heap.size) :
  Calls Tryz.prog 124 #[.pointer (some ⟨gp,0,none⟩),.func (.func 232) #[] #[.pointer (some ⟨gl,0,none⟩),.pointer (some ⟨gb,0,none⟩)]] w fun e w'=>e=.returned (.tuple #[])∧PAt gp gc gw W (list1 W (setP W) s).2 w'∧(∃ Ac' cc' A' c' rows' D',SetOwn n0 gl w' nm sc Ac' cc' A' c' rows' D' ((list1 W (setP W) s).1.map (·.1)) (a0::(list1 W (setP W) s).1.map (·.2)))∧But (On3 gp gc gl n0) w w':=by
 have hmax:=h.cu.max
 have Hst:=Lhd (fun s' w2 Ac cc A c D rows ns xs (hW:PAt gp gc gw W s' w2) (hL:SetOwn n0 gl w2 nm sc Ac cc A c rows D ns xs) (hB:But (On3 gp gc gl n0) w w2) (hln:xs.length≤1000000000002∧ns.length≤1000000000002) =>
  pSetStep gp gc gw gl gb n0 W s' w2 nm sc Ac cc A c D rows ns xs hW hL (hb.as_was (hB.block _ hb.lt (by rintro(e|e|e|e)<;>omega))) hg hg2 (Nat.le_trans hn hB.size) hln)
 have Hmay:=Lhd (fun s' w2 (hW:PAt gp gc gw W s' w2)=>pMay_any gp gc gw W s' (str [44]) w2 hW)
 have hfin:list1 W (setP W) s=listP W (setP W) (W.l.length+1) [(setP W s).1] (setP W s).2:=rfl
 generalize list1 W (setP W) s=fin at *
 have Hfin:=Lhd hfin
 have H0:=Lhd (And.intro h hl)
 have Hg:=Lhd (And.intro hg hg2)
 have Hmax:=Lhd hmax
 clear h hl hb hg hg2 hn hfin hmax
 go_enter Tryz.func124,Tryz.ntmps124
 go_wp2_with (fail)
 refine(Hst.out s w none 0 A0 c0 D0 rows0 [] [a0] H0.out.1 H0.out.2 (But.refl _ _) (by simp)).mono ?_
 rintro e w2 ⟨rfl,hP,hL,hB⟩
 have H2:=Lhd (And.intro hP (And.intro hL hB))
 clear hP hL hB
 go_wp2
 go_loopw [] (fun wr=>∃ (s':PSt) (xs:List (ByteArray×Ex)) (k:Nat),PAt gp gc gw W s' wr∧(∃ Ac' cc' A' c' rows' D',SetOwn n0 gl wr nm sc Ac' cc' A' c' rows' D' (xs.map (·.1)) (a0::xs.map (·.2)))∧But (On3 gp gc gl n0) w wr∧Hid (fin=listP W (setP W) k xs s')∧Hid (Fit W k s'∧1≤k∧xs.length≤s'.at_+1)) (fun wr=>W.l.length-atOf wr gc)
 case atStart=>exact⟨_,[(setP W s).1],_,H2.out.1,H2.out.2.1,H2.out.2.2,Hfin,Lhd ⟨.inr (by omega),by omega,by simp⟩⟩
 case round =>
  obtain⟨s',xs,k,hP,hL,hB,HF,HS⟩:=hrel
  obtain⟨hfit,hk1,hxl⟩:=HS.out
  obtain⟨k,rfl⟩:∃ k',k=k'+1:=⟨k-1,by omega⟩
  have hle:=hP.le
  have hat0:=atOf_eq hP
  have Hat0:=Lhd hat0
  have hm:=Hmay.out s' wr hP
  have hgo:=HF.out
  rw[listP_go] at hgo
  have H:=Lhd (And.intro hP (And.intro hL hB))
  have Hle:=Lhd (And.intro hfit (And.intro hxl hle))
  rcases may_cases W (str [44]) s' with hc|⟨hc,hbad,hat⟩
  ·rw[hc] at hm hgo
   simp only[Bool.false_eq_true,if_false] at hgo
   subst hgo
   simp only[str] at hm
   have Hm:=Lhd hm
   clear hm hc hP hL hB hfit hk1 hxl hle hat0
   go_wp2_with (fail)
   refine Hm.out.mono ?_
   rintro e3 w3 ⟨rfl,hP,hB⟩
   have hB3:=H.out.2.2.trans' (on3_on2 (gl:=gl) (n0:=n0) hB)
   obtain⟨Ac,cc,A,c,rows,D,hL⟩:=H.out.2.1
   have hL3:=hL.on2 hB ⟨Hg.out.1.1,Hg.out.1.2.1,Hg.out.1.2.2.2⟩
   have H3:=Lhd (And.intro hP (And.intro (⟨Ac,cc,A,c,rows,D,hL3⟩:∃ Ac' cc' A' c' rows' D',SetOwn n0 gl w3 nm sc Ac' cc' A' c' rows' D' (xs.map (·.1)) (a0::xs.map (·.2))) hB3))
   clear hP hB hB3 hL hL3
   go_wp2
   refine bodyPost_end (results_none rfl _ _ _) rfl ?_
   exact⟨rfl,H3.out.1,H3.out.2.1,H3.out.2.2⟩
  ·rw[hc] at hm hgo
   simp only[if_true] at hgo
   simp only[str] at hm
   have Hm:=Lhd hm
   have Hgo:=Lhd hgo
   have Hlt:=Lhd (And.intro hbad hat)
   clear hm hc hP hL hB hfit hk1 hxl hle hat0 hgo hbad hat
   go_wp2_with (fail)
   refine Hm.out.mono ?_
   rintro e3 w3 ⟨rfl,hP,hB⟩
   have hB3:=H.out.2.2.trans' (on3_on2 (gl:=gl) (n0:=n0) hB)
   obtain⟨Ac,cc,A,c,rows,D,hL⟩:=H.out.2.1
   have hL3:=hL.on2 hB ⟨Hg.out.1.1,Hg.out.1.2.1,Hg.out.1.2.2.2⟩
   have Hs:=Lhd (Hst.out s'.on w3 Ac cc A c D rows _ _ hP hL3 hB3 (by have:=Hle.out;have:=Hmax.out;simp;omega))
   have HB3:=Lhd hB3
   clear hP hB hB3 hL hL3
   go_wp2_with (fail)
   refine Hs.out.mono ?_
   rintro e4 w4 ⟨rfl,hP,hL,hB⟩
   have hup:=up_set W s'.on
   obtain⟨Ac',cc',A',c',rows',D',hL⟩:=hL
   have hL:∃ Ac' cc' A' c' rows' D',SetOwn n0 gl w4 nm sc Ac' cc' A' c' rows' D' ((xs++[(setP W s'.on).1]).map (·.1)) (a0::(xs++[(setP W s'.on).1]).map (·.2)):=⟨Ac',cc',A',c',rows',D',by simpa using hL⟩
   have hm4:W.l.length-atOf w4 gc<W.l.length-atOf wr gc:=by
    rw[atOf_eq hP,Hat0.out]
    have h1:=hup.1
    have h2:s'.on.at_=s'.at_+1:=rfl
    have:=Hlt.out.2
    omega
   have hfit4:Fit W k (setP W s'.on).2∧1≤k∧(xs++[(setP W s'.on).1]).length≤(setP W s'.on).2.at_+1:=by
    have h1:=hup.1
    have h2:s'.on.at_=s'.at_+1:=rfl
    have h3:=Hle.out
    have h4:W.l.length<s'.at_+(k+1):=h3.1.elim (fun e=>by rw[Hlt.out.1] at e;cases e) id
    have h5:=Hlt.out.2
    refine⟨(Fit.on h3.1).ge hup,by omega,?_⟩
    simp
    omega
   have H4:=Lhd (And.intro hP (And.intro hL (HB3.out.trans' hB)))
   have Hm4:=Lhd hm4
   have Hf4:=Lhd hfit4
   clear hP hL hB hup hm4 hfit4
   go_wp2
   go_roundw
   case rel=>exact⟨_,_,k,H4.out.1,H4.out.2.1,H4.out.2.2,Hgo,Hf4⟩
   case measure=>exact Hm4.out
theorem SetOwn.st {n0 gl:Nat} {w:World} {nm sc:ByteArray} {Ac:Option Addr} {cc:Nat} {A:Option Addr} {c:Nat} {rows:List (List Value)} {D:Nat} {ns:List ByteArray} {xs:List Ex} (h:SetOwn n0 gl w nm sc Ac cc A c rows D ns xs) (hm:okS nm) (hs:okS sc) :
  StAt (fun b=>n0≤b) (D+1) w [.int .i64 4,.string nm,.string sc,.int .i64 0,.slice Ac ns.length cc,.slice A xs.length c,.slice none 0 0,.slice none 0 0] (.mk 4 nm sc 0 ns xs [] []):=by
 have hw:∀ r∈ns.map txrow,r.length=1:=by
  intro r hr
  obtain⟨x,_,rfl⟩:=List.mem_map.1 hr
  rfl
 refine st_of (n:=0) (by decide) (by decide) okI_0 hm hs ⟨ns.map txrow,RowsAt.of_own h.ownc hw (by simp),fun a ha _=>(h.lowc _ (by rw[ha];rfl)).1,by simp,fun k r x hr hx=>?_⟩ ⟨rows,RowsAt.of_own h.row.own h.row.wid h.row.len,fun a ha _=>(h.row.low _ (by rw[ha];rfl)).1,h.row.len,fun k r x hr hx=>⟨(h.row.at_ k r x hr hx).1,ExAt.conv (fun _ h=>h.1) (Kept.refl _ _) D (Nat.le_refl _) (h.row.at_ k r x hr hx).2⟩⟩ (sts_nil _ _ _) (sts_nil _ _ _)
 rw[List.getElem?_map,hx] at hr
 simp only[Option.map_some,Option.some.injEq] at hr
 subst hr
 exact⟨rfl,rfl,h.okc x (List.mem_of_getElem? hx)⟩
theorem SetOwn.out {n0 gl:Nat} {w:World} {nm sc:ByteArray} {Ac:Option Addr} {cc:Nat} {A:Option Addr} {c:Nat} {rows:List (List Value)} {D:Nat} {ns:List ByteArray} {xs:List Ex} (h:SetOwn n0 gl w nm sc Ac cc A c rows D ns xs) (hm:okS nm) (hs:okS sc) :
  ∃ nc ne,IsBlk w gl 73 #[.int .i64 4,.string nm,.string sc,.int .i64 0,.slice Ac nc cc,.slice A ne c,.slice none 0 0,.slice none 0 0]∧StAt (fun b=>n0≤b) (D+1) w [.int .i64 4,.string nm,.string sc,.int .i64 0,.slice Ac nc cc,.slice A ne c,.slice none 0 0,.slice none 0 0] (.mk 4 nm sc 0 ns xs [] []):=⟨_,_,h.blk,h.st hm hs⟩
theorem changeP_eq (W:Wds) (s:PSt):changeP W s=(.mk 4 (rowsP W s).1.1 (rowsP W s).1.2 0 ((list1 W (setP W) (mustP W [str [115,101,116]] (whereP W (expr1 W) (rowsP W s).2).2)).1.map (·.1)) ((whereP W (expr1 W) (rowsP W s).2).1::(list1 W (setP W) (mustP W [str [115,101,116]] (whereP W (expr1 W) (rowsP W s).2).2)).1.map (·.2)) [] [],(list1 W (setP W) (mustP W [str [115,101,116]] (whereP W (expr1 W) (rowsP W s).2).2)).2):=rfl
theorem pNamesOk {gp gc gw:Nat} {W:Wds} {s:PSt} {w:World} (h:PAt gp gc gw W s w) (s':PSt):okS (rowsP W s').1.1∧okS (rowsP W s').1.2:=⟨name_ok h _,name_ok h _⟩
theorem SetOwn.first {w8:World} {gl n0 D:Nat} {nm sc:ByteArray} {ax:Ex} {A2:Option Addr} {m2 c2:Nat} {w7:World} (hx:ExAt (Fr w7) D w8 [.int .i64 ax.op,.int .i64 ax.n,.string ax.s,.string ax.name,.string ax.src,.slice A2 m2 c2] ax) (h7:n0≤w7.heap.size) (h78:w7.heap.size≤w8.heap.size) (hgl:gl<n0)
  (hk:IsBlk w8 gl 73 #[.int .i64 4,.string nm,.string sc,.int .i64 0,.slice none 0 0,.slice none 0 0,.slice none 0 0,.slice none 0 0]) :
  SetOwn n0 gl ((w8.setCell ⟨gl,5,none⟩ (.slice (some ⟨w8.heap.size,0,none⟩) 1 1)).alloc (.cells #[.int .i64 ax.op,.int .i64 ax.n,.string ax.s,.string ax.name,.string ax.src,.slice A2 m2 c2] 60)) nm sc none 0 (some ⟨w8.heap.size,0,none⟩) 1 [[.int .i64 ax.op,.int .i64 ax.n,.string ax.s,.string ax.name,.string ax.src,.slice A2 m2 c2]] D [] [ax]:=by
 have hb8:=(But.refl (fun k=>k=gl) w8).setCell (p:=⟨gl,5,none⟩) (.inl rfl) (.slice (some ⟨w8.heap.size,0,none⟩) 1 1)
 have hk5:IsBlk _ gl 73 #[.int .i64 4,.string nm,.string sc,.int .i64 0,.slice none 0 0,.slice (some ⟨w8.heap.size,0,none⟩) 1 1,.slice none 0 0,.slice none 0 0]:=hk.stored 5 (.slice (some ⟨w8.heap.size,0,none⟩) 1 1)
 have hsz:(w8.setCell ⟨gl,5,none⟩ (.slice (some ⟨w8.heap.size,0,none⟩) 1 1)).heap.size=w8.heap.size:=by simp[World.setCell]
 have hx8:=hx.kept (Kept.of_but hb8 fun k (hk:w7.heap.size≤k) e=>by omega)
 generalize w8.setCell ⟨gl,5,none⟩ (.slice (some ⟨w8.heap.size,0,none⟩) 1 1)=w9 at *
 have hal:=(Below.refl w9.heap.size w9).alloc (Nat.le_refl _) (.cells #[.int .i64 ax.op,.int .i64 ax.n,.string ax.s,.string ax.name,.string ax.src,.slice A2 m2 c2] 60)
 have hown:(w9.alloc (.cells #[.int .i64 ax.op,.int .i64 ax.n,.string ax.s,.string ax.name,.string ax.src,.slice A2 m2 c2] 60)).ownsRow n0 60 6 (.slice (some ⟨w9.heap.size,0,none⟩) 1 1) 1 [[.int .i64 ax.op,.int .i64 ax.n,.string ax.s,.string ax.name,.string ax.src,.slice A2 m2 c2]].flatten:=World.ownsRow_lit (base:=n0) (e:=60) (size:=6) w9 #[.int .i64 ax.op,.int .i64 ax.n,.string ax.s,.string ax.name,.string ax.src,.slice A2 m2 c2] 1 (by omega) (by unfold maxLen;omega) rfl
 rw[hsz] at hown
 refine⟨hk5.alloc _,World.ownsRow_nil _ _ _ _,by simp,⟨hown,rfl,fun k r x hr hy=>?_,fun b hb=>by cases hb⟩⟩
 rcases k with _|k
 ·simp at hr hy
  subst hr hy
  refine⟨rfl,ExAt.turn (fun k hk (hf:w7.heap.size≤k)=>⟨by omega,fun e=>?_,fun e=>by cases e⟩) (Kept.of_below hal) D (Nat.le_refl _) hx8⟩
  have:w8.heap.size=k:=by simpa using e
  omega
 ·simp at hr
theorem pChange_any (gp gc gw:Nat) (W:Wds) (s:PSt) (w:World) (h:PAt gp gc gw W s w) :
  Calls Tryz.prog 221 #[.pointer (some ⟨gp,0,none⟩)] w (GivesS gp gc gw W (changeP W s).2 (changeP W s).1 w):=by
 have hz:=And.intro h.lt.1 (And.intro h.lt.2 h.wl)
 obtain⟨w1,Hw1⟩:∃ w1,Hid (w1=((w.alloc (.cells #[.pointer (some ⟨gp,0,none⟩)] 98)).alloc (.cells zero8 73)).alloc (.cells #[.int .i64 4,.string ⟨#[]⟩,.string ⟨#[]⟩,.int .i64 0,.slice none 0 0,.slice none 0 0,.slice none 0 0,.slice none 0 0] 73)):=⟨_,rfl⟩
 have hb1:Below w.heap.size w w1:=by rw[Hw1.out];exact(((Below.refl _ _).alloc (Nat.le_refl _) _).alloc (by simp) _).alloc (by simp;omega) _
 have hkb:IsBlk w1 w.heap.size 98 #[.pointer (some ⟨gp,0,none⟩)]:=by rw[Hw1.out];exact((IsBlk.laid _ _ _).alloc _).alloc _
 have hk4:IsBlk w1 (w.heap.size+1) 73 zero8:=by rw[Hw1.out];exact(blk_new (by simp)).alloc _
 have hk5:IsBlk w1 (w.heap.size+2) 73 #[.int .i64 4,.string ⟨#[]⟩,.string ⟨#[]⟩,.int .i64 0,.slice none 0 0,.slice none 0 0,.slice none 0 0,.slice none 0 0]:=by rw[Hw1.out];exact blk_new (by simp)
 have hsz:w1.heap.size=w.heap.size+3:=by rw[Hw1.out];simp
 have hr1:=pRows_any gp gc gw W s w1 (h.below hb1)
 have hok:=pNamesOk h s
 have hfin:=changeP_eq W s
 generalize changeP W s=fin at *
 generalize rowsP W s=r at *
 obtain⟨⟨nm,sc⟩,sr⟩:=r
 simp only at hfin hok hr1
 have hwh:=fun w2 (hW:PAt gp gc gw W sr w2)=>pWhere1_any gp gc gw W sr w2 hW
 generalize whereP W (expr1 W) sr=b at *
 obtain⟨ax,sa⟩:=b
 simp only at hfin hwh
 have hmu:=fun g w2 (hW:PAt gp gc gw W sa w2) (hg:g=w2.heap.size)=>pMust_any gp gc gw g W sa (str [115,101,116]) w2 hW hg
 generalize mustP W [str [115,101,116]] sa=sm at *
 simp only[str] at hmu
 have hli:=fun gl gb n0 w2 A0 c0 D0 rows0 (hW:PAt gp gc gw W sm w2)=>pList_sets gp gc gw gl gb n0 W sm w2 nm sc A0 c0 D0 rows0 ax hW
 generalize list1 W (setP W) sm=l at *
 obtain⟨l,sl⟩:=l
 simp only at hfin hli
 generalize l.map (fun p:ByteArray×Ex=>p.1)=ns at *
 generalize l.map (fun p:ByteArray×Ex=>p.2)=xs at *
 have Hfin:=Lhd hfin
 have Hr1:=Lhd hr1
 have Hok:=Lhd hok
 have Hwh:=Lhd hwh
 have Hmu:=Lhd hmu
 have Hli:=Lhd hli
 have Hsz:=Lhd hsz
 have Hb1:=Lhd hb1
 have Hk4:=Lhd hk4
 have Hk5:=Lhd hk5
 have Hkb:=Lhd hkb
 have Hz:=Lhd hz
 have d0:w1.cell? ⟨w.heap.size,0,none⟩=some (.pointer (some ⟨gp,0,none⟩)):=by have:=hkb.cell 0;simpa using this
 have dl:=hkb.lt
 clear hfin hr1 hok hwh hmu hli hsz hb1 hk4 hk5 hkb hz h
 go_enter Tryz.func221,Tryz.ntmps221
 go_upto_region 2 with (fail)
 rw[← Hw1.out]
 go_wp2_with (fail)
 refine Hr1.out.mono ?_
 rintro e w6 ⟨rfl,hP,hB⟩
 have hk36:=on2_blk Hk5.out hB (by have:=Hz.out;omega)
 have hkb6:=on2_blk Hkb.out hB (by have:=Hz.out;omega)
 have hk46:=on2_blk Hk4.out hB (by have:=Hz.out;omega)
 clear d0 dl
 have d0:w6.cell? ⟨w.heap.size,0,none⟩=some (.pointer (some ⟨gp,0,none⟩)):=by have:=hkb6.cell 0;simpa using this
 have dl:=hkb6.lt
 obtain⟨x0,x1,x2,x3,x4,x5,x6,x7,xl⟩:=cells8 hk36
 have f36:=hk36.frozen
 have hb7:=lay2_but w6 (w.heap.size+2) 1 2 (.string nm) (.string sc)
 have hk7:IsBlk (lay2 w6 (w.heap.size+2) 1 2 (.string nm) (.string sc)) (w.heap.size+2) 73 #[.int .i64 4,.string nm,.string sc,.int .i64 0,.slice none 0 0,.slice none 0 0,.slice none 0 0,.slice none 0 0]:=(hk36.stored 1 (.string nm)).stored 2 (.string sc)
 have hP7:=hP.elsewhere hb7 (by have:=Hz.out;omega)
 have hkb7:=hkb6.as_was (hb7.block _ hkb6.lt (by omega))
 have hk47:=hk46.as_was (hb7.block _ hk46.lt (by omega))
 have hB7:=((But.of_below Hb1.out).trans' hB).trans hb7 (fun i hi=>.inr (by omega))
 have hs7:(lay2 w6 (w.heap.size+2) 1 2 (.string nm) (.string sc)).heap.size=w6.heap.size:=by simp[lay2,World.setCell]
 have hs6:=hB.size
 obtain⟨w7,Hw7⟩:∃ w7,Hid (w7=lay2 w6 (w.heap.size+2) 1 2 (.string nm) (.string sc)):=⟨_,rfl⟩
 rw[← Hw7.out] at hk7 hP7 hkb7 hk47 hB7 hs7
 have H7:=Lhd (And.intro hP7 (And.intro hB7 (And.intro hkb7 (And.intro hk47 (And.intro hk7 (show w1.heap.size≤w7.heap.size by omega))))))
 clear hP hB hk36 hkb6 hk46 hb7 hk7 hP7 hkb7 hk47 hB7 hs7 hs6
 go_wp2_with (fail)
 rw[lay2_eq,← Hw7.out]
 refine(Hwh.out _ H7.out.1).mono ?_
 clear x0 x1 x2 x3 x4 x5 x6 x7 xl f36 d0 dl
 rintro e w8 ⟨row,D,rfl,hx,hP,hB⟩
 obtain⟨A2,m2,c2,rfl⟩:=ex_row6 hx
 have hk38:=on2_blk H7.out.2.2.2.2.1 hB (by have:=Hz.out;omega)
 have hkb8:=on2_blk H7.out.2.2.1 hB (by have:=Hz.out;omega)
 have hk48:=on2_blk H7.out.2.2.2.1 hB (by have:=Hz.out;omega)
 have d0:w8.cell? ⟨w.heap.size,0,none⟩=some (.pointer (some ⟨gp,0,none⟩)):=by have:=hkb8.cell 0;simpa using this
 have dl:=hkb8.lt
 obtain⟨x0,x1,x2,x3,x4,x5,x6,x7,xl⟩:=cells8 hk38
 have f38:=hk38.frozen
 have hf:=SetOwn.first (n0:=w1.heap.size) hx H7.out.2.2.2.2.2 hB.size (by have:=Hsz.out;omega) hk38
 have hb8:=(But.refl (fun k=>k=w.heap.size+2) w8).setCell (p:=⟨w.heap.size+2,5,none⟩) (.inl rfl) (.slice (some ⟨w8.heap.size,0,none⟩) 1 1)
 have hkb9:=hkb8.as_was (hb8.block _ hkb8.lt (by omega))
 have hk49:=hk48.as_was (hb8.block _ hk48.lt (by omega))
 have hP9:=hP.elsewhere hb8 (by have:=Hz.out;omega)
 have hB9:=(H7.out.2.1.trans' hB).trans hb8 (fun i hi=>.inr (by omega))
 have hal:=fun (W2:World)=>(Below.refl W2.heap.size W2).alloc (Nat.le_refl _) (.cells #[.int .i64 ax.op,.int .i64 ax.n,.string ax.s,.string ax.name,.string ax.src,.slice A2 m2 c2] 60)
 have hkb10:=hkb9.as_was ((hal _).block _ hkb9.lt)
 have hk410:=hk49.as_was ((hal _).block _ hk49.lt)
 have hP10:=hP9.below (hal _)
 have hB10:=hB9.trans' (But.of_below (hal _))
 obtain⟨w10,Hw10⟩:∃ w10,Hid (w10=(w8.setCell ⟨w.heap.size+2,5,none⟩ (.slice (some ⟨w8.heap.size,0,none⟩) 1 1)).alloc (.cells #[.int .i64 ax.op,.int .i64 ax.n,.string ax.s,.string ax.name,.string ax.src,.slice A2 m2 c2] 60)):=⟨_,rfl⟩
 have hs10:w8.heap.size+1=w10.heap.size:=by rw[Hw10.out];simp[World.setCell]
 rw[← Hw10.out] at hf hkb10 hk410 hP10 hB10
 have H10:=Lhd (And.intro hP10 (And.intro hB10 (And.intro hkb10 (And.intro hk410 (And.intro hf (And.intro hs10 (Nat.le_trans H7.out.2.2.2.2.2 hB.size)))))))
 clear hx hP hB hk38 hkb8 hk48 hf hb8 hkb9 hk49 hP9 hB9 hal hkb10 hk410 hP10 hB10 hs10
 go_wp2_with (fail)
 rw[← Hw10.out]
 refine(Hmu.out _ _ H10.out.1 H10.out.2.2.2.2.2.1).mono ?_
 clear x0 x1 x2 x3 x4 x5 x6 x7 xl f38 d0 dl
 rintro e w11 ⟨rfl,hP,hB⟩
 have hkb:=on2_blk H10.out.2.2.1 hB (by have:=Hz.out;omega)
 have hk4:=on2_blk H10.out.2.2.2.1 hB (by have:=Hz.out;omega)
 have hS:=H10.out.2.2.2.2.1.on2 hB (by have:=Hz.out;have:=Hsz.out;omega)
 have d0:w11.cell? ⟨w.heap.size,0,none⟩=some (.pointer (some ⟨gp,0,none⟩)):=by have:=hkb.cell 0;simpa using this
 have dl:=hkb.lt
 have hl:=Hli.out (w.heap.size+2) w.heap.size w1.heap.size w11 _ _ _ _ hP hS hkb (by have:=Hz.out;have:=Hsz.out;omega) (by have:=Hz.out;have:=Hsz.out;omega) (by have:=H10.out.2.2.2.2.2;have:=hB.size;omega)
 have Hl:=Lhd hl
 have H11:=Lhd (And.intro (H10.out.2.1.trans' hB) hk4)
 clear hP hB hkb hk4 hS hl
 go_wp2_with (fail)
 refine Hl.out.mono ?_
 rintro e w12 ⟨rfl,hP,⟨Ac,cc,A,c,rows,D',hS⟩,hB⟩
 have hz:=Hz.out
 have hs:=Hsz.out
 have hk4:=H11.out.2.as_was (hB.block _ H11.out.2.lt (by rintro(e|e|e|e)<;>omega))
 have hBB:=H11.out.1.trans hB (fun i hi=>by rcases hi with e|e|e|e;exact .inl (.inl e);exact .inl (.inr e);exact .inr (by omega);exact .inr (by omega))
 obtain⟨nc,ne,hkS,hst⟩:=hS.out Hok.out.1 Hok.out.2
 obtain⟨x0,x1,x2,x3,x4,x5,x6,x7,xl⟩:=cells8 hkS
 obtain⟨y0,y1,y2,y3,y4,y5,y6,y7,yl⟩:=cells8 hk4
 have f4:=hk4.frozen
 have H:=Lhd (gives8_of (x:=.mk 4 nm sc 0 ns (ax::xs) [] []) (w3:=w1) hst hP hBB hk4 (by omega) (by omega) Hz.out)
 clear hP hS hB hz hs hk4 hBB hkS hst
 go_wp2
 rw[lay8_eq]
 refine bodyPost_ret (ret_st Tryz.results221 rfl H.out.1 rfl) rfl ?_
 rw[Hfin.out]
 exact H.out.2
end Go.Proofs.YtgbgiknfejpcoaaGreat

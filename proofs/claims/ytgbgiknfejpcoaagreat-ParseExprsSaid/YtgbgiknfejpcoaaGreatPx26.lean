/- Parts of this proof, one behind the other: ParZ, ParZ1, ParZ2. -/
import Derived.Test.YtgbgiknfejpcoaaGreatPx25
import Derived.Test.YtgbgiknfejpcoaaGreatPx7
set_option maxRecDepth 1000000
set_option maxHeartbeats 40000000
namespace Go.Proofs.YtgbgiknfejpcoaaGreat
open Go.RowKit Go.Afx
def badOf (w:World) (gp:Nat):Nat:=match w.cell? ⟨gp,3,none⟩ with|some (.bool b)=>if b then 0 else 1|_=>0
theorem badOf_eq {gp gc gw:Nat} {W:Wds} {s:PSt} {w:World} (h:PAt gp gc gw W s w):badOf w gp=if s.bad then 0 else 1:=by
 unfold badOf
 rw[(cells4 h.blk).2.2.2.1]
theorem stmtsP_go {W:Wds} {one:PSt→St×PSt} {f:Nat} {l:List St} {s:PSt}:stmtsP W one (f+1) l s=if !s.bad&&!isP W s (str [125]) then stmtsP W one f (l++[(one s).1]) (one s).2 else (l,s):=rfl
theorem stmtsP_stop {W:Wds} {one:PSt→St×PSt} {f:Nat} {l:List St} {s:PSt} (h:(!s.bad&&!isP W s (str [125]))=false):stmtsP W one f l s=(l,s):=by
 cases f with
 | zero=>rfl
 | succ f=>rw[stmtsP_go,if_neg (by rw[h];decide)]
theorem blockP_eq (W:Wds) (f:Nat) (s:PSt):blockP W (f+1) s=((stmtsP W (stmtP W (blockP W f)) W.fuel [] (enterP (mustP W [str [123]] s))).1,leaveP (mustP W [str [125]] (stmtsP W (stmtP W (blockP W f)) W.fuel [] (enterP (mustP W [str [123]] s))).2)):=rfl
theorem must_more (W:Wds) (t:ByteArray) (s:PSt):(mustP W [t] s).bad=true∨s.at_+1≤(mustP W [t] s).at_:=by
 unfold mustP mustP
 split
 ·rename_i h;exact .inr (by rw[(may_yes h).1];exact Nat.le_refl _)
 ·exact .inl rfl
theorem pIs_any {gp gc gw:Nat} {W:Wds} {s:PSt} {w:World} (h:PAt gp gc gw W s w) (t:ByteArray) (g:Nat) (hg:g=w.heap.size) :
  Calls Tryz.prog 123 #[.pointer (some ⟨gc,0,none⟩),.slice (some ⟨g,0,none⟩) 1 1] (w.alloc (.cells #[.string t] 9)) fun e w'=>e=.returned (.bool (isP W s t))∧PAt gp gc gw W s w'∧Below w.heap.size w w':=by
 have h1:=look_any_of h [t] 1 g hg rfl (by omega)
 have e:[t].any (W.look s.at_).says=isP W s t:=by simp[isP]
 rw[e] at h1
 exact h1
theorem pBlock_any (gp gc gw:Nat) (W:Wds) (hW:W.l.length≤1000000) (f:Nat) (hS:TakesS gp gc gw W f):TakesB gp gc gw W (f+1):=by
 intro s w h hf _
 have hz:=And.intro h.lt.1 (And.intro h.lt.2 h.wl)
 have hmax:=hW
 rw[blockP_eq]
 have hm1:=pMust_any gp gc gw w.heap.size W s (str [123]) w h rfl
 have hmore:=must_more W (str [123]) s
 have hge:=ge_must W (str [123]) s
 generalize mustP W [str [123]] s=sm at *
 simp only[str] at hm1
 have hen:=fun w2 (hW:PAt gp gc gw W sm w2)=>pEnter_any gp gc gw W sm w2 hW
 have hmore2:(enterP sm).bad=true∨s.at_+1≤(enterP sm).at_:=hmore.imp (ge_enter sm).2 (fun e=>Nat.le_trans e (ge_enter sm).1)
 have hge2:=hge.trans (ge_enter sm)
 generalize enterP sm=se at *
 have hup:=stmt_more W (up_block W f)
 have hS2:∀ s' w2,PAt gp gc gw W s' w2→Fit W f s'→1≤f→Calls Tryz.prog 172 #[.pointer (some ⟨gp,0,none⟩)] w2 (GivesS gp gc gw W (stmtP W (blockP W f) s').2 (stmtP W (blockP W f) s').1 w2):=hS
 generalize stmtP W (blockP W f)=one at *
 generalize hfin:stmtsP W one W.fuel [] se=fin at *
 have Hfin:=Lhd hfin.symm
 have Hz:=Lhd hz
 have Hmax:=Lhd hmax
 have Hm1:=Lhd hm1
 have Hen:=Lhd hen
 have Hmore:=Lhd (And.intro hmore2 (And.intro hf hge2))
 have Hup:=Lhd hup
 have HS:=Lhd hS2
 have HM:=Lhd (fun s' w2 (hW:PAt gp gc gw W s' w2)=>pMust_any gp gc gw w2.heap.size W s' (str [125]) w2 hW rfl)
 have HI:=Lhd (fun s' w2 (hW:PAt gp gc gw W s' w2)=>pIs_any hW (str [125]) w2.heap.size rfl)
 have HL:=Lhd (fun s' w2 (hW:PAt gp gc gw W s' w2)=>pLeave_any gp gc gw W s' w2 hW)
 clear hfin hz hmax hm1 hen hmore hmore2 hge hge2 hup hS hS2 h hf
 go_enter Tryz.func130,Tryz.ntmps130
 go_wp2_with (fail)
 refine Hm1.out.mono ?_
 rintro e w2 ⟨rfl,hP,hB⟩
 have H2:=Lhd (And.intro hP hB)
 clear hP hB
 go_wp2_with (fail)
 refine(Hen.out _ H2.out.1).mono ?_
 rintro e w3 ⟨rfl,hP,hB⟩
 have hB3:But (fun k=>k=gp∨k=gc∨w.heap.size≤k) w w3:=(H2.out.2.trans' hB).mono fun i hi=>.inl (by rcases hi with e|e;exact .inl e;exact .inr (.inl e))
 have H3:=Lhd (And.intro hP hB3)
 clear hP hB hB3
 go_wp2
 go_loopw [3] (fun v wr=>∃ (s':PSt) (xs:List St) (k:Nat) (A:Option Addr) (c:Nat),v=.slice A xs.length c∧PAt gp gc gw W s' wr∧(∃ rows D,StsOwn w.heap.size wr A c rows D xs)∧But (fun k=>k=gp∨k=gc∨w.heap.size≤k) w wr∧Hid (fin=stmtsP W one k xs s')∧Hid (Fit W k s'∧Fit W f s'∧(s'.bad=false→xs.length≤s'.at_))) (fun _ wr=>2*(W.l.length-atOf wr gc)+badOf wr gp)
 case atStart =>
  refine⟨se,[],W.fuel,none,0,rfl,H3.out.1,⟨[],0,StsOwn.nil_ _ _⟩,H3.out.2,Hfin,Lhd ⟨.inr (by unfold Wds.fuel;omega),?_,fun _=>by simp⟩⟩
  have h1:=Hmore.out.1
  have h2:=Hmore.out.2
  rcases h1 with h1|h1
  ·exact .inl h1
  ·rcases h2.1 with h3|h3
   ·exact .inl (h2.2.2 h3)
   ·exact .inr (by omega)
 case round =>
  obtain⟨s',xs,k,A,c,rfl,hP,⟨rows,D,hL⟩,hB,HF,HS'⟩:=hrel
  obtain⟨hfit,hfitf,hxl⟩:=HS'.out
  have hle:=hP.le
  have hat0:=atOf_eq hP
  have hbd0:=badOf_eq hP
  obtain⟨d0,d1,d2,d3,dg⟩:=cells4 hP.blk
  have hI:=HI.out s' wr hP
  have hM:=fun w2 hW=>HM.out s' w2 hW
  have hgo:=HF.out
  have H:=Lhd (And.intro hP (And.intro hL hB))
  cases hbad:s'.bad with
  | true =>
   rw[stmtsP_stop (by rw[hbad];rfl)] at hgo
   subst hgo
   rw[hbad] at d3
   generalize mustP W [str [125]] s'=sm' at *
   simp only[str] at hM
   have HM':=Lhd hM
   clear hM hI hfit hfitf hxl hle hat0 hbd0 hbad HF HS' hP hL hB HI
   go_wp2_with (fail)
   refine(HM'.out _ H.out.1).mono ?_
   rintro e w6 ⟨rfl,hP6,hB6⟩
   have hz:=Hz.out
   have hL6:=H.out.2.1.keep hB6 (fun k hk=>by rcases hk with e|e<;>omega)
   have H6:=Lhd (And.intro hP6 (And.intro hL6 (H.out.2.2.trans hB6 (fun i hi=>.inl (by rcases hi with e|e;exact .inl e;exact .inr (.inl e))))))
   clear hP6 hB6 hL6 hz
   go_wp2_with (fail)
   refine(HL.out _ _ H6.out.1).mono ?_
   rintro e w7 ⟨rfl,hP7,hB7⟩
   have hz:=Hz.out
   have hL7:=H6.out.2.1.keep hB7 (fun k hk=>by rcases hk with e|e<;>omega)
   have hB8:=H6.out.2.2.trans hB7 (fun i hi=>.inl (by rcases hi with e|e;exact .inl e;exact .inr (.inl e)))
   have hB9:But (On2 gp gc) w w7:=(But.refl (On2 gp gc) w).trans hB8 (fun i hi=>by rcases hi with e|e|e;exact .inl (.inl e);exact .inl (.inr e);exact .inr e)
   have H7:=Lhd (And.intro hP7 (And.intro hL7.list hB9))
   clear hP7 hB7 hL7 hB8 hB9 hz
   go_wp2
   go_ret
   exact⟨A,_,c,D,rfl,H7.out.2.1,H7.out.1,H7.out.2.2⟩
  | false =>
   rw[hbad] at d3
   cases hi:isP W s' (str [125]) with
   | true =>
    rw[stmtsP_stop (by rw[hbad,hi];rfl)] at hgo
    subst hgo
    rw[hi] at hI
    generalize mustP W [str [125]] s'=sm' at *
    simp only[str] at hM hI
    have HM':=Lhd hM
    have HI':=Lhd hI
    clear hM hI hfit hfitf hxl hle hat0 hbd0 hbad hi HF HS' hP hL hB HI
    go_wp2_with (fail)
    refine HI'.out.mono ?_
    rintro e w4 ⟨rfl,hP4,hB4⟩
    have hb4:But (fun _=>False) wr w4:=But.of_below hB4
    have H4:=Lhd (And.intro hP4 (And.intro (H.out.2.1.keep hb4 (fun _ h=>h.elim)) (H.out.2.2.trans hb4 (fun _ h=>h.elim))))
    clear hP4 hB4 hb4
    go_wp2_with (fail)
    refine(HM'.out _ H4.out.1).mono ?_
    rintro e w6 ⟨rfl,hP6,hB6⟩
    have hz:=Hz.out
    have hL6:=H4.out.2.1.keep hB6 (fun k hk=>by rcases hk with e|e<;>omega)
    have H6:=Lhd (And.intro hP6 (And.intro hL6 (H4.out.2.2.trans hB6 (fun i hi=>.inl (by rcases hi with e|e;exact .inl e;exact .inr (.inl e))))))
    clear hP6 hB6 hL6 hz
    go_wp2_with (fail)
    refine(HL.out _ _ H6.out.1).mono ?_
    rintro e w7 ⟨rfl,hP7,hB7⟩
    have hz:=Hz.out
    have hL7:=H6.out.2.1.keep hB7 (fun k hk=>by rcases hk with e|e<;>omega)
    have hB8:=H6.out.2.2.trans hB7 (fun i hi=>.inl (by rcases hi with e|e;exact .inl e;exact .inr (.inl e)))
    have hB9:But (On2 gp gc) w w7:=(But.refl (On2 gp gc) w).trans hB8 (fun i hi=>by rcases hi with e|e|e;exact .inl (.inl e);exact .inl (.inr e);exact .inr e)
    have H7:=Lhd (And.intro hP7 (And.intro hL7.list hB9))
    clear hP7 hB7 hL7 hB8 hB9 hz
    go_wp2
    go_ret
    exact⟨A,_,c,D,rfl,H7.out.2.1,H7.out.1,H7.out.2.2⟩
   | false =>
    obtain⟨k,rfl⟩:∃ k',k=k'+1:=by
     rcases hfit with e|e
     ·rw[hbad] at e;cases e
     ·exact⟨k-1,by omega⟩
    have hf1:1≤f:=by
     rcases hfitf with e|e
     ·rw[hbad] at e;cases e
     ·omega
    rw[stmtsP_go,if_pos (by rw[hbad,hi];rfl)] at hgo
    rw[hi] at hI
    simp only[str] at hI
    have hup:=Hup.out s'
    have hst:=fun w2 hW=>HS.out s' w2 hW hfitf hf1
    have hxl:=hxl hbad
    have hmeas:2*(W.l.length-(one s').2.at_)+(if (one s').2.bad then 0 else 1)<2*(W.l.length-s'.at_)+(if s'.bad then 0 else 1)∨W.l.length<(one s').2.at_:=by
     rw[hbad]
     rcases hup.2 with e|e
     ·rw[e]
      have:=hup.1.1
      simp
      omega
     ·rcases Nat.lt_or_ge W.l.length (one s').2.at_ with h|h
      ·exact .inr h
      ·left
       simp only[Bool.false_eq_true,if_false]
       split<;>omega
    have hfit2:Fit W k (one s').2∧Fit W f (one s').2∧((one s').2.bad=false→(xs++[(one s').1]).length≤(one s').2.at_):=by
     have e1:W.l.length<s'.at_+(k+1):=hfit.elim (fun e=>by rw[hbad] at e;cases e) id
     refine⟨?_,hfitf.ge hup.1,fun e=>?_⟩
     ·rcases hup.2 with e|e
      ·exact .inl e
      ·exact .inr (by omega)
     ·rcases hup.2 with e2|e2
      ·rw[e] at e2;cases e2
      ·simp;omega
    generalize one s'=r at *
    obtain⟨x,sx⟩:=r
    simp only at hgo hup hst hmeas hfit2
    have Hst:=Lhd hst
    have HI':=Lhd hI
    have Hgo:=Lhd hgo
    have Hmeas:=Lhd hmeas
    have Hfit2:=Lhd hfit2
    have H0:=Lhd (And.intro hat0 hbd0)
    have Hxl:=Lhd (And.intro hxl hle)
    clear hM hI hfit hfitf hxl hle hat0 hbd0 hbad hi HF HS' hP hL hB HI hst hgo hmeas hfit2 hup
    go_wp2_with (fail)
    refine HI'.out.mono ?_
    rintro e w4 ⟨rfl,hP4,hB4⟩
    have hb4:But (fun _=>False) wr w4:=But.of_below hB4
    have H4:=Lhd (And.intro hP4 (And.intro (H.out.2.1.keep hb4 (fun _ h=>h.elim)) (H.out.2.2.trans hb4 (fun _ h=>h.elim))))
    clear hP4 hB4 hb4
    go_wp2_with (fail)
    refine(Hst.out _ H4.out.1).mono ?_
    rintro e w5 ⟨row,D5,rfl,hx,hP5,hB5⟩
    obtain⟨Ac,nc,cc,Ae,ne,ce,Ab,nb,cb,Al,nl,cl,rfl⟩:=st_row8 hx
    have hz:=Hz.out
    have hn4:=H4.out.2.2.size
    have hs5:=hB5.size
    have hL5:=H4.out.2.1.keep hB5 (fun k hk=>by rcases hk with e|e<;>omega)
    have hal5:=(Below.refl w5.heap.size w5).alloc (Nat.le_refl _) (.cells #[.int .i64 x.op,.string x.name,.string x.src,.int .i64 x.n,.slice Ac nc cc,.slice Ae ne ce,.slice Ab nb cb,.slice Al nl cl] 73)
    have hown5:=own_below hL5.own hal5
    have hnew:RowsAt (w5.alloc (.cells #[.int .i64 x.op,.string x.name,.string x.src,.int .i64 x.n,.slice Ac nc cc,.slice Ae ne ce,.slice Ab nb cb,.slice Al nl cl] 73)) 8 (some ⟨w5.heap.size,0,none⟩) 1 1 [[.int .i64 x.op,.string x.name,.string x.src,.int .i64 x.n,.slice Ac nc cc,.slice Ae ne ce,.slice Ab nb cb,.slice Al nl cl]]:=RowsAt.lit' _ _ 1 rfl rfl (by simp) rfl (by unfold maxLen;omega)
    have hmx:xs.length+1≤maxLen:=by have:=Hxl.out;have:=Hmax.out;unfold maxLen;omega
    have hby:(xs.length+1)*144≤140737488355328:=by have:=Hxl.out;have:=Hmax.out;omega
    have hba:w.heap.size≤(w5.alloc (.cells #[.int .i64 x.op,.string x.name,.string x.src,.int .i64 x.n,.slice Ac nc cc,.slice Ae ne ce,.slice Ab nb cb,.slice Al nl cl] 73)).heap.size:=by simp;omega
    have HP5:=Lhd (And.intro hP5 (And.intro hB5 hx))
    have Hal5:=Lhd hal5
    have Hnew:=Lhd hnew
    have Hown5:=Lhd hown5
    have Hnum:=Lhd (And.intro hmx (And.intro hby (And.intro hba hn4)))
    clear hP5 hB5 hx hal5 hL5 hown5 hnew hmx hby hba hz hn4 hs5
    go_wp2_with (at_builtin;refine wpList_app (base:=w.heap.size) (xs:=rows) (news:=[[.int .i64 x.op,.string x.name,.string x.src,.int .i64 x.n,.slice Ac nc cc,.slice Ae ne ce,.slice Ab nb cb,.slice Al nl cl]]) rfl rfl tyStt rfl Hown5.out rfl Hnew.out (by simp) (by simp[Value.oneCell']) Hnum.out.1 Hnum.out.2.1 Hnum.out.2.2.1 ?_;intro A6 c6 w6 hown6 hbut6 hf6)
    have hpush:=StsOwn.push H4.out.2.1 Hz.out Hnum.out.2.2.2 HP5.out.2.1 HP5.out.2.2 HP5.out.1 Hal5.out hown6 hbut6 hf6
    have hm6:2*(W.l.length-atOf w6 gc)+badOf w6 gp<2*(W.l.length-atOf wr gc)+badOf wr gp:=by
     rw[atOf_eq hpush.1,badOf_eq hpush.1,H0.out.1,H0.out.2]
     rcases Hmeas.out with e|e
     ·exact e
     ·exact absurd hpush.1.le (by omega)
    have H6:=Lhd (And.intro hpush (H4.out.2.2.trans hpush.2.2 (fun i hi=>.inl hi)))
    have Hm6:=Lhd hm6
    clear hown6 hbut6 hf6 hpush hm6
    go_wp2
    go_roundw
    case rel=>exact⟨sx,xs++[x],k,A6,c6,by simp,H6.out.1.1,⟨_,_,H6.out.1.2.1⟩,H6.out.2,Hgo,Hfit2⟩
    case measure=>exact Hm6.out
theorem pBlocks_fuel (gp gc gw:Nat) (W:Wds) (hW:W.l.length≤1000000):∀ f,TakesB gp gc gw W f:=by
 intro f
 induction f with
 | zero=>intro s w _ _ h;omega
 | succ f ih=>exact pBlock_any gp gc gw W hW f (pStmt_any gp gc gw W f ih)
theorem pBlock1_any (gp gc gw:Nat) (W:Wds) (hW:W.l.length≤1000000) (s:PSt) (w:World) (h:PAt gp gc gw W s w):Calls Tryz.prog 130 #[.pointer (some ⟨gp,0,none⟩)] w (GivesB gp gc gw W (block1 W s).2 (block1 W s).1 w) :=
 pBlocks_fuel gp gc gw W hW W.fuel s w h (fit_all W s) (by unfold Wds.fuel;omega)
theorem tyCol:ElemTy Tryz.prog 28 79 2 24 (.agg #[.string ByteArray.empty,.int .i64 0]):=⟨Tryz.underlying28,by kernel_rfl,rfl,by decide⟩
abbrev crow (p:Co):List Value:=[.string p.name,.int .i64 p.kind]
theorem crow_len (ps:List Co):∀ r∈ps.map crow,r.length=2:=by
 intro r hr
 obtain⟨p,_,rfl⟩:=List.mem_map.1 hr
 rfl
structure ProOwn (n0 gl:Nat) (w:World) (nm:ByteArray) (A:Option Addr) (c:Nat) (ps:List Co):Prop where
 blk:IsBlk w gl 36 #[.string nm,.string ⟨#[]⟩,.string ⟨#[]⟩,.int .i64 100,.slice A ps.length c,.slice none 0 0]
 own:w.ownsRow n0 79 2 (.slice A ps.length c) ps.length (ps.map crow).flatten
 ok:∀ p∈ps,okS p.name∧okI p.kind
section
variable {gp gc gw gl gb n0:Nat} {W:Wds} {s':PSt} {w w' w5 Wc w6:World} {nm:ByteArray} {A:Option Addr} {c:Nat} {ps:List Co}
theorem ProOwn.low (h:ProOwn n0 gl w nm A c ps):∀ k,A.map (·.block)=some k→n0≤k∧k<w.heap.size:=by
 intro k hk
 cases A with
 | none=>cases hk
 | some a =>
  have e:a.block=k:=by simpa using hk
  subst e
  exact h.own.lt a.block rfl
theorem ProOwn.on2 (h:ProOwn n0 gl w nm A c ps) (hb:But (On2 gp gc) w w5) (hg:gp<n0∧gc<n0∧gl≠gp∧gl≠gc):ProOwn n0 gl w5 nm A c ps :=
 ⟨h.blk.as_was (hb.block _ h.blk.lt (by rintro(e|e);exact hg.2.2.1 e;exact hg.2.2.2 e)),own_but h.own hb (fun g hg2 hs=>by have:=(h.own.lt g hg2).1;rcases hs with e|e<;>omega),h.ok⟩
theorem ProOwn.list (h:ProOwn n0 gl w nm A c ps):LsAt (fun b=>n0≤b) w 2 CoRow A ps.length c ps :=
 ⟨ps.map crow,RowsAt.of_own h.own (crow_len ps) (by simp),fun a ha _=>(h.low a.block (by rw[ha];rfl)).1,by simp,fun k r x hr hx=>by
  rw[List.getElem?_map,hx] at hr
  simp only[Option.map_some,Option.some.injEq] at hr
  subst hr
  exact⟨rfl,rfl,h.ok x (List.mem_of_getElem? hx)⟩⟩
theorem ProOwn.push {x:Co} (hl:ProOwn n0 gl w nm A c ps) (hg:gp<n0∧gc<n0∧gw<n0∧gl≠gp∧gl≠gc) (hg2:gl≠gw∧gl<n0∧gb<n0∧gb≠gp∧gb≠gc∧gb≠gl) (hok:okS x.name∧okI x.kind)
  (hB:But (On2 gp gc) w.drew w5) (hP:PAt gp gc gw W s' w5) (hal:Below w5.heap.size w5 Wc) {A6:Option Addr} {c6:Nat} (hown:w6.ownsRow n0 79 2 (.slice A6 (ps.length+1) c6) (ps.length+1) (ps.map crow++[crow x]).flatten) (hbut:But (fun k=>A.map (·.block)=some k) Wc w6) :
  IsBlk w6 gl 36 #[.string nm,.string ⟨#[]⟩,.string ⟨#[]⟩,.int .i64 100,.slice A ps.length c,.slice none 0 0]∧PAt gp gc gw W s' (w6.setCell ⟨gl,4,none⟩ (.slice A6 (ps.length+1) c6))∧ProOwn n0 gl (w6.setCell ⟨gl,4,none⟩ (.slice A6 (ps.length+1) c6)) nm A6 c6 (ps++[x])∧But (On3 gp gc gl n0) w (w6.setCell ⟨gl,4,none⟩ (.slice A6 (ps.length+1) c6)):=by
 have hld:ProOwn n0 gl w5 nm A c ps:=(hl.on2 (gp:=gp) (gc:=gc) ((But.refl _ w).drew) ⟨hg.1,hg.2.1,hg.2.2.2⟩).on2 hB ⟨hg.1,hg.2.1,hg.2.2.2⟩
 have hlow:=hld.low
 have hk6:=(hld.blk.as_was (hal.block _ hld.blk.lt)).as_was (hbut.block _ (hld.blk.as_was (hal.block _ hld.blk.lt)).lt (fun e=>by have:=hlow gl e;omega))
 have hbl:=(But.refl (fun k=>k=gl) w6).setCell (p:=⟨gl,4,none⟩) (.inl rfl) (.slice A6 (ps.length+1) c6)
 have e:(ps++[x]).length=ps.length+1:=by simp
 have e2:(ps++[x]).map crow=ps.map crow++[crow x]:=by simp
 refine⟨hk6,((hP.below hal).off hbut (fun k hk=>by have:=hlow k hk;omega)).off hbl (fun k hk=>by omega),⟨?_,?_,?_⟩,?_⟩
 ·have:=hk6.stored 4 (.slice A6 (ps.length+1) c6)
  rw[e]
  simpa using this
 ·rw[e,e2]
  exact own_but hown hbl (fun g2 hg2 e2=>by have:=(hown.lt g2 hg2).1;omega)
 ·intro y hy
  rcases List.mem_append.1 hy with hy|hy
  ·exact hl.ok y hy
  ·simp only[List.mem_singleton] at hy;subst hy;exact hok
 ·have h1:But (On3 gp gc gl n0) w w5:=((But.refl (On3 gp gc gl n0) w).drew).trans' (on3_on2 hB)
  exact((h1.trans' (But.of_below hal)).trans hbut (fun i hi=>.inl (.inr (.inr (.inr (hlow i hi).1))))).trans hbl (fun i hi=>.inl (.inr (.inr (.inl hi))))
end
theorem kind_ok (W:Wds) (s:PSt):okI (kindP W s).1:=by
 rw[kindP_eq]
 repeat' split
 all_goals exact⟨by simp,by simp⟩
theorem paramP_eq (W:Wds) (s:PSt):paramP W s=(⟨(nameP W s).1,(kindP W (nameP W s).2).1⟩,(kindP W (nameP W s).2).2):=rfl
theorem up_kind (W:Wds) (s:PSt):Ge s (kindP W s).2:=by
 rw[kindP_eq]
 repeat' split
 all_goals first|exact ge_may W _ s|exact ge_fail s
theorem up_param (W:Wds) (s:PSt):Ge s (paramP W s).2:=(up_name W s).trans (up_kind W _)
theorem pParamStep (gp gc gw gl gb n0:Nat) (W:Wds) (s:PSt) (w:World) (nm:ByteArray) (A:Option Addr) (c:Nat) (ps:List Co) (h:PAt gp gc gw W s w) (hl:ProOwn n0 gl w nm A c ps) (hb:IsBlk w gb 98 #[.pointer (some ⟨gp,0,none⟩)])
  (hg:gp<n0∧gc<n0∧gw<n0∧gl≠gp∧gl≠gc) (hg2:gl≠gw∧gl<n0∧gb<n0∧gb≠gp∧gb≠gc∧gb≠gl) (hn:n0≤w.heap.size) (hln:ps.length≤1000000000002) :
  Calls Tryz.prog 125 #[.pointer (some ⟨gb,0,none⟩),.pointer (some ⟨gl,0,none⟩)] w fun e w'=>e=.returned (.tuple #[])∧PAt gp gc gw W (paramP W s).2 w'∧(∃ A' c',ProOwn n0 gl w' nm A' c' (ps++[(paramP W s).1]))∧But (On3 gp gc gl n0) w w':=by
 have hok:=And.intro (name_ok h s) (kind_ok W (nameP W s).2)
 rw[paramP_eq]
 have hnm:=pName_any gp gc gw W s w h
 generalize nameP W s=a at *
 obtain⟨na,sa⟩:=a
 simp only at hok hnm ⊢
 have hkd:=fun w2 (hW:PAt gp gc gw W sa w2)=>pKind_any gp gc gw W sa w2 hW
 generalize kindP W sa=b at *
 obtain⟨kd,sk⟩:=b
 simp only at hok hkd ⊢
 have c2:w.cell? ⟨gb,0,none⟩=some (.pointer (some ⟨gp,0,none⟩)):=by have:=hb.cell 0;simpa using this
 have l2:=hb.lt
 have Hnm:=Lhd hnm
 have Hkd:=Lhd hkd
 have Hok:=Lhd hok
 have Hl:=Lhd hl
 have Hb:=Lhd hb
 have Hg:=Lhd hg
 have Hg2:=Lhd hg2
 have Hn:=Lhd hn
 have Hln:=Lhd hln
 clear hnm hkd hok hl hb hg hg2 hn hln h
 go_enter Tryz.func125,Tryz.ntmps125
 go_wp2_with (fail)
 refine Hnm.out.mono ?_
 rintro e w2 ⟨rfl,hP2,hB2⟩
 have hl2:=Hl.out.on2 hB2 ⟨Hg.out.1,Hg.out.2.1,Hg.out.2.2.2⟩
 have hb2:=Hb.out.as_was (hB2.block _ Hb.out.lt (by have:=Hg2.out;rintro(e|e)<;>omega))
 have hd:PAt gp gc gw W sa w2.drew:=hP2.below (Below.refl _ _).drew
 have hld:ProOwn n0 gl w2.drew nm A c ps:=hl2.on2 (gp:=gp) (gc:=gc) ((But.refl _ w2).drew) ⟨Hg.out.1,Hg.out.2.1,Hg.out.2.2.2⟩
 have hbd:IsBlk w2.drew gb 98 #[.pointer (some ⟨gp,0,none⟩)]:=hb2
 have hcl:∀ W2,But (On2 gp gc) w2.drew W2→W2.cell? ⟨gl,4,none⟩=some (.slice A ps.length c)∧W2.cell? ⟨gb,0,none⟩=some (.pointer (some ⟨gp,0,none⟩))∧gl<W2.heap.size∧gb<W2.heap.size∧(∀ i,W2.frozen? ⟨gl,i,none⟩=false):=fun W2 hW=>by
  have k1:=hld.blk.as_was (hW.block _ hld.blk.lt (by have:=Hg.out;rintro(e|e)<;>omega))
  have k2:=hbd.as_was (hW.block _ hbd.lt (by have:=Hg2.out;rintro(e|e)<;>omega))
  obtain⟨a0,a1,a2,a3,a4,a5,al⟩:=cells6 k1
  have e2:=k2.cell 0
  simp at e2
  exact⟨a4,e2,k1.lt,k2.lt,k1.frozen⟩
 have hn2:n0≤w2.heap.size:=Nat.le_trans Hn.out hB2.size
 have hBB:But (On3 gp gc gl n0) w w2:=on3_on2 hB2
 obtain⟨b0,b1,b2,b3,b4,b5,bl⟩:=cells6 hl2.blk
 have c2:w2.cell? ⟨gb,0,none⟩=some (.pointer (some ⟨gp,0,none⟩)):=by have:=hb2.cell 0;simpa using this
 have l2:=hb2.lt
 have Hl2:=Lhd hl2
 have Hd:=Lhd hd
 have Hld:=Lhd hld
 have Hcl:=Lhd hcl
 have Hn2:=Lhd hn2
 have HBB:=Lhd hBB
 have hz1:∀ r∈[crow ⟨na,kd⟩],r.length=2:=by simp
 have hz2:∀ r∈[crow ⟨na,kd⟩],∀ u∈r,u.oneCell'=true:=by
  intro r hr u hu
  simp only[List.mem_singleton] at hr
  subst hr
  simp only[List.mem_cons,List.not_mem_nil,or_false] at hu
  rcases hu with rfl|rfl<;>rfl
 have Hz1:=Lhd hz1
 have Hz2:=Lhd hz2
 have hmx:ps.length+1≤maxLen:=by have:=Hln.out;unfold maxLen;omega
 have hby:(ps.length+1)*24≤140737488355328:=by have:=Hln.out;omega
 have Hmx:=Lhd (And.intro hmx hby)
 have hend:∀ (w5 Wc w6:World) (A6:Option Addr) (c6:Nat) (a:Act),But (On2 gp gc) w2.drew w5→PAt gp gc gw W sk w5→Below w5.heap.size w5 Wc→w6.ownsRow n0 79 2 (.slice A6 (ps.length+1) c6) (ps.length+1) (ps.map crow++[crow ⟨na,kd⟩]).flatten→But (fun k=>A.map (·.block)=some k) Wc w6→a.defers=[] →
   bodyPost Tryz.prog Tryz.f125 (fun e w'=>e=.returned (.tuple #[])∧PAt gp gc gw W sk w'∧(∃ A' c',ProOwn n0 gl w' nm A' c' (ps++[⟨na,kd⟩]))∧But (On3 gp gc gl n0) w w') Exit.normal a (w6.setCell ⟨gl,4,none⟩ (.slice A6 (ps.length+1) c6)):=by
  intro w5 Wc w6 A6 c6 a hB5 hP5 hal5 hown6 hbut6 hdef
  obtain⟨_,h1,h2,h3⟩:=ProOwn.push (gb:=gb) Hl2.out Hg.out Hg2.out Hok.out hB5 hP5 hal5 hown6 hbut6
  refine bodyPost_end (results_none rfl _ _ _) hdef ?_
  exact⟨rfl,h1,⟨_,_,h2⟩,HBB.out.trans' h3⟩
 have Hend:=Lhd hend
 clear hP2 hB2 hl2 hb2 hd hld hbd hcl hn2 hBB hz1 hz2 hmx hby hend
 go_upto_region 1 with (fail)
 go_region_law (first
  | (go_simp;go_at_call 126;refine(Hkd.out _ Hd.out).mono ?_;rintro e5 w5 ⟨rfl,hP5,hB5⟩;obtain⟨t1,t2,t3,t4,t5⟩:=Hcl.out _ hB5;have hO5:=own_below (own_but Hld.out.own hB5 (fun g hg e=>by (have h1:=(Hld.out.own.lt g hg).1;have:=Hg.out;rcases e with e|e<;>omega))) ((Below.refl w5.heap.size w5).alloc (Nat.le_refl _) (.cells (crow ⟨na,kd⟩).toArray 79));have hal5:=(Below.refl w5.heap.size w5).alloc (Nat.le_refl _) (.cells (crow ⟨na,kd⟩).toArray 79))
  | (refine stepAppP (base:=n0) (xs:=ps.map crow) (news:=[crow ⟨na,kd⟩]) rfl rfl tyCol rfl (by with_reducible exact hO5) rfl (by exact RowsAt.lit' _ _ 1 rfl rfl Hz1.out rfl (by unfold maxLen;omega)) Hz1.out Hz2.out Hmx.out.1 Hmx.out.2 (by (have:=Hn2.out;have h1:=hB5.size;simp only[World.drew] at h1;simp;omega)) ?_;intro A6 c6 w6 hown6 hbut6 hf6;have hk6:=(ProOwn.push (gb:=gb) Hl2.out Hg.out Hg2.out Hok.out hB5 hP5 hal5 hown6 hbut6).1;obtain⟨u0,u1,u2,u3,u4,u5,ul⟩:=cells6 hk6;have f6:=hk6.frozen))
 all_goals
  with_reducible exact Hend.out _ _ _ _ _ _ hB5 hP5 hal5 hown6 hbut6 rfl
open Go.RowKit Go.Afx
theorem pList_params (gp gc gw gl gb n0:Nat) (W:Wds) (s:PSt) (w:World) (nm:ByteArray) (h:PAt gp gc gw W s w) (hl:ProOwn n0 gl w nm none 0 []) (hb:IsBlk w gb 98 #[.pointer (some ⟨gp,0,none⟩)])
  (hg:gp<n0∧gc<n0∧gw<n0∧gl≠gp∧gl≠gc) (hg2:gl≠gw∧gl<n0∧gb<n0∧gb≠gp∧gb≠gc∧gb≠gl) (hn:n0≤w.heap.size) :
  Calls Tryz.prog 124 #[.pointer (some ⟨gp,0,none⟩),.func (.func 125) #[] #[.pointer (some ⟨gb,0,none⟩),.pointer (some ⟨gl,0,none⟩)]] w fun e w'=>e=.returned (.tuple #[])∧PAt gp gc gw W (list1 W (paramP W) s).2 w'∧(∃ A' c',ProOwn n0 gl w' nm A' c' (list1 W (paramP W) s).1)∧But (On3 gp gc gl n0) w w':=by
 have hmax:=h.cu.max
 have Hst:=Lhd (fun s' w2 A c xs (hW:PAt gp gc gw W s' w2) (hL:ProOwn n0 gl w2 nm A c xs) (hB:But (On3 gp gc gl n0) w w2) (hln:xs.length≤1000000000001) =>
  pParamStep gp gc gw gl gb n0 W s' w2 nm A c xs hW hL (hb.as_was (hB.block _ hb.lt (by rintro(e|e|e|e)<;>omega))) hg hg2 (Nat.le_trans hn hB.size) (by omega))
 have Hmay:=Lhd (fun s' w2 (hW:PAt gp gc gw W s' w2)=>pMay_any gp gc gw W s' (str [44]) w2 hW)
 have hfin:list1 W (paramP W) s=listP W (paramP W) (W.l.length+1) [(paramP W s).1] (paramP W s).2:=rfl
 generalize list1 W (paramP W) s=fin at *
 have Hfin:=Lhd hfin
 have H0:=Lhd (And.intro h hl)
 have Hg:=Lhd (And.intro hg hg2)
 have Hmax:=Lhd hmax
 clear h hl hb hg hg2 hn hfin hmax
 go_enter Tryz.func124,Tryz.ntmps124
 go_wp2_with (fail)
 refine(Hst.out s w none 0 [] H0.out.1 H0.out.2 (But.refl _ _) (by simp)).mono ?_
 rintro e w2 ⟨rfl,hP,hL,hB⟩
 have H2:=Lhd (And.intro hP (And.intro hL hB))
 clear hP hL hB
 go_wp2
 go_loopw [] (fun wr=>∃ (s':PSt) (xs:List Co) (k:Nat),PAt gp gc gw W s' wr∧(∃ A' c',ProOwn n0 gl wr nm A' c' xs)∧But (On3 gp gc gl n0) w wr∧Hid (fin=listP W (paramP W) k xs s')∧Hid (Fit W k s'∧1≤k∧xs.length≤s'.at_+1)) (fun wr=>W.l.length-atOf wr gc)
 case atStart=>exact⟨_,_,_,H2.out.1,H2.out.2.1,H2.out.2.2,Hfin,Lhd ⟨.inr (by omega),by omega,by simp⟩⟩
 case round =>
  obtain⟨s',xs,k,hP,hL,hB,HF,HS⟩:=hrel
  obtain⟨hfit,hk1,hxl⟩:=HS.out
  obtain⟨k,rfl⟩:∃ k',k=k'+1:=⟨k-1,by omega⟩
  have hle:=hP.le
  have hat0:=atOf_eq hP
  have Hat0:=Lhd hat0
  have hm:=Hmay.out s' wr hP
  have hgo:=HF.out
  rw[listP_go] at hgo
  have H:=Lhd (And.intro hP (And.intro hL hB))
  have Hle:=Lhd (And.intro hfit (And.intro hxl hle))
  rcases may_cases W (str [44]) s' with hc|⟨hc,hbad,hat⟩
  ·rw[hc] at hm hgo
   simp only[Bool.false_eq_true,if_false] at hgo
   subst hgo
   simp only[str] at hm
   have Hm:=Lhd hm
   clear hm hc hP hL hB hfit hk1 hxl hle hat0
   go_wp2_with (fail)
   refine Hm.out.mono ?_
   rintro e3 w3 ⟨rfl,hP,hB⟩
   have hB3:=H.out.2.2.trans' (on3_on2 (gl:=gl) (n0:=n0) hB)
   obtain⟨A,c,hL⟩:=H.out.2.1
   have hL3:=hL.on2 hB ⟨Hg.out.1.1,Hg.out.1.2.1,Hg.out.1.2.2.2⟩
   have H3:=Lhd (And.intro hP (And.intro (⟨A,c,hL3⟩:∃ A' c',ProOwn n0 gl w3 nm A' c' xs) hB3))
   clear hP hB hB3 hL hL3
   go_wp2
   refine bodyPost_end (results_none rfl _ _ _) rfl ?_
   exact⟨rfl,H3.out.1,H3.out.2.1,H3.out.2.2⟩
  ·rw[hc] at hm hgo
   simp only[if_true] at hgo
   simp only[str] at hm
   have Hm:=Lhd hm
   have Hgo:=Lhd hgo
   have Hlt:=Lhd (And.intro hbad hat)
   clear hm hc hP hL hB hfit hk1 hxl hle hat0 hgo hbad hat
   go_wp2_with (fail)
   refine Hm.out.mono ?_
   rintro e3 w3 ⟨rfl,hP,hB⟩
   have hB3:=H.out.2.2.trans' (on3_on2 (gl:=gl) (n0:=n0) hB)
   obtain⟨A,c,hL⟩:=H.out.2.1
   have hL3:=hL.on2 hB ⟨Hg.out.1.1,Hg.out.1.2.1,Hg.out.1.2.2.2⟩
   have Hs:=Lhd (Hst.out s'.on w3 A c xs hP hL3 hB3 (by have:=Hle.out;have:=Hmax.out;omega))
   have HB3:=Lhd hB3
   clear hP hB hB3 hL hL3
   go_wp2_with (fail)
   refine Hs.out.mono ?_
   rintro e4 w4 ⟨rfl,hP,hL,hB⟩
   have hup:=up_param W s'.on
   have hm4:W.l.length-atOf w4 gc<W.l.length-atOf wr gc:=by
    rw[atOf_eq hP,Hat0.out]
    have h1:=hup.1
    have h2:s'.on.at_=s'.at_+1:=rfl
    have:=Hlt.out.2
    omega
   have hfit4:Fit W k (paramP W s'.on).2∧1≤k∧(xs++[(paramP W s'.on).1]).length≤(paramP W s'.on).2.at_+1:=by
    have h1:=hup.1
    have h2:s'.on.at_=s'.at_+1:=rfl
    have h3:=Hle.out
    have h4:W.l.length<s'.at_+(k+1):=h3.1.elim (fun e=>by rw[Hlt.out.1] at e;cases e) id
    have h5:=Hlt.out.2
    refine⟨(Fit.on h3.1).ge hup,by omega,?_⟩
    simp
    omega
   have H4:=Lhd (And.intro hP (And.intro hL (HB3.out.trans' hB)))
   have Hm4:=Lhd hm4
   have Hf4:=Lhd hfit4
   clear hP hL hB hup hm4 hfit4
   go_wp2
   go_roundw
   case rel=>exact⟨_,_,k,H4.out.1,H4.out.2.1,H4.out.2.2,Hgo,Hf4⟩
   case measure=>exact Hm4.out
end Go.Proofs.YtgbgiknfejpcoaaGreat

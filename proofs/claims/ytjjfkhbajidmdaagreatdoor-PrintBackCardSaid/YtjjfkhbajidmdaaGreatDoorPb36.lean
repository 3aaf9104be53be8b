/- Parts of this proof, one behind the other: ParZ, ParZ1, ParZ2, ParZ3. -/
import Derived.Test.YtjjfkhbajidmdaaGreatDoorPb35
import Derived.Test.YtjjfkhbajidmdaaGreatDoorPb6
import Derived.Deep.Cut
set_option maxRecDepth 1000000
set_option maxHeartbeats 40000000
namespace Go.Proofs.YtjjfkhbajidmdaaGreatDoor
open Go.RowKit Go.Afx
def QQ (w:World) (gp:Nat):Nat:=match w.cell? ⟨gp,3,none⟩ with|some (.bool b)=>if b then 0 else 1|_=>0
theorem QR {gp gc gw:Nat} {W:aV} {s:au} {w:World} (h:aW gp gc gw W s w):QQ w gp=if s.bad then 0 else 1:=by
 unfold QQ
 rw[(cells4 h.blk).2.2.2.1]
theorem KZ {W:aV} {one:au→St×au} {f:Nat} {l:List St} {s:au}:jc W one (f+1) l s=if !s.bad&&!jO W s (str [125]) then jc W one f (l++[(one s).1]) (one s).2 else (l,s):=rfl
theorem F6 {W:aV} {one:au→St×au} {f:Nat} {l:List St} {s:au} (h:(!s.bad&&!jO W s (str [125]))=false):jc W one f l s=(l,s):=by
 cases f with
 | zero=>rfl
 | succ f=>rw[KZ,if_neg (by rw[h];decide)]
theorem XI (W:aV) (f:Nat) (s:au):gG W (f+1) s=((jc W (jD W (gG W f)) W.fuel [] (aG (ak W [str [123]] s))).1,dw (ak W [str [125]] (jc W (jD W (gG W f)) W.fuel [] (aG (ak W [str [123]] s))).2)):=rfl
theorem XJ (W:aV) (t:ByteArray) (s:au):(ak W [t] s).bad=true∨s.at_+1≤(ak W [t] s).at_:=by
 unfold ak ak
 split
 ·rename_i h;exact .inr (by rw[(pX h).1];exact Nat.le_refl _)
 ·exact .inl rfl
theorem V3 {gp gc gw:Nat} {W:aV} {s:au} {w:World} (h:aW gp gc gw W s w) (t:ByteArray) (g:Nat) (hg:g=w.heap.size) :
  Calls Tryz.prog 47 #[.pointer (some ⟨gc,0,none⟩),.slice (some ⟨g,0,none⟩) 1 1] (w.alloc (.cells #[.string t] 9)) fun e w'=>e=.returned (.bool (jO W s t))∧aW gp gc gw W s w'∧Below w.heap.size w w':=by
 have h1:=xg h [t] 1 g hg rfl (by omega)
 have e:[t].any (W.look s.at_).says=jO W s t:=by simp[jO]
 rw[e] at h1
 exact h1
theorem Uz (gp gc gw:Nat) (W:aV) (hW:W.l.length≤1000000) (f:Nat) (hS:abG gp gc gw W f):Uy gp gc gw W (f+1):=by
 intro s w h hf _
 have hz:=And.intro h.lt.1 (And.intro h.lt.2 h.wl)
 have hmax:=hW
 rw[XI]
 have hm1:=dR gp gc gw w.heap.size W s (str [123]) w h rfl
 have hmore:=XJ W (str [123]) s
 have hge:=bY W (str [123]) s
 generalize ak W [str [123]] s=sm at *
 simp only[str] at hm1
 have hen:=fun w2 (hW:aW gp gc gw W sm w2)=>kX gp gc gw W sm w2 hW
 have abJ:(aG sm).bad=true∨s.at_+1≤(aG sm).at_:=hmore.imp (dW sm).2 (fun e=>Nat.le_trans e (dW sm).1)
 have ald:=hge.trans (dW sm)
 generalize aG sm=se at *
 have hup:=ES W (xx W f)
 have hS2:∀ s' w2,aW gp gc gw W s' w2→Fit W f s'→1≤f→Calls Tryz.prog 94 #[.pointer (some ⟨gp,0,none⟩)] w2 (vG gp gc gw W (jD W (gG W f) s').2 (jD W (gG W f) s').1 w2):=hS
 generalize jD W (gG W f)=one at *
 generalize hfin:jc W one W.fuel [] se=fin at *
 have bn:=ae hfin.symm
 have Hz:=ae hz
 have QH:=ae hmax
 have Hm1:=ae hm1
 have Hen:=ae hen
 have agE:=ae (And.intro abJ (And.intro hf ald))
 have Hup:=ae hup
 have HS:=ae hS2
 have HM:=ae (fun s' w2 (hW:aW gp gc gw W s' w2)=>dR gp gc gw w2.heap.size W s' (str [125]) w2 hW rfl)
 have HI:=ae (fun s' w2 (hW:aW gp gc gw W s' w2)=>V3 hW (str [125]) w2.heap.size rfl)
 have HL:=ae (fun s' w2 (hW:aW gp gc gw W s' w2)=>kW gp gc gw W s' w2 hW)
 clear hfin hz hmax hm1 hen hmore abJ hge ald hup hS hS2 h hf
 go_enter Tryz.func54,Tryz.ntmps54
 go_wp2_with (fail)
 refine Hm1.out.mono ?_
 rintro e w2 ⟨rfl,hP,hB⟩
 have H2:=ae (And.intro hP hB)
 clear hP hB
 go_wp2_with (fail)
 refine(Hen.out _ H2.out.1).mono ?_
 rintro e w3 ⟨rfl,hP,hB⟩
 have hB3:But (fun k=>k=gp∨k=gc∨w.heap.size≤k) w w3:=(H2.out.2.trans' hB).mono fun i hi=>.inl (by rcases hi with e|e;exact .inl e;exact .inr (.inl e))
 have H3:=ae (And.intro hP hB3)
 clear hP hB hB3
 go_wp2
 go_loopw [3] (fun v wr=>∃ (s':au) (xs:List St) (k:Nat) (A:Option Addr) (c:Nat),v=.slice A xs.length c∧aW gp gc gw W s' wr∧(∃ rows D,jJ w.heap.size wr A c rows D xs)∧But (fun k=>k=gp∨k=gc∨w.heap.size≤k) w wr∧Hid (fin=jc W one k xs s')∧Hid (Fit W k s'∧Fit W f s'∧(s'.bad=false→xs.length≤s'.at_))) (fun _ wr=>2*(W.l.length-oP wr gc)+QQ wr gp)
 case atStart =>
  refine⟨se,[],W.fuel,none,0,rfl,H3.out.1,⟨[],0,jJ.nil_ _ _⟩,H3.out.2,bn,ae ⟨.inr (by unfold aV.fuel;omega),?_,fun _=>by simp⟩⟩
  have h1:=agE.out.1
  have h2:=agE.out.2
  rcases h1 with h1|h1
  ·exact .inl h1
  ·rcases h2.1 with h3|h3
   ·exact .inl (h2.2.2 h3)
   ·exact .inr (by omega)
 case round =>
  obtain⟨s',xs,k,A,c,rfl,hP,⟨rows,D,hL⟩,hB,HF,HS'⟩:=hrel
  obtain⟨hfit,La,hxl⟩:=HS'.out
  have hle:=hP.le
  have vV:=iQ hP
  have hbd0:=QR hP
  obtain⟨d0,d1,d2,d3,dg⟩:=cells4 hP.blk
  have hI:=HI.out s' wr hP
  have hM:=fun w2 hW=>HM.out s' w2 hW
  have hgo:=HF.out
  have H:=ae (And.intro hP (And.intro hL hB))
  cases hbad:s'.bad with
  | true =>
   rw[F6 (by rw[hbad];rfl)] at hgo
   subst hgo
   rw[hbad] at d3
   generalize ak W [str [125]] s'=sm' at *
   simp only[str] at hM
   have HM':=ae hM
   clear hM hI hfit La hxl hle vV hbd0 hbad HF HS' hP hL hB HI
   go_wp2_with (fail)
   refine(HM'.out _ H.out.1).mono ?_
   rintro e w6 ⟨rfl,Uh,vS⟩
   have hz:=Hz.out
   have hL6:=H.out.2.1.keep vS (fun k hk=>by rcases hk with e|e<;>omega)
   have H6:=ae (And.intro Uh (And.intro hL6 (H.out.2.2.trans vS (fun i hi=>.inl (by rcases hi with e|e;exact .inl e;exact .inr (.inl e))))))
   clear Uh vS hL6 hz
   go_wp2_with (fail)
   refine(HL.out _ _ H6.out.1).mono ?_
   rintro e w7 ⟨rfl,Ir,uz⟩
   have hz:=Hz.out
   have hL7:=H6.out.2.1.keep uz (fun k hk=>by rcases hk with e|e<;>omega)
   have wu:=H6.out.2.2.trans uz (fun i hi=>.inl (by rcases hi with e|e;exact .inl e;exact .inr (.inl e)))
   have rM:But (fV gp gc) w w7:=(But.refl (fV gp gc) w).trans wu (fun i hi=>by rcases hi with e|e|e;exact .inl (.inl e);exact .inl (.inr e);exact .inr e)
   have H7:=ae (And.intro Ir (And.intro hL7.list rM))
   clear Ir uz hL7 wu rM hz
   go_wp2
   go_ret
   exact⟨A,_,c,D,rfl,H7.out.2.1,H7.out.1,H7.out.2.2⟩
  | false =>
   rw[hbad] at d3
   cases hi:jO W s' (str [125]) with
   | true =>
    rw[F6 (by rw[hbad,hi];rfl)] at hgo
    subst hgo
    rw[hi] at hI
    generalize ak W [str [125]] s'=sm' at *
    simp only[str] at hM hI
    have HM':=ae hM
    have HI':=ae hI
    clear hM hI hfit La hxl hle vV hbd0 hbad hi HF HS' hP hL hB HI
    go_wp2_with (fail)
    refine HI'.out.mono ?_
    rintro e w4 ⟨rfl,Jf,hB4⟩
    have hb4:But (fun _=>False) wr w4:=But.of_below hB4
    have H4:=ae (And.intro Jf (And.intro (H.out.2.1.keep hb4 (fun _ h=>h.elim)) (H.out.2.2.trans hb4 (fun _ h=>h.elim))))
    clear Jf hB4 hb4
    go_wp2_with (fail)
    refine(HM'.out _ H4.out.1).mono ?_
    rintro e w6 ⟨rfl,Uh,vS⟩
    have hz:=Hz.out
    have hL6:=H4.out.2.1.keep vS (fun k hk=>by rcases hk with e|e<;>omega)
    have H6:=ae (And.intro Uh (And.intro hL6 (H4.out.2.2.trans vS (fun i hi=>.inl (by rcases hi with e|e;exact .inl e;exact .inr (.inl e))))))
    clear Uh vS hL6 hz
    go_wp2_with (fail)
    refine(HL.out _ _ H6.out.1).mono ?_
    rintro e w7 ⟨rfl,Ir,uz⟩
    have hz:=Hz.out
    have hL7:=H6.out.2.1.keep uz (fun k hk=>by rcases hk with e|e<;>omega)
    have wu:=H6.out.2.2.trans uz (fun i hi=>.inl (by rcases hi with e|e;exact .inl e;exact .inr (.inl e)))
    have rM:But (fV gp gc) w w7:=(But.refl (fV gp gc) w).trans wu (fun i hi=>by rcases hi with e|e|e;exact .inl (.inl e);exact .inl (.inr e);exact .inr e)
    have H7:=ae (And.intro Ir (And.intro hL7.list rM))
    clear Ir uz hL7 wu rM hz
    go_wp2
    go_ret
    exact⟨A,_,c,D,rfl,H7.out.2.1,H7.out.1,H7.out.2.2⟩
   | false =>
    obtain⟨k,rfl⟩:∃ k',k=k'+1:=by
     rcases hfit with e|e
     ·rw[hbad] at e;cases e
     ·exact⟨k-1,by omega⟩
    have hf1:1≤f:=by
     rcases La with e|e
     ·rw[hbad] at e;cases e
     ·omega
    rw[KZ,if_pos (by rw[hbad,hi];rfl)] at hgo
    rw[hi] at hI
    simp only[str] at hI
    have hup:=Hup.out s'
    have hst:=fun w2 hW=>HS.out s' w2 hW La hf1
    have hxl:=hxl hbad
    have abK:2*(W.l.length-(one s').2.at_)+(if (one s').2.bad then 0 else 1)<2*(W.l.length-s'.at_)+(if s'.bad then 0 else 1)∨W.l.length<(one s').2.at_:=by
     rw[hbad]
     rcases hup.2 with e|e
     ·rw[e]
      have:=hup.1.1
      simp
      omega
     ·rcases Nat.lt_or_ge W.l.length (one s').2.at_ with h|h
      ·exact .inr h
      ·left
       simp only[Bool.false_eq_true,if_false]
       split<;>omega
    have rY:Fit W k (one s').2∧Fit W f (one s').2∧((one s').2.bad=false→(xs++[(one s').1]).length≤(one s').2.at_):=by
     have e1:W.l.length<s'.at_+(k+1):=hfit.elim (fun e=>by rw[hbad] at e;cases e) id
     refine⟨?_,La.ge hup.1,fun e=>?_⟩
     ·rcases hup.2 with e|e
      ·exact .inl e
      ·exact .inr (by omega)
     ·rcases hup.2 with e2|e2
      ·rw[e] at e2;cases e2
      ·simp;omega
    generalize one s'=r at *
    obtain⟨x,sx⟩:=r
    simp only at hgo hup hst abK rY
    have J6:=ae hst
    have HI':=ae hI
    have Hgo:=ae hgo
    have ale:=ae abK
    have DT:=ae rY
    have H0:=ae (And.intro vV hbd0)
    have Hxl:=ae (And.intro hxl hle)
    clear hM hI hfit La hxl hle vV hbd0 hbad hi HF HS' hP hL hB HI hst hgo abK rY hup
    go_wp2_with (fail)
    refine HI'.out.mono ?_
    rintro e w4 ⟨rfl,Jf,hB4⟩
    have hb4:But (fun _=>False) wr w4:=But.of_below hB4
    have H4:=ae (And.intro Jf (And.intro (H.out.2.1.keep hb4 (fun _ h=>h.elim)) (H.out.2.2.trans hb4 (fun _ h=>h.elim))))
    clear Jf hB4 hb4
    go_wp2_with (fail)
    refine(J6.out _ H4.out.1).mono ?_
    rintro e w5 ⟨row,D5,rfl,hx,pz,iP⟩
    obtain⟨Ac,nc,cc,Ae,ne,ce,Ab,nb,cb,Al,nl,cl,rfl⟩:=vH hx
    have hz:=Hz.out
    have hn4:=H4.out.2.2.size
    have hs5:=iP.size
    have hL5:=H4.out.2.1.keep iP (fun k hk=>by rcases hk with e|e<;>omega)
    have jI:=(Below.refl w5.heap.size w5).alloc (Nat.le_refl _) (.cells #[.int .i64 x.op,.string x.name,.string x.src,.int .i64 x.n,.slice Ac nc cc,.slice Ae ne ce,.slice Ab nb cb,.slice Al nl cl] 49)
    have hown5:=own_below hL5.own jI
    have hnew:az (w5.alloc (.cells #[.int .i64 x.op,.string x.name,.string x.src,.int .i64 x.n,.slice Ac nc cc,.slice Ae ne ce,.slice Ab nb cb,.slice Al nl cl] 49)) 8 (some ⟨w5.heap.size,0,none⟩) 1 1 [[.int .i64 x.op,.string x.name,.string x.src,.int .i64 x.n,.slice Ac nc cc,.slice Ae ne ce,.slice Ab nb cb,.slice Al nl cl]]:=az.nG _ _ 1 rfl rfl (by simp) rfl (by unfold maxLen;omega)
    have hmx:xs.length+1≤maxLen:=by have:=Hxl.out;have:=QH.out;unfold maxLen;omega
    have hby:(xs.length+1)*144≤140737488355328:=by have:=Hxl.out;have:=QH.out;omega
    have hba:w.heap.size≤(w5.alloc (.cells #[.int .i64 x.op,.string x.name,.string x.src,.int .i64 x.n,.slice Ac nc cc,.slice Ae ne ce,.slice Ab nb cb,.slice Al nl cl] 49)).heap.size:=by simp;omega
    have HP5:=ae (And.intro pz (And.intro iP hx))
    have ahC:=ae jI
    have anY:=ae hnew
    have alf:=ae hown5
    have um:=ae (And.intro hmx (And.intro hby (And.intro hba hn4)))
    clear pz iP hx jI hL5 hown5 hnew hmx hby hba hz hn4 hs5
    go_wp2_with (at_builtin;refine gy (base:=w.heap.size) (xs:=rows) (news:=[[.int .i64 x.op,.string x.name,.string x.src,.int .i64 x.n,.slice Ac nc cc,.slice Ae ne ce,.slice Ab nb cb,.slice Al nl cl]]) rfl rfl alc rfl alf.out rfl anY.out (by simp) (by simp[Value.oneCell']) um.out.1 um.out.2.1 um.out.2.2.1 ?_;intro A6 c6 w6 hown6 dS FM)
    have hpush:=jJ.push H4.out.2.1 Hz.out um.out.2.2.2 HP5.out.2.1 HP5.out.2.2 HP5.out.1 ahC.out hown6 dS FM
    have hm6:2*(W.l.length-oP w6 gc)+QQ w6 gp<2*(W.l.length-oP wr gc)+QQ wr gp:=by
     rw[iQ hpush.1,QR hpush.1,H0.out.1,H0.out.2]
     rcases ale.out with e|e
     ·exact e
     ·exact absurd hpush.1.le (by omega)
    have H6:=ae (And.intro hpush (H4.out.2.2.trans hpush.2.2 (fun i hi=>.inl hi)))
    have Hm6:=ae hm6
    clear hown6 dS FM hpush hm6
    go_wp2
    go_roundw
    case rel=>exact⟨sx,xs++[x],k,A6,c6,by simp,H6.out.1.1,⟨_,_,H6.out.1.2.1⟩,H6.out.2,Hgo,DT⟩
    case measure=>exact Hm6.out
theorem Nq (gp gc gw:Nat) (W:aV) (hW:W.l.length≤1000000):∀ f,Uy gp gc gw W f:=by
 intro f
 induction f with
 | zero=>intro s w _ _ h;omega
 | succ f ih=>exact Uz gp gc gw W hW f (XG gp gc gw W f ih)
theorem QS (gp gc gw:Nat) (W:aV) (hW:W.l.length≤1000000) (s:au) (w:World) (h:aW gp gc gw W s w):Calls Tryz.prog 54 #[.pointer (some ⟨gp,0,none⟩)] w (abE gp gc gw W (zS W s).2 (zS W s).1 w) :=
 Nq gp gc gw W hW W.fuel s w h (DU W s) (by unfold aV.fuel;omega)
theorem alg:kC Tryz.prog 22 67 2 24 (.agg #[.string ByteArray.empty,.int .i64 0]):=⟨Tryz.underlying22,by kernel_rfl,rfl,by decide⟩
abbrev zg (p:Co):List Value:=[.string p.name,.int .i64 p.kind]
theorem abL (ps:List Co):∀ r∈ps.map zg,r.length=2:=by
 intro r hr
 obtain⟨p,_,rfl⟩:=List.mem_map.1 hr
 rfl
structure gY (n0 gl:Nat) (w:World) (nm:ByteArray) (A:Option Addr) (c:Nat) (ps:List Co):Prop where
 blk:af w gl 30 #[.string nm,.string ⟨#[]⟩,.string ⟨#[]⟩,.int .i64 100,.slice A ps.length c,.slice none 0 0]
 own:w.ownsRow n0 67 2 (.slice A ps.length c) ps.length (ps.map zg).flatten
 ok:∀ p∈ps,okS p.name∧okI p.kind
section
variable {gp gc gw gl gb n0:Nat} {W:aV} {s':au} {w w' w5 Wc w6:World} {nm:ByteArray} {A:Option Addr} {c:Nat} {ps:List Co}
theorem gY.low (h:gY n0 gl w nm A c ps):∀ k,A.map (·.block)=some k→n0≤k∧k<w.heap.size:=by
 intro k hk
 cases A with
 | none=>cases hk
 | some a =>
  have e:a.block=k:=by simpa using hk
  subst e
  exact h.own.lt a.block rfl
theorem gY.pO (h:gY n0 gl w nm A c ps) (hb:But (fV gp gc) w w5) (hg:gp<n0∧gc<n0∧gl≠gp∧gl≠gc):gY n0 gl w5 nm A c ps :=
 ⟨h.blk.ag (hb.block _ h.blk.lt (by rintro(e|e);exact hg.2.2.1 e;exact hg.2.2.2 e)),eP h.own hb (fun g hg2 hs=>by have:=(h.own.lt g hg2).1;rcases hs with e|e<;>omega),h.ok⟩
theorem gY.list (h:gY n0 gl w nm A c ps):ai (fun b=>n0≤b) w 2 rO A ps.length c ps :=
 ⟨ps.map zg,az.kS h.own (abL ps) (by simp),fun a ha _=>(h.low a.block (by rw[ha];rfl)).1,by simp,fun k r x hr hx=>by
  rw[List.getElem?_map,hx] at hr
  simp only[Option.map_some,Option.some.injEq] at hr
  subst hr
  exact⟨rfl,rfl,h.ok x (List.mem_of_getElem? hx)⟩⟩
theorem gY.push {x:Co} (hl:gY n0 gl w nm A c ps) (hg:gp<n0∧gc<n0∧gw<n0∧gl≠gp∧gl≠gc) (hg2:gl≠gw∧gl<n0∧gb<n0∧gb≠gp∧gb≠gc∧gb≠gl) (hok:okS x.name∧okI x.kind)
  (hB:But (fV gp gc) w.drew w5) (hP:aW gp gc gw W s' w5) (hal:Below w5.heap.size w5 Wc) {A6:Option Addr} {c6:Nat} (hown:w6.ownsRow n0 67 2 (.slice A6 (ps.length+1) c6) (ps.length+1) (ps.map zg++[zg x]).flatten) (fE:But (fun k=>A.map (·.block)=some k) Wc w6) :
  af w6 gl 30 #[.string nm,.string ⟨#[]⟩,.string ⟨#[]⟩,.int .i64 100,.slice A ps.length c,.slice none 0 0]∧aW gp gc gw W s' (w6.setCell ⟨gl,4,none⟩ (.slice A6 (ps.length+1) c6))∧gY n0 gl (w6.setCell ⟨gl,4,none⟩ (.slice A6 (ps.length+1) c6)) nm A6 c6 (ps++[x])∧But (EF gp gc gl n0) w (w6.setCell ⟨gl,4,none⟩ (.slice A6 (ps.length+1) c6)):=by
 have hld:gY n0 gl w5 nm A c ps:=(hl.pO (gp:=gp) (gc:=gc) ((But.refl _ w).drew) ⟨hg.1,hg.2.1,hg.2.2.2⟩).pO hB ⟨hg.1,hg.2.1,hg.2.2.2⟩
 have hlow:=hld.low
 have hk6:=(hld.blk.ag (hal.block _ hld.blk.lt)).ag (fE.block _ (hld.blk.ag (hal.block _ hld.blk.lt)).lt (fun e=>by have:=hlow gl e;omega))
 have hbl:=(But.refl (fun k=>k=gl) w6).setCell (p:=⟨gl,4,none⟩) (.inl rfl) (.slice A6 (ps.length+1) c6)
 have e:(ps++[x]).length=ps.length+1:=by simp
 have e2:(ps++[x]).map zg=ps.map zg++[zg x]:=by simp
 refine⟨hk6,((hP.below hal).off fE (fun k hk=>by have:=hlow k hk;omega)).off hbl (fun k hk=>by omega),⟨?_,?_,?_⟩,?_⟩
 ·have:=hk6.stored 4 (.slice A6 (ps.length+1) c6)
  rw[e]
  simpa using this
 ·rw[e,e2]
  exact eP hown hbl (fun g2 hg2 e2=>by have:=(hown.lt g2 hg2).1;omega)
 ·intro y hy
  rcases List.mem_append.1 hy with hy|hy
  ·exact hl.ok y hy
  ·simp only[List.mem_singleton] at hy;subst hy;exact hok
 ·have h1:But (EF gp gc gl n0) w w5:=((But.refl (EF gp gc gl n0) w).drew).trans' (nz hB)
  exact((h1.trans' (But.of_below hal)).trans fE (fun i hi=>.inl (.inr (.inr (.inr (hlow i hi).1))))).trans hbl (fun i hi=>.inl (.inr (.inr (.inl hi))))
end
theorem aew (W:aV) (s:au):okI (vT W s).1:=by
 rw[Jy]
 repeat' split
 all_goals exact⟨by simp,by simp⟩
theorem XK (W:aV) (s:au):dO W s=(⟨(aS W s).1,(vT W (aS W s).2).1⟩,(vT W (aS W s).2).2):=rfl
theorem aex (W:aV) (s:au):Ge s (vT W s).2:=by
 rw[Jy]
 repeat' split
 all_goals first|exact ja W _ s|exact xR s
theorem JD (W:aV) (s:au):Ge s (dO W s).2:=(jK W s).trans (aex W _)
theorem UA (gp gc gw gl gb n0:Nat) (W:aV) (s:au) (w:World) (nm:ByteArray) (A:Option Addr) (c:Nat) (ps:List Co) (h:aW gp gc gw W s w) (hl:gY n0 gl w nm A c ps) (hb:af w gb 63 #[.pointer (some ⟨gp,0,none⟩)])
  (hg:gp<n0∧gc<n0∧gw<n0∧gl≠gp∧gl≠gc) (hg2:gl≠gw∧gl<n0∧gb<n0∧gb≠gp∧gb≠gc∧gb≠gl) (hn:n0≤w.heap.size) (hln:ps.length≤1000000000002) :
  Calls Tryz.prog 49 #[.pointer (some ⟨gb,0,none⟩),.pointer (some ⟨gl,0,none⟩)] w fun e w'=>e=.returned (.tuple #[])∧aW gp gc gw W (dO W s).2 w'∧(∃ A' c',gY n0 gl w' nm A' c' (ps++[(dO W s).1]))∧But (EF gp gc gl n0) w w':=by
 have hok:=And.intro (jW h s) (aew W (aS W s).2)
 rw[XK]
 have hnm:=lD gp gc gw W s w h
 generalize aS W s=a at *
 obtain⟨na,sa⟩:=a
 simp only at hok hnm ⊢
 have hkd:=fun w2 (hW:aW gp gc gw W sa w2)=>XF gp gc gw W sa w2 hW
 generalize vT W sa=b at *
 obtain⟨kd,sk⟩:=b
 simp only at hok hkd ⊢
 have c2:w.cell? ⟨gb,0,none⟩=some (.pointer (some ⟨gp,0,none⟩)):=by have:=hb.cell 0;simpa using this
 have l2:=hb.lt
 have Hnm:=ae hnm
 have Hkd:=ae hkd
 have zG:=ae hok
 have Hl:=ae hl
 have Hb:=ae hb
 have Hg:=ae hg
 have zV:=ae hg2
 have Hn:=ae hn
 have VD:=ae hln
 clear hnm hkd hok hl hb hg hg2 hn hln h
 go_enter Tryz.func49,Tryz.ntmps49
 go_wp2_with (fail)
 refine Hnm.out.mono ?_
 rintro e w2 ⟨rfl,hP2,hB2⟩
 have hl2:=Hl.out.pO hB2 ⟨Hg.out.1,Hg.out.2.1,Hg.out.2.2.2⟩
 have hb2:=Hb.out.ag (hB2.block _ Hb.out.lt (by have:=zV.out;rintro(e|e)<;>omega))
 have hd:aW gp gc gw W sa w2.drew:=hP2.below (Below.refl _ _).drew
 have hld:gY n0 gl w2.drew nm A c ps:=hl2.pO (gp:=gp) (gc:=gc) ((But.refl _ w2).drew) ⟨Hg.out.1,Hg.out.2.1,Hg.out.2.2.2⟩
 have hbd:af w2.drew gb 63 #[.pointer (some ⟨gp,0,none⟩)]:=hb2
 have hcl:∀ W2,But (fV gp gc) w2.drew W2→W2.cell? ⟨gl,4,none⟩=some (.slice A ps.length c)∧W2.cell? ⟨gb,0,none⟩=some (.pointer (some ⟨gp,0,none⟩))∧gl<W2.heap.size∧gb<W2.heap.size∧(∀ i,W2.frozen? ⟨gl,i,none⟩=false):=fun W2 hW=>by
  have k1:=hld.blk.ag (hW.block _ hld.blk.lt (by have:=Hg.out;rintro(e|e)<;>omega))
  have k2:=hbd.ag (hW.block _ hbd.lt (by have:=zV.out;rintro(e|e)<;>omega))
  obtain⟨a0,a1,a2,a3,a4,a5,al⟩:=aH k1
  have e2:=k2.cell 0
  simp at e2
  exact⟨a4,e2,k1.lt,k2.lt,k1.frozen⟩
 have hn2:n0≤w2.heap.size:=Nat.le_trans Hn.out hB2.size
 have FY:But (EF gp gc gl n0) w w2:=nz hB2
 obtain⟨b0,b1,b2,b3,b4,b5,bl⟩:=aH hl2.blk
 have c2:w2.cell? ⟨gb,0,none⟩=some (.pointer (some ⟨gp,0,none⟩)):=by have:=hb2.cell 0;simpa using this
 have l2:=hb2.lt
 have Hl2:=ae hl2
 have Hd:=ae hd
 have Hld:=ae hld
 have Hcl:=ae hcl
 have Hn2:=ae hn2
 have HBB:=ae FY
 have hz1:∀ r∈[zg ⟨na,kd⟩],r.length=2:=by simp
 have hz2:∀ r∈[zg ⟨na,kd⟩],∀ u∈r,u.oneCell'=true:=by
  intro r hr u hu
  simp only[List.mem_singleton] at hr
  subst hr
  simp only[List.mem_cons,List.not_mem_nil,or_false] at hu
  rcases hu with rfl|rfl<;>rfl
 have Sr:=ae hz1
 have Hz2:=ae hz2
 have hmx:ps.length+1≤maxLen:=by have:=VD.out;unfold maxLen;omega
 have hby:(ps.length+1)*24≤140737488355328:=by have:=VD.out;omega
 have QF:=ae (And.intro hmx hby)
 have hend:∀ (w5 Wc w6:World) (A6:Option Addr) (c6:Nat) (a:Act),But (fV gp gc) w2.drew w5→aW gp gc gw W sk w5→Below w5.heap.size w5 Wc→w6.ownsRow n0 67 2 (.slice A6 (ps.length+1) c6) (ps.length+1) (ps.map zg++[zg ⟨na,kd⟩]).flatten→But (fun k=>A.map (·.block)=some k) Wc w6→a.defers=[] →
   bodyPost Tryz.prog Tryz.f49 (fun e w'=>e=.returned (.tuple #[])∧aW gp gc gw W sk w'∧(∃ A' c',gY n0 gl w' nm A' c' (ps++[⟨na,kd⟩]))∧But (EF gp gc gl n0) w w') Exit.normal a (w6.setCell ⟨gl,4,none⟩ (.slice A6 (ps.length+1) c6)):=by
  intro w5 Wc w6 A6 c6 a iP pz jI hown6 dS hdef
  obtain⟨_,h1,h2,h3⟩:=gY.push (gb:=gb) Hl2.out Hg.out zV.out zG.out iP pz jI hown6 dS
  refine bodyPost_end (results_none rfl _ _ _) hdef ?_
  exact⟨rfl,h1,⟨_,_,h2⟩,HBB.out.trans' h3⟩
 have IG:=ae hend
 clear hP2 hB2 hl2 hb2 hd hld hbd hcl hn2 FY hz1 hz2 hmx hby hend
 go_upto_region 1 with (fail)
 go_region_law (first
  | (go_simp;go_at_call 50;refine(Hkd.out _ Hd.out).mono ?_;rintro e5 w5 ⟨rfl,pz,iP⟩;obtain⟨t1,t2,t3,t4,t5⟩:=Hcl.out _ iP;have hO5:=own_below (eP Hld.out.own iP (fun g hg e=>by (have h1:=(Hld.out.own.lt g hg).1;have:=Hg.out;rcases e with e|e<;>omega))) ((Below.refl w5.heap.size w5).alloc (Nat.le_refl _) (.cells (zg ⟨na,kd⟩).toArray 67));have jI:=(Below.refl w5.heap.size w5).alloc (Nat.le_refl _) (.cells (zg ⟨na,kd⟩).toArray 67))
  | (refine wZ (base:=n0) (xs:=ps.map zg) (news:=[zg ⟨na,kd⟩]) rfl rfl alg rfl (by with_reducible exact hO5) rfl (by exact az.nG _ _ 1 rfl rfl Sr.out rfl (by unfold maxLen;omega)) Sr.out Hz2.out QF.out.1 QF.out.2 (by (have:=Hn2.out;have h1:=iP.size;simp only[World.drew] at h1;simp;omega)) ?_;intro A6 c6 w6 hown6 dS FM;have hk6:=(gY.push (gb:=gb) Hl2.out Hg.out zV.out zG.out iP pz jI hown6 dS).1;obtain⟨u0,u1,u2,u3,u4,u5,ul⟩:=aH hk6;have f6:=hk6.frozen))
 all_goals
  with_reducible exact IG.out _ _ _ _ _ _ iP pz jI hown6 dS rfl
open Go.RowKit Go.Afx
theorem Nr (gp gc gw gl gb n0:Nat) (W:aV) (s:au) (w:World) (nm:ByteArray) (h:aW gp gc gw W s w) (hl:gY n0 gl w nm none 0 []) (hb:af w gb 63 #[.pointer (some ⟨gp,0,none⟩)])
  (hg:gp<n0∧gc<n0∧gw<n0∧gl≠gp∧gl≠gc) (hg2:gl≠gw∧gl<n0∧gb<n0∧gb≠gp∧gb≠gc∧gb≠gl) (hn:n0≤w.heap.size) :
  Calls Tryz.prog 48 #[.pointer (some ⟨gp,0,none⟩),.func (.func 49) #[] #[.pointer (some ⟨gb,0,none⟩),.pointer (some ⟨gl,0,none⟩)]] w fun e w'=>e=.returned (.tuple #[])∧aW gp gc gw W (iE W (dO W) s).2 w'∧(∃ A' c',gY n0 gl w' nm A' c' (iE W (dO W) s).1)∧But (EF gp gc gl n0) w w':=by
 have hmax:=h.cu.max
 have J6:=ae (fun s' w2 A c xs (hW:aW gp gc gw W s' w2) (hL:gY n0 gl w2 nm A c xs) (hB:But (EF gp gc gl n0) w w2) (hln:xs.length≤1000000000001) =>
  UA gp gc gw gl gb n0 W s' w2 nm A c xs hW hL (hb.ag (hB.block _ hb.lt (by rintro(e|e|e|e)<;>omega))) hg hg2 (Nat.le_trans hn hB.size) (by omega))
 have gB:=ae (fun s' w2 (hW:aW gp gc gw W s' w2)=>gX gp gc gw W s' (str [44]) w2 hW)
 have hfin:iE W (dO W) s=jC W (dO W) (W.l.length+1) [(dO W s).1] (dO W s).2:=rfl
 generalize iE W (dO W) s=fin at *
 have bn:=ae hfin
 have H0:=ae (And.intro h hl)
 have Hg:=ae (And.intro hg hg2)
 have QH:=ae hmax
 clear h hl hb hg hg2 hn hfin hmax
 go_enter Tryz.func48,Tryz.ntmps48
 go_wp2_with (fail)
 refine(J6.out s w none 0 [] H0.out.1 H0.out.2 (But.refl _ _) (by simp)).mono ?_
 rintro e w2 ⟨rfl,hP,hL,hB⟩
 have H2:=ae (And.intro hP (And.intro hL hB))
 clear hP hL hB
 go_wp2
 go_loopw [] (fun wr=>∃ (s':au) (xs:List Co) (k:Nat),aW gp gc gw W s' wr∧(∃ A' c',gY n0 gl wr nm A' c' xs)∧But (EF gp gc gl n0) w wr∧Hid (fin=jC W (dO W) k xs s')∧Hid (Fit W k s'∧1≤k∧xs.length≤s'.at_+1)) (fun wr=>W.l.length-oP wr gc)
 case atStart=>exact⟨_,_,_,H2.out.1,H2.out.2.1,H2.out.2.2,bn,ae ⟨.inr (by omega),by omega,by simp⟩⟩
 case round =>
  obtain⟨s',xs,k,hP,hL,hB,HF,HS⟩:=hrel
  obtain⟨hfit,hk1,hxl⟩:=HS.out
  obtain⟨k,rfl⟩:∃ k',k=k'+1:=⟨k-1,by omega⟩
  have hle:=hP.le
  have vV:=iQ hP
  have abt:=ae vV
  have hm:=gB.out s' wr hP
  have hgo:=HF.out
  rw[Jo] at hgo
  have H:=ae (And.intro hP (And.intro hL hB))
  have Hle:=ae (And.intro hfit (And.intro hxl hle))
  rcases bC W (str [44]) s' with hc|⟨hc,hbad,hat⟩
  ·rw[hc] at hm hgo
   simp only[Bool.false_eq_true,if_false] at hgo
   subst hgo
   simp only[str] at hm
   have Hm:=ae hm
   clear hm hc hP hL hB hfit hk1 hxl hle vV
   go_wp2_with (fail)
   refine Hm.out.mono ?_
   rintro e3 w3 ⟨rfl,hP,hB⟩
   have hB3:=H.out.2.2.trans' (nz (gl:=gl) (n0:=n0) hB)
   obtain⟨A,c,hL⟩:=H.out.2.1
   have hL3:=hL.pO hB ⟨Hg.out.1.1,Hg.out.1.2.1,Hg.out.1.2.2.2⟩
   have H3:=ae (And.intro hP (And.intro (⟨A,c,hL3⟩:∃ A' c',gY n0 gl w3 nm A' c' xs) hB3))
   clear hP hB hB3 hL hL3
   go_wp2
   refine bodyPost_end (results_none rfl _ _ _) rfl ?_
   exact⟨rfl,H3.out.1,H3.out.2.1,H3.out.2.2⟩
  ·rw[hc] at hm hgo
   simp only[if_true] at hgo
   simp only[str] at hm
   have Hm:=ae hm
   have Hgo:=ae hgo
   have TV:=ae (And.intro hbad hat)
   clear hm hc hP hL hB hfit hk1 hxl hle vV hgo hbad hat
   go_wp2_with (fail)
   refine Hm.out.mono ?_
   rintro e3 w3 ⟨rfl,hP,hB⟩
   have hB3:=H.out.2.2.trans' (nz (gl:=gl) (n0:=n0) hB)
   obtain⟨A,c,hL⟩:=H.out.2.1
   have hL3:=hL.pO hB ⟨Hg.out.1.1,Hg.out.1.2.1,Hg.out.1.2.2.2⟩
   have Hs:=ae (J6.out s'.on w3 A c xs hP hL3 hB3 (by have:=Hle.out;have:=QH.out;omega))
   have HB3:=ae hB3
   clear hP hB hB3 hL hL3
   go_wp2_with (fail)
   refine Hs.out.mono ?_
   rintro e4 w4 ⟨rfl,hP,hL,hB⟩
   have hup:=JD W s'.on
   have hm4:W.l.length-oP w4 gc<W.l.length-oP wr gc:=by
    rw[iQ hP,abt.out]
    have h1:=hup.1
    have h2:s'.on.at_=s'.at_+1:=rfl
    have:=TV.out.2
    omega
   have F5:Fit W k (dO W s'.on).2∧1≤k∧(xs++[(dO W s'.on).1]).length≤(dO W s'.on).2.at_+1:=by
    have h1:=hup.1
    have h2:s'.on.at_=s'.at_+1:=rfl
    have h3:=Hle.out
    have h4:W.l.length<s'.at_+(k+1):=h3.1.elim (fun e=>by rw[TV.out.1] at e;cases e) id
    have h5:=TV.out.2
    refine⟨(Fit.on h3.1).ge hup,by omega,?_⟩
    simp
    omega
   have H4:=ae (And.intro hP (And.intro hL (HB3.out.trans' hB)))
   have Hm4:=ae hm4
   have Hf4:=ae F5
   clear hP hL hB hup hm4 F5
   go_wp2
   go_roundw
   case rel=>exact⟨_,_,k,H4.out.1,H4.out.2.1,H4.out.2.2,Hgo,Hf4⟩
   case measure=>exact Hm4.out
def tZ (W:aV) (s:au):List Co×au:=if jO W s (str [41]) then ([],s) else iE W (dO W) s
def oW (W:aV) (s:au):(ByteArray×ByteArray)×au :=
 if (ay W (str [111,110]) s).1 then ((nil0,(aS W (ay W (str [111,110]) s).2).1),(aS W (ay W (str [111,110]) s).2).2)
 else if (ay W (str [102,114,111,109]) s).1 then (((aS W (ay W (str [102,114,111,109]) s).2).1,nil0),(aS W (ay W (str [102,114,111,109]) s).2).2)
 else ((nil0,nil0),s)
theorem JE (W:aV) (s:au):uM W s=if (ay W (str [102,117,101,108]) s).1 then (min (mP W (ay W (str [102,117,101,108]) s).2).1 2001,(mP W (ay W (str [102,117,101,108]) s).2).2) else (100,s):=rfl
theorem JF (W:aV) (s:au):jT W s =
    (⟨(aS W (ak W [str [112,114,111,99]] s)).1,(oW W (dw (ak W [str [41]] (tZ W (aG (ak W [str [40]] (aS W (ak W [str [112,114,111,99]] s)).2))).2))).1.1,(oW W (dw (ak W [str [41]] (tZ W (aG (ak W [str [40]] (aS W (ak W [str [112,114,111,99]] s)).2))).2))).1.2,
      (uM W (oW W (dw (ak W [str [41]] (tZ W (aG (ak W [str [40]] (aS W (ak W [str [112,114,111,99]] s)).2))).2))).2).1,(tZ W (aG (ak W [str [40]] (aS W (ak W [str [112,114,111,99]] s)).2))).1,
      (zS W (uM W (oW W (dw (ak W [str [41]] (tZ W (aG (ak W [str [40]] (aS W (ak W [str [112,114,111,99]] s)).2))).2))).2).2).1⟩,
     (zS W (uM W (oW W (dw (ak W [str [41]] (tZ W (aG (ak W [str [40]] (aS W (ak W [str [112,114,111,99]] s)).2))).2))).2).2).2):=by
  unfold jT tZ
  simp only
  generalize aS W (ak W [str [112,114,111,99]] s)=a
  generalize aG (ak W [str [40]] a.2)=s1
  generalize (if jO W s1 (str [41])=true then ([],s1) else iE W (dO W) s1:List Co×au)=l
  generalize dw (ak W [str [41]] l.2)=s2
  unfold oW
  generalize ay W (str [111,110]) s2=m1
  generalize ay W (str [102,114,111,109]) s2=m2
  obtain⟨b1,t1⟩:=m1
  obtain⟨b2,t2⟩:=m2
  cases b1<;>cases b2<;>rfl
def abM (gp gc gw:Nat) (W:aV) (s':au) (x:Pr) (w:World) (e:Ending) (w':World):Prop:=∃ row D,e=.returned (.agg row.toArray)∧lH (Fr w) D w' row x∧aW gp gc gw W s' w'∧But (fV gp gc) w w'
abbrev Ea:Array Value:=#[.string ⟨#[]⟩,.string ⟨#[]⟩,.string ⟨#[]⟩,.int .i64 0,.slice none 0 0,.slice none 0 0]
structure J3 (gp gc gw gb gr gx:Nat) (W:aV) (s:au) (w wr:World) (nm src part:ByteArray) (fu:Int) (A:Option Addr) (c:Nat) (ps:List Co):Prop where
 p:aW gp gc gw W s wr
 b:But (fV gp gc) w wr
 kb:af wr gb 63 #[.pointer (some ⟨gp,0,none⟩)]
 kr:af wr gr 30 Ea
 kx:af wr gx 30 #[.string nm,.string src,.string part,.int .i64 fu,.slice A ps.length c,.slice none 0 0]
 ls:ai (fun b=>gx<b) wr 2 rO A ps.length c ps
 ne:gp<gb∧gc<gb∧gw<gb∧gb<gr∧gr<gx∧gb=w.heap.size
section
variable {gp gc gw gb gr gx:Nat} {W:aV} {s s':au} {w wr w8:World} {nm src part:ByteArray} {fu:Int} {A:Option Addr} {c:Nat} {ps:List Co}
theorem J3.pO (h:J3 gp gc gw gb gr gx W s w wr nm src part fu A c ps) (hP:aW gp gc gw W s' w8) (hB:But (fV gp gc) wr w8):J3 gp gc gw gb gr gx W s' w w8 nm src part fu A c ps :=
 ⟨hP,h.b.trans' hB,ah h.kb hB (by have:=h.ne;omega),ah h.kr hB (by have:=h.ne;omega),ah h.kx hB (by have:=h.ne;omega),
  ai.kept h.ls (fK hB (fun k hk=>by have:=h.ne;omega)),h.ne⟩
theorem J3.turned {src' part':ByteArray} {fu':Int} (h:J3 gp gc gw gb gr gx W s w wr nm src part fu A c ps) (hB:But (fun k=>k=gx) wr w8) (hk:af w8 gx 30 #[.string nm,.string src',.string part',.int .i64 fu',.slice A ps.length c,.slice none 0 0]):J3 gp gc gw gb gr gx W s w w8 nm src' part' fu' A c ps:=by
 have hn:=h.ne
 exact⟨h.p.elsewhere hB (by omega),h.b.trans hB (fun i hi=>.inr (by omega)),h.kb.ag (hB.block _ h.kb.lt (by omega)),h.kr.ag (hB.block _ h.kr.lt (by omega)),hk,
  ai.kept h.ls (Kept.aN hB fun k hk e=>by omega),hn⟩
theorem J3.TD (h:J3 gp gc gw gb gr gx W s w wr nm src part fu A c ps) (x:ByteArray):J3 gp gc gw gb gr gx W s w (wr.setCell ⟨gx,1,none⟩ (.string x)) nm x part fu A c ps :=
 h.turned ((But.refl (fun k=>k=gx) wr).setCell (p:=⟨gx,1,none⟩) (.inl rfl) _) (h.kx.stored 1 (.string x))
theorem J3.aaX (h:J3 gp gc gw gb gr gx W s w wr nm src part fu A c ps) (x:ByteArray):J3 gp gc gw gb gr gx W s w (wr.setCell ⟨gx,2,none⟩ (.string x)) nm src x fu A c ps :=
 h.turned ((But.refl (fun k=>k=gx) wr).setCell (p:=⟨gx,2,none⟩) (.inl rfl) _) (h.kx.stored 2 (.string x))
theorem J3.abN (h:J3 gp gc gw gb gr gx W s w wr nm src part fu A c ps) (x:Int):J3 gp gc gw gb gr gx W s w (wr.setCell ⟨gx,3,none⟩ (.int .i64 x)) nm src part x A c ps :=
 h.turned ((But.refl (fun k=>k=gx) wr).setCell (p:=⟨gx,3,none⟩) (.inl rfl) _) (h.kx.stored 3 (.int .i64 x))
theorem J3.listed {fin:List Co} {A':Option Addr} {c':Nat} (h:J3 gp gc gw gb gr gx W s w wr nm ⟨#[]⟩ ⟨#[]⟩ 100 none 0 []) (hP:aW gp gc gw W s' w8) (hL:gY (gx+1) gx w8 nm A' c' fin) (hB:But (EF gp gc gx (gx+1)) wr w8):J3 gp gc gw gb gr gx W s' w w8 nm ⟨#[]⟩ ⟨#[]⟩ 100 A' c' fin:=by
 have hn:=h.ne
 refine⟨hP,h.b.trans hB (fun i hi=>?_),h.kb.ag (hB.block _ h.kb.lt ?_),h.kr.ag (hB.block _ h.kr.lt ?_),hL.blk,ai.conv hL.list (Kept.refl _ _) (fun a _ _ h=>h) (fun r x _ hx=>hx),hn⟩
 ·rcases hi with e|e|e|e
  ·exact .inl (.inl e)
  ·exact .inl (.inr e)
  ·exact .inr (by omega)
  ·exact .inr (by omega)
 ·rintro(e|e|e|e)<;>omega
 ·rintro(e|e|e|e)<;>omega
end
theorem J3.out {gp gc gw gb gr gx:Nat} {W:aV} {s s':au} {w wr w8:World} {nm src part:ByteArray} {fu:Int} {A:Option Addr} {c:Nat} {ps:List Co} {D:Nat} {Ab:Option Addr} {nb cb:Nat} {bl:List St}
  (h:J3 gp gc gw gb gr gx W s w wr nm src part fu A c ps) (hok:okS nm∧okS src∧okS part∧okI fu) (hx:aP (Fr wr) D w8 Ab nb cb bl) (hP:aW gp gc gw W s' w8) (hB:But (fV gp gc) wr w8) :
  af w8 gx 30 #[.string nm,.string src,.string part,.int .i64 fu,.slice A ps.length c,.slice none 0 0] ∧
  af (w8.setCell ⟨gx,5,none⟩ (.slice Ab nb cb)) gx 30 #[.string nm,.string src,.string part,.int .i64 fu,.slice A ps.length c,.slice Ab nb cb] ∧
  af (w8.setCell ⟨gx,5,none⟩ (.slice Ab nb cb)) gr 30 Ea ∧
  af (uJ (w8.setCell ⟨gx,5,none⟩ (.slice Ab nb cb)) gr (.string nm) (.string src) (.string part) (.int .i64 fu) (.slice A ps.length c) (.slice Ab nb cb)) gr 30 #[.string nm,.string src,.string part,.int .i64 fu,.slice A ps.length c,.slice Ab nb cb] ∧
  abM gp gc gw W s' ⟨nm,src,part,fu,ps,bl⟩ w (.returned (.agg #[.string nm,.string src,.string part,.int .i64 fu,.slice A ps.length c,.slice Ab nb cb])) (uJ (w8.setCell ⟨gx,5,none⟩ (.slice Ab nb cb)) gr (.string nm) (.string src) (.string part) (.int .i64 fu) (.slice A ps.length c) (.slice Ab nb cb)):=by
 have hn:=h.ne
 have h8:=h.pO hP hB
 have hgx:=h.kx.lt
 have hb5:=(But.refl (fun k=>k=gx) w8).setCell (p:=⟨gx,5,none⟩) (.inl rfl) (.slice Ab nb cb)
 have hk5:af (w8.setCell ⟨gx,5,none⟩ (.slice Ab nb cb)) gx 30 #[.string nm,.string src,.string part,.int .i64 fu,.slice A ps.length c,.slice Ab nb cb]:=h8.kx.stored 5 _
 have hk4:=h8.kr.ag (hb5.block _ h8.kr.lt (by omega))
 have hls:=ai.kept h8.ls (Kept.aN hb5 fun k hk e=>by omega)
 have hxs:=aP.kept hx (Kept.aN hb5 fun k (hk:wr.heap.size≤k) e=>by omega)
 have pz:=hP.elsewhere hb5 (by omega)
 have iP:=h8.b.trans hb5 (fun i hi=>.inr (by omega))
 generalize w8.setCell ⟨gx,5,none⟩ (.slice Ab nb cb)=w5 at *
 have hb7:=fP w5 gr (.string nm) (.string src) (.string part) (.int .i64 fu) (.slice A ps.length c) (.slice Ab nb cb)
 refine⟨h8.kx,hk5,hk4,fO _ _ _ _ _ _ hk4,_,D,rfl,⟨hok.1,hok.2.1,hok.2.2.1,hok.2.2.2,A,ps.length,c,Ab,nb,cb,rfl,?_,?_⟩,pz.elsewhere hb7 (by omega),iP.trans hb7 (fun i hi=>.inr (by omega))⟩
 ·exact ai.conv hls (Kept.aN hb7 fun k hk e=>by omega) (fun a _ _ h=>by show w.heap.size≤_;omega) (fun r x _ hx=>hx)
 ·exact aP.conv (fun k (hk:wr.heap.size≤k)=>by show w.heap.size≤k;omega) (Kept.aN hb7 fun k (hk:wr.heap.size≤k) e=>by omega) (Nat.le_refl D) hxs
end Go.Proofs.YtjjfkhbajidmdaaGreatDoor

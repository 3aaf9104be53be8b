/- Parts of this proof, one behind the other: ParN2, ParN3, ParW. -/
import Derived.Test.YtjjfkhbajidmdaaGreatDoorPb31
set_option maxRecDepth 1000000
set_option maxHeartbeats 40000000
namespace Go.Proofs.YtjjfkhbajidmdaaGreatDoor
open Go.RowKit Go.Afx
theorem aep (W:aV) (s:au):kY W s=(((aS W s).1,(aZ W (ak W [str [61]] (aS W s).2)).1),(aZ W (ak W [str [61]] (aS W s).2)).2):=rfl
structure Nh (gp gc gw gl gb n0:Nat) (W:aV) (s':au) (w:World) (nm sc:ByteArray) (A:Option Addr) (c:Nat) (rows:List (List Value)) (D:Nat) (ns:List ByteArray) (xs:List Ex) (wr:World):Prop where
 p:aW gp gc gw W s' wr
 o:∃ Ac cc,dI n0 gl wr nm sc Ac cc A c rows D ns xs
 b:But (EF gp gc gl n0) w wr
 k:af wr gb 63 #[.pointer (some ⟨gp,0,none⟩)]
theorem Nh.of {gp gc gw gl gb n0:Nat} {W:aV} {s':au} {w w5 Wc w6:World} {nm sc a:ByteArray} {Ac:Option Addr} {cc:Nat} {A:Option Addr} {c:Nat} {rows:List (List Value)} {D:Nat} {ns:List ByteArray} {xs:List Ex} {A6:Option Addr} {c6:Nat}
  (hl:dI n0 gl w nm sc Ac cc A c rows D ns xs) (hb:af w gb 63 #[.pointer (some ⟨gp,0,none⟩)]) (hg:gp<n0∧gc<n0∧gw<n0∧gl≠gp∧gl≠gc) (hg2:gl≠gw∧gl<n0∧gb<n0∧gb≠gp∧gb≠gc∧gb≠gl) (hok:okS a)
  (hB:But (fV gp gc) w.drew w5) (hP:aW gp gc gw W s' w5) (hal:Below w5.heap.size w5 Wc) (hown:w6.ownsRow n0 9 1 (.slice A6 (ns.length+1) c6) (ns.length+1) (ns.map pR++[pR a]).flatten) (fE:But (fun k=>Ac.map (·.block)=some k) Wc w6) (hf:∀ a2,A6=some a2→Ac=some a2∨Wc.heap.size≤a2.block) :
  (af w6 gl 49 #[.int .i64 4,.string nm,.string sc,.int .i64 0,.slice Ac ns.length cc,.slice A xs.length c,.slice none 0 0,.slice none 0 0]∧af w6 gb 63 #[.pointer (some ⟨gp,0,none⟩)]) ∧
  Nh gp gc gw gl gb n0 W s' w nm sc A c rows D (ns++[a]) xs (w6.setCell ⟨gl,4,none⟩ (.slice A6 (ns.length+1) c6)):=by
 have hld:dI n0 gl w5 nm sc Ac cc A c rows D ns xs:=(hl.pO (gp:=gp) (gc:=gc) ((But.refl _ w).drew) ⟨hg.1,hg.2.1,hg.2.2.2⟩).pO hB ⟨hg.1,hg.2.1,hg.2.2.2⟩
 have hb5:af w5 gb 63 #[.pointer (some ⟨gp,0,none⟩)]:=af.ag hb (hB.block gb (by have:=hb.lt;simpa using this) (by rintro(e|e);exact hg2.2.2.2.1 e;exact hg2.2.2.2.2.1 e))
 have hlow:=hld.aeo
 obtain⟨a6,rfl,r1,hk6,hS6⟩:=hld.named hok hg2.2.1 hal hown fE hf
 have hb6:=(hb5.ag (hal.block _ hb5.lt)).ag (fE.block _ (hb5.ag (hal.block _ hb5.lt)).lt (fun e=>by have:=hlow _ e;omega))
 have hbl:=(But.refl (fun k=>k=gl) w6).setCell (p:=⟨gl,4,none⟩) (.inl rfl) (.slice (some a6) (ns.length+1) c6)
 refine⟨⟨hk6,hb6⟩,((hP.below hal).off fE (fun k hk=>by have:=hlow k hk;omega)).off hbl (fun k hk=>by omega),⟨_,_,hS6⟩,?_,hb6.ag (hbl.block _ hb6.lt (by have:=hg2.2.2.2.2.2;omega))⟩
 have h1:But (EF gp gc gl n0) w w5:=((But.refl (EF gp gc gl n0) w).drew).trans' (nz hB)
 exact((h1.trans' (But.of_below hal)).trans fE (fun i hi=>.inl (.inr (.inr (.inr (hlow i hi).1))))).trans hbl (fun i hi=>.inl (.inr (.inr (.inl hi))))
theorem dI.grown {gp gc gw gl gb n0:Nat} {W:aV} {s':au} {w w5 Wc w6:World} {nm sc:ByteArray} {Ac:Option Addr} {cc:Nat} {A:Option Addr} {c:Nat} {rows:List (List Value)} {D D5:Nat} {ns:List ByteArray} {xs:List Ex} {x:Ex} {A5:Option Addr} {m5 c5 g6 c6:Nat}
  (hl:dI n0 gl w nm sc Ac cc A c rows D ns xs) (hg:gp<n0∧gc<n0∧gw<n0∧gl≠gp∧gl≠gc) (hg2:gl≠gw∧gl<n0∧gb<n0∧gb≠gp∧gb≠gc∧gb≠gl) (hn:n0≤w.heap.size)
  (hB:But (fV gp gc) w.drew w5) (hx:aC (Fr w.drew) D5 w5 [.int .i64 x.op,.int .i64 x.n,.string x.s,.string x.name,.string x.src,.slice A5 m5 c5] x) (hP:aW gp gc gw W s' w5) (hal:Below w5.heap.size w5 Wc) (hown:w6.ownsRow n0 55 6 (.slice (some ⟨g6,0,none⟩) (xs.length+1) c6) (xs.length+1) (rows++[sD]).flatten) (fE:But (fun k=>A.map (·.block)=some k) Wc w6) (hf:∀ a2,(some ⟨g6,0,none⟩:Option Addr)=some a2→A=some a2∨Wc.heap.size≤a2.block) (h6:n0≤g6) :
  aW gp gc gw W s' ((jU w6 g6 (xs.length*6) (.int .i64 x.op) (.int .i64 x.n) (.string x.s) (.string x.name) (.string x.src) (.slice A5 m5 c5)).setCell ⟨gl,5,none⟩ (.slice (some ⟨g6,0,none⟩) (xs.length+1) c6)) ∧
  (∃ Kv cc' A' c' rows' D',dI n0 gl ((jU w6 g6 (xs.length*6) (.int .i64 x.op) (.int .i64 x.n) (.string x.s) (.string x.name) (.string x.src) (.slice A5 m5 c5)).setCell ⟨gl,5,none⟩ (.slice (some ⟨g6,0,none⟩) (xs.length+1) c6)) nm sc Kv cc' A' c' rows' D' ns (xs++[x])) ∧
  But (EF gp gc gl n0) w ((jU w6 g6 (xs.length*6) (.int .i64 x.op) (.int .i64 x.n) (.string x.s) (.string x.name) (.string x.src) (.slice A5 m5 c5)).setCell ⟨gl,5,none⟩ (.slice (some ⟨g6,0,none⟩) (xs.length+1) c6)):=by
 have hld:dI n0 gl w.drew nm sc Ac cc A c rows D ns xs:=hl.pO (gp:=gp) (gc:=gc) ((But.refl _ w).drew) ⟨hg.1,hg.2.1,hg.2.2.2⟩
 have agB:=hld.row.low
 have ak4:=hld.aeo
 have hn2:n0≤w.drew.heap.size:=hn
 have hl5:=hld.pO hB ⟨hg.1,hg.2.1,hg.2.2.2⟩
 have hk5:=hl5.blk
 have hk6:=(hk5.ag (hal.block _ hk5.lt)).ag (fE.block _ (hk5.ag (hal.block _ hk5.lt)).lt (fun e=>by have:=agB _ e;omega))
 have hG:=Nc.of hld.row ⟨hg.1,hg.2.1,hg.2.2.1⟩ hn2 (fun k hk=>(ak4 k hk).2) hB hx hP hal hown fE hf
 have hE:=uN.grown (j:=5) hG hk6 ⟨hg.1,hg.2.1,hg.2.2.1,hg.2.2.2.1,hg.2.2.2.2,hg2.1,hg2.2.1⟩ hld.row.wid hld.row.len h6
 obtain⟨hp,⟨rows',hr⟩,hk,hb⟩:=hE
 have hoc:=eP hld.QK hb (fun g hg3 e=>by
  have h1:=hld.QK.lt g hg3
  have h2:Ac.map (·.block)=some g:=by
   cases Ac with
   | none=>cases hg3
   | some a=>exact hg3
  rcases e with e|e|e|e
  ·omega
  ·omega
  ·omega
  ·exact hld.row.off g h2 e)
 refine⟨hp,⟨Ac,cc,_,_,rows',_,⟨?_,hoc,hld.okc,hr⟩⟩,((But.refl (EF gp gc gl n0) w).drew).trans hb (fun i hi=>.inl (by rcases hi with e|e|e|e;exact .inl e;exact .inr (.inl e);exact .inr (.inr (.inl e));exact .inr (.inr (.inr (agB i e).1))))⟩
 have e:(xs++[x]).length=xs.length+1:=by simp
 rw[e]
 simpa using hk
theorem abx (gp gc gw gl gb n0:Nat) (W:aV) (s:au) (w:World) (nm sc:ByteArray) (Ac:Option Addr) (cc:Nat) (A:Option Addr) (c D:Nat) (rows:List (List Value)) (ns:List ByteArray) (xs:List Ex) (h:aW gp gc gw W s w) (hl:dI n0 gl w nm sc Ac cc A c rows D ns xs) (hb:af w gb 63 #[.pointer (some ⟨gp,0,none⟩)])
  (hg:gp<n0∧gc<n0∧gw<n0∧gl≠gp∧gl≠gc) (hg2:gl≠gw∧gl<n0∧gb<n0∧gb≠gp∧gb≠gc∧gb≠gl) (hn:n0≤w.heap.size) (hln:xs.length≤1000000000002∧ns.length≤1000000000002) :
  Calls Tryz.prog 168 #[.pointer (some ⟨gl,0,none⟩),.pointer (some ⟨gb,0,none⟩)] w fun e w'=>e=.returned (.tuple #[])∧aW gp gc gw W (kY W s).2 w'∧(∃ Kv cc' A' c' rows' D',dI n0 gl w' nm sc Kv cc' A' c' rows' D' (ns++[(kY W s).1.1]) (xs++[(kY W s).1.2]))∧But (EF gp gc gl n0) w w':=by
 have hd:aW gp gc gw W s w.drew:=h.below (Below.refl _ _).drew
 have hld:dI n0 gl w.drew nm sc Ac cc A c rows D ns xs:=hl.pO (gp:=gp) (gc:=gc) ((But.refl _ w).drew) ⟨hg.1,hg.2.1,hg.2.2.2⟩
 have hbd:af w.drew gb 63 #[.pointer (some ⟨gp,0,none⟩)]:=hb
 obtain⟨b0,b1,b2,b3,b4,b5,b6,b7,bl⟩:=bW hl.blk
 have c2:w.cell? ⟨gb,0,none⟩=some (.pointer (some ⟨gp,0,none⟩)):=by have:=hb.cell 0;simpa using this
 have l2:=hb.lt
 have hok:=jW h s
 have Hnm:=ae (fun w2 (hW:aW gp gc gw W s w2)=>lD gp gc gw W s w2 hW)
 have hfin:=aep W s
 generalize kY W s=fin at *
 generalize aS W s=a at *
 obtain⟨na,sa⟩:=a
 have Hnm:Hid (∀ w2,aW gp gc gw W s w2→Calls Tryz.prog 45 #[.pointer (some ⟨gp,0,none⟩)] w2 fun e w'=>e=.returned (.string na)∧aW gp gc gw W sa w'∧But (fV gp gc) w2 w'):=ae Hnm.out
 have hmu:=fun g w2 (hW:aW gp gc gw W sa w2) (hg:g=w2.heap.size)=>dR gp gc gw g W sa (str [61]) w2 hW hg
 simp only at hfin hok
 generalize ak W [str [61]] sa=sm at *
 simp only[str] at hmu
 have hex:=fun w2 (hW:aW gp gc gw W sm w2)=>rZ gp gc gw W sm w2 hW
 generalize aZ W sm=b at *
 obtain⟨x,sx⟩:=b
 simp only at hfin
 have Hex:Hid (∀ w2,aW gp gc gw W sm w2→Calls Tryz.prog 126 #[.pointer (some ⟨gp,0,none⟩)] w2 (jv gp gc gw W sx x w2)):=ae hex
 have Xu:=ae hmu
 have bn:=ae hfin
 have Hd:=ae hd
 have Hl:=ae hl
 have Hld:=ae hld
 have Hb:=ae hb
 have Hg:=ae hg
 have zV:=ae hg2
 have Hn:=ae hn
 have VD:=ae hln
 have zG:=ae hok
 have hcl:∀ W2,But (fV gp gc) w.drew W2→W2.cell? ⟨gl,4,none⟩=some (.slice Ac ns.length cc)∧W2.cell? ⟨gb,0,none⟩=some (.pointer (some ⟨gp,0,none⟩))∧gl<W2.heap.size∧gb<W2.heap.size∧(∀ i,W2.frozen? ⟨gl,i,none⟩=false):=fun W2 hW=>by
  have k1:=hld.blk.ag (hW.block _ hld.blk.lt (by rintro(e|e);exact hg.2.2.2.1 e;exact hg.2.2.2.2 e))
  have k2:=hbd.ag (hW.block _ hbd.lt (by rintro(e|e);exact hg2.2.2.2.1 e;exact hg2.2.2.2.2.1 e))
  obtain⟨a0,a1,a2,a3,a4,a5,a6,a7,al⟩:=bW k1
  have e2:=k2.cell 0
  simp at e2
  exact⟨a4,e2,k1.lt,k2.lt,k1.frozen⟩
 have Hcl:=ae hcl
 have hz1:∀ r∈[pR na],r.length=1:=by simp
 have hz2:∀ r∈[pR na],∀ u∈r,u.oneCell'=true:=by
  intro r hr u hu
  simp only[List.mem_singleton] at hr
  subst hr
  simp only[List.mem_singleton] at hu
  subst hu
  rfl
 have Sr:=ae hz1
 have Hz2:=ae hz2
 have hmx:ns.length+1≤maxLen:=by have:=hln.2;unfold maxLen;omega
 have hby:(ns.length+1)*16≤140737488355328:=by have:=hln.2;omega
 have QF:=ae (And.intro hmx hby)
 clear hd hld hbd hg hg2 hn hln h hl hb hcl hz1 hz2 hmx hby hok hmu hex hfin
 go_enter Tryz.func168,Tryz.ntmps168
 go_upto_region 0 with (fail)
 go_cut [] (fun wr=>Nh gp gc gw gl gb n0 W sa w nm sc A c rows D (ns++[na]) xs wr)
 case first =>
  go_region_law (first
   | (go_simp;go_at_call 45;refine(Hnm.out _ Hd.out).mono ?_;rintro e5 w5 ⟨rfl,pz,iP⟩;obtain⟨t1,t2,t3,t4,t5⟩:=Hcl.out _ iP;have hO5:=own_below (eP Hld.out.QK iP (fun g hg e=>by (have h1:=(Hld.out.QK.lt g hg).1;have:=Hg.out;rcases e with e|e<;>omega))) ((Below.refl w5.heap.size w5).alloc (Nat.le_refl _) (.cells (pR na).toArray 9));have jI:=(Below.refl w5.heap.size w5).alloc (Nat.le_refl _) (.cells (pR na).toArray 9))
   | (refine wZ (base:=n0) (xs:=ns.map pR) (news:=[pR na]) rfl rfl ak3 rfl (by with_reducible exact hO5) rfl (by exact az.nG _ _ 1 rfl rfl Sr.out rfl (by unfold maxLen;omega)) Sr.out Hz2.out QF.out.1 QF.out.2 (by (have:=Hn.out;have h1:=iP.size;simp only[World.drew] at h1;simp;omega)) ?_;intro A6 c6 w6 hown6 dS FM;obtain⟨⟨hk6,hb6⟩,hN6⟩:=Nh.of Hl.out Hb.out Hg.out zV.out zG.out iP pz jI hown6 dS FM;obtain⟨u0,u1,u2,u3,u4,u5,u6,u7,ul⟩:=bW hk6;have f6:=hk6.frozen))
  all_goals
   go_wp2
   go_meet
   exact hN6
 case rest =>
  obtain⟨hP2,⟨yX,yY,hS2⟩,hB2,hk2⟩:=hcut
  have d2:=hk2.cell 0
  have d3:=hk2.lt
  simp only[List.getElem?_toArray,List.getElem?_cons_zero] at d2
  have H2:=ae (And.intro hP2 (And.intro hS2 (And.intro hB2 hk2)))
  clear hP2 hS2 hB2 hk2
  go_wp2_with (fail)
  refine(Xu.out _ _ H2.out.1 rfl).mono ?_
  rintro e w4 ⟨rfl,Jf,hB4⟩
  have hl4:=H2.out.2.1.pO hB4 ⟨Hg.out.1,Hg.out.2.1,Hg.out.2.2.2⟩
  have hb4:=H2.out.2.2.2.ag (hB4.block _ H2.out.2.2.2.lt (by rintro(e|e);exact zV.out.2.2.2.1 e;exact zV.out.2.2.2.2.1 e))
  have FY:=H2.out.2.2.1.trans' (nz (gl:=gl) (n0:=n0) hB4)
  have hn4:n0≤w4.heap.size:=Nat.le_trans Hn.out FY.size
  have hd4:aW gp gc gw W sm w4.drew:=Jf.below (Below.refl _ _).drew
  have ak5:dI n0 gl w4.drew nm sc yX yY A c rows D (ns++[na]) xs:=hl4.pO (gp:=gp) (gc:=gc) ((But.refl _ w4).drew) ⟨Hg.out.1,Hg.out.2.1,Hg.out.2.2.2⟩
  have ak6:af w4.drew gb 63 #[.pointer (some ⟨gp,0,none⟩)]:=hb4
  clear b0 b1 b2 b3 b4 b5 b6 b7 bl c2 l2 d2 d3
  obtain⟨b0,b1,b2,b3,b4,b5,b6,b7,bl⟩:=bW hl4.blk
  have c2:w4.cell? ⟨gb,0,none⟩=some (.pointer (some ⟨gp,0,none⟩)):=by have:=hb4.cell 0;simpa using this
  have l2:=hb4.lt
  have hal:=(Below.refl w4.drew.heap.size w4.drew).alloc (Nat.le_refl _) (.cells sD.toArray 55)
  have Hd4:=ae hd4
  have zJ:=ae hl4
  have Nj:=ae ak5
  have aeq:=ae ak6
  have KX:=ae hal
  have Hn4:=ae hn4
  have HBB:=ae FY
  clear hd4 hl4 ak5 ak6 hb4 hal hn4 FY hB4 Jf
  have hcl:∀ W2,But (fV gp gc) w4.drew W2→W2.cell? ⟨gl,5,none⟩=some (.slice A xs.length c)∧W2.cell? ⟨gb,0,none⟩=some (.pointer (some ⟨gp,0,none⟩))∧gl<W2.heap.size∧gb<W2.heap.size∧(∀ i,W2.frozen? ⟨gl,i,none⟩=false):=fun W2 hW=>by
   have k1:=Nj.out.blk.ag (hW.block _ Nj.out.blk.lt (by rintro(e|e);exact Hg.out.2.2.2.1 e;exact Hg.out.2.2.2.2 e))
   have k2:=aeq.out.ag (hW.block _ aeq.out.lt (by rintro(e|e);exact zV.out.2.2.2.1 e;exact zV.out.2.2.2.2.1 e))
   obtain⟨a0,a1,a2,a3,a4,a5,a6,a7,al⟩:=bW k1
   have e2:=k2.cell 0
   simp at e2
   exact⟨a5,e2,k1.lt,k2.lt,k1.frozen⟩
  have anQ:=ae hcl
  have Um:=Nj.out.row.wid
  have hrl:=Nj.out.row.len
  have Uo:=ae (And.intro Um hrl)
  clear Um hrl
  have hd1:aW gp gc gw W sm (w4.drew.alloc (.cells sD.toArray 55)):=Hd4.out.below KX.out
  have Hd1:=ae hd1
  have hn0:az (w4.drew.alloc (.cells sD.toArray 55)) 6 (some ⟨w4.heap.size,0,none⟩) 1 1 [sD]:=az.nG _ _ 1 rfl rfl (by simp) rfl (by unfold maxLen;omega)
  have HN0:=ae hn0
  have hz1:∀ r∈[sD],r.length=6:=by simp
  have hz2:∀ r∈[sD],∀ u∈r,u.oneCell'=true:=by
   intro r hr u hu
   simp only[List.mem_singleton] at hr
   subst hr
   simp only[List.mem_cons,List.not_mem_nil,or_false] at hu
   rcases hu with rfl|rfl|rfl|rfl|rfl|rfl<;>rfl
  have Il:=ae hz1
  have Hz4:=ae hz2
  have hmx:xs.length+1≤maxLen:=by have:=VD.out.1;unfold maxLen;omega
  have hby:(xs.length+1)*88≤140737488355328:=by have:=VD.out.1;omega
  have ak7:=ae (And.intro hmx hby)
  have hgz:gp<w4.heap.size∧gc<w4.heap.size:=by have:=Hg.out;have:=Hn4.out;omega
  have Hgz:=ae hgz
  have hbx:∀ w5 Wc w6,But (fV gp gc) w4.drew w5→Below w5.heap.size w5 Wc→But (fun k=>A.map (·.block)=some k) Wc w6→w6.cell? ⟨gl,5,none⟩=some (.slice A xs.length c)∧w6.cell? ⟨gb,0,none⟩=some (.pointer (some ⟨gp,0,none⟩))∧gl<w6.heap.size∧gb<w6.heap.size∧(∀ i,w6.frozen? ⟨gl,i,none⟩=false):=fun w5 Wc w6 hB hal fE=>by
   have hlow:=Nj.out.row.low
   have k1:=Nj.out.blk.ag (hB.block _ Nj.out.blk.lt (by rintro(e|e);exact Hg.out.2.2.2.1 e;exact Hg.out.2.2.2.2 e))
   have k2:=aeq.out.ag (hB.block _ aeq.out.lt (by rintro(e|e);exact zV.out.2.2.2.1 e;exact zV.out.2.2.2.2.1 e))
   have k3:=k1.ag (hal.block _ k1.lt)
   have k4:=k2.ag (hal.block _ k2.lt)
   have k5:=k3.ag (fE.block _ k3.lt (fun e=>by have:=hlow _ e;have:=zV.out;omega))
   have k6:=k4.ag (fE.block _ k4.lt (fun e=>by have:=hlow _ e;have:=zV.out;omega))
   obtain⟨a0,a1,a2,a3,a4,a5,a6,a7,al⟩:=bW k5
   have e2:=k6.cell 0
   simp at e2
   exact⟨a5,e2,k5.lt,k6.lt,k5.frozen⟩
  have ahU:=ae hbx
  clear hbx
  have hni:(xs.length:Int)<(xs.length:Int)+1:=by omega
  have hng:gl≠gb:=fun e=>zV.out.2.2.2.2.2 e.symm
  have hend:∀ (w5 Wc w6:World) (D5:Nat) (A5:Option Addr) (m5 c5 g6 c6:Nat) (a:Act),But (fV gp gc) w4.drew w5→aC (Fr w4.drew) D5 w5 [.int .i64 x.op,.int .i64 x.n,.string x.s,.string x.name,.string x.src,.slice A5 m5 c5] x→aW gp gc gw W sx w5→Below w5.heap.size w5 Wc →
    w6.ownsRow n0 55 6 (.slice (some ⟨g6,0,none⟩) (xs.length+1) c6) (xs.length+1) (rows++[sD]).flatten→But (fun k=>A.map (·.block)=some k) Wc w6→(∀ a2,(some ⟨g6,0,none⟩:Option Addr)=some a2→A=some a2∨Wc.heap.size≤a2.block)→n0≤g6→a.defers=[] →
    bodyPost Tryz.prog Tryz.f168 (fun e w'=>e=.returned (.tuple #[])∧aW gp gc gw W fin.2 w'∧(∃ Kv cc' A' c' rows' D',dI n0 gl w' nm sc Kv cc' A' c' rows' D' (ns++[fin.1.1]) (xs++[fin.1.2]))∧But (EF gp gc gl n0) w w') Exit.normal a (((((((w6.setCell ⟨g6,xs.length*6,none⟩ (.int .i64 x.op)).setCell ⟨g6,xs.length*6+1,none⟩ (.int .i64 x.n)).setCell ⟨g6,xs.length*6+2,none⟩ (.string x.s)).setCell ⟨g6,xs.length*6+3,none⟩ (.string x.name)).setCell ⟨g6,xs.length*6+4,none⟩ (.string x.src)).setCell ⟨g6,xs.length*6+5,none⟩ (.slice A5 m5 c5)).setCell ⟨gl,5,none⟩ (.slice (some ⟨g6,0,none⟩) (xs.length+1) c6)):=by
   intro w5 Wc w6 D5 A5 m5 c5 g6 c6 a iP hx5 pz jI hown6 dS FM r1 hdef
   have hend:=dI.grown zJ.out Hg.out zV.out Hn4.out iP hx5 pz jI hown6 dS FM r1
   rw[KW]
   refine bodyPost_end (results_none rfl _ _ _) hdef ?_
   rw[bn.out]
   exact⟨rfl,hend.1,hend.2.1,HBB.out.trans' hend.2.2⟩
  have IG:=ae hend
  clear hend
  clear hcl hd1 hn0 hz1 hz2 hmx hby hgz
  go_upto_region 2 with (fail)
  go_region_law (first
   | (go_simp;go_at_call 126;refine(Hex.out _ (by first|with_reducible exact Hd4.out|exact Hd1.out)).mono ?_;rintro e5 w5 ⟨Ub,D5,rfl,hx5,pz,iP⟩;have Jn:But (fV gp gc) w4.drew w5:=(by first|with_reducible exact iP|exact(But.of_below KX.out).trans' iP);have ahV:aC (Fr w4.drew) D5 w5 Ub x:=(by first|with_reducible exact hx5|exact aC.conv (fun k hk=>Nat.le_trans KX.out.size hk) (Kept.refl _ _) D5 (Nat.le_refl _) hx5);obtain⟨A5,m5,c5,rfl⟩:=bP hx5;obtain⟨t1,t2,t3,t4,t5⟩:=anQ.out _ Jn;have hO5:=eP Nj.out.row.own Jn (fun g hg e=>by (have h1:=(Nj.out.row.own.lt g hg).1;have:=Hg.out;rcases e with e|e<;>omega));have jI:=(Below.refl w5.heap.size w5).alloc (Nat.le_refl _) (.cells sD.toArray 55))
   | (refine wZ (base:=n0) (xs:=rows) (news:=[sD]) rfl rfl abb rfl (by first|with_reducible exact hO5|exact own_below hO5 jI) rfl (by first|exact az.nG _ _ 1 rfl rfl Il.out rfl (by unfold maxLen;omega)|exact az.but HN0.out iP (fun a ha _ hs=>by (cases ha;have:=Hgz.out;rcases hs with e|e<;>(simp only at e;omega)))) Il.out Hz4.out ak7.out.1 ak7.out.2 (by (have:=Hn4.out;have h1:=Jn.size;first|(simp only[World.drew] at h1;omega)|(simp only[World.drew] at h1;simp;omega))) ?_;intro A6 c6 w6 hown6 dS FM;obtain⟨g6,rfl,r1,r2,r3,r4,r5,r6,r7,r8,r9,r10⟩:=QD hown6 Uo.out.1 Uo.out.2;obtain⟨u1,u2,u3,u4,u5⟩:=ahU.out _ _ _ Jn (by first|with_reducible exact jI|exact Below.refl _ _) dS;have e1:g6≠gl:=(by (have:=zV.out;omega));have e2:gl≠g6:=(by (have:=zV.out;omega))))
  all_goals
   try rw[XC e1]
   with_reducible exact IG.out _ _ _ _ _ _ _ _ _ _ Jn ahV pz (by first|with_reducible exact jI|exact Below.refl _ _) hown6 dS FM r1 rfl
theorem Nk (W:aV) (s:au):Ge s (kY W s).2:=(jK W s).trans ((bY W _ _).trans (dJ W _))
theorem Ut (gp gc gw gl gb n0:Nat) (W:aV) (s:au) (w:World) (nm sc:ByteArray) (A0:Option Addr) (c0 D0:Nat) (VX:List (List Value)) (a0:Ex) (h:aW gp gc gw W s w) (hl:dI n0 gl w nm sc none 0 A0 c0 VX D0 [] [a0]) (hb:af w gb 63 #[.pointer (some ⟨gp,0,none⟩)])
  (hg:gp<n0∧gc<n0∧gw<n0∧gl≠gp∧gl≠gc) (hg2:gl≠gw∧gl<n0∧gb<n0∧gb≠gp∧gb≠gc∧gb≠gl) (hn:n0≤w.heap.size) :
  Calls Tryz.prog 48 #[.pointer (some ⟨gp,0,none⟩),.func (.func 168) #[] #[.pointer (some ⟨gl,0,none⟩),.pointer (some ⟨gb,0,none⟩)]] w fun e w'=>e=.returned (.tuple #[])∧aW gp gc gw W (iE W (kY W) s).2 w'∧(∃ Kv cc' A' c' rows' D',dI n0 gl w' nm sc Kv cc' A' c' rows' D' ((iE W (kY W) s).1.map (·.1)) (a0::(iE W (kY W) s).1.map (·.2)))∧But (EF gp gc gl n0) w w':=by
 have hmax:=h.cu.max
 have J6:=ae (fun s' w2 Ac cc A c D rows ns xs (hW:aW gp gc gw W s' w2) (hL:dI n0 gl w2 nm sc Ac cc A c rows D ns xs) (hB:But (EF gp gc gl n0) w w2) (hln:xs.length≤1000000000002∧ns.length≤1000000000002) =>
  abx gp gc gw gl gb n0 W s' w2 nm sc Ac cc A c D rows ns xs hW hL (hb.ag (hB.block _ hb.lt (by rintro(e|e|e|e)<;>omega))) hg hg2 (Nat.le_trans hn hB.size) hln)
 have gB:=ae (fun s' w2 (hW:aW gp gc gw W s' w2)=>gX gp gc gw W s' (str [44]) w2 hW)
 have hfin:iE W (kY W) s=jC W (kY W) (W.l.length+1) [(kY W s).1] (kY W s).2:=rfl
 generalize iE W (kY W) s=fin at *
 have bn:=ae hfin
 have H0:=ae (And.intro h hl)
 have Hg:=ae (And.intro hg hg2)
 have QH:=ae hmax
 clear h hl hb hg hg2 hn hfin hmax
 go_enter Tryz.func48,Tryz.ntmps48
 go_wp2_with (fail)
 refine(J6.out s w none 0 A0 c0 D0 VX [] [a0] H0.out.1 H0.out.2 (But.refl _ _) (by simp)).mono ?_
 rintro e w2 ⟨rfl,hP,hL,hB⟩
 have H2:=ae (And.intro hP (And.intro hL hB))
 clear hP hL hB
 go_wp2
 go_loopw [] (fun wr=>∃ (s':au) (xs:List (ByteArray×Ex)) (k:Nat),aW gp gc gw W s' wr∧(∃ Kv cc' A' c' rows' D',dI n0 gl wr nm sc Kv cc' A' c' rows' D' (xs.map (·.1)) (a0::xs.map (·.2)))∧But (EF gp gc gl n0) w wr∧Hid (fin=jC W (kY W) k xs s')∧Hid (Fit W k s'∧1≤k∧xs.length≤s'.at_+1)) (fun wr=>W.l.length-oP wr gc)
 case atStart=>exact⟨_,[(kY W s).1],_,H2.out.1,H2.out.2.1,H2.out.2.2,bn,ae ⟨.inr (by omega),by omega,by simp⟩⟩
 case round =>
  obtain⟨s',xs,k,hP,hL,hB,HF,HS⟩:=hrel
  obtain⟨hfit,hk1,hxl⟩:=HS.out
  obtain⟨k,rfl⟩:∃ k',k=k'+1:=⟨k-1,by omega⟩
  have hle:=hP.le
  have vV:=iQ hP
  have abt:=ae vV
  have hm:=gB.out s' wr hP
  have hgo:=HF.out
  rw[Jo] at hgo
  have H:=ae (And.intro hP (And.intro hL hB))
  have Hle:=ae (And.intro hfit (And.intro hxl hle))
  rcases bC W (str [44]) s' with hc|⟨hc,hbad,hat⟩
  ·rw[hc] at hm hgo
   simp only[Bool.false_eq_true,if_false] at hgo
   subst hgo
   simp only[str] at hm
   have Hm:=ae hm
   clear hm hc hP hL hB hfit hk1 hxl hle vV
   go_wp2_with (fail)
   refine Hm.out.mono ?_
   rintro e3 w3 ⟨rfl,hP,hB⟩
   have hB3:=H.out.2.2.trans' (nz (gl:=gl) (n0:=n0) hB)
   obtain⟨Ac,cc,A,c,rows,D,hL⟩:=H.out.2.1
   have hL3:=hL.pO hB ⟨Hg.out.1.1,Hg.out.1.2.1,Hg.out.1.2.2.2⟩
   have H3:=ae (And.intro hP (And.intro (⟨Ac,cc,A,c,rows,D,hL3⟩:∃ Kv cc' A' c' rows' D',dI n0 gl w3 nm sc Kv cc' A' c' rows' D' (xs.map (·.1)) (a0::xs.map (·.2))) hB3))
   clear hP hB hB3 hL hL3
   go_wp2
   refine bodyPost_end (results_none rfl _ _ _) rfl ?_
   exact⟨rfl,H3.out.1,H3.out.2.1,H3.out.2.2⟩
  ·rw[hc] at hm hgo
   simp only[if_true] at hgo
   simp only[str] at hm
   have Hm:=ae hm
   have Hgo:=ae hgo
   have TV:=ae (And.intro hbad hat)
   clear hm hc hP hL hB hfit hk1 hxl hle vV hgo hbad hat
   go_wp2_with (fail)
   refine Hm.out.mono ?_
   rintro e3 w3 ⟨rfl,hP,hB⟩
   have hB3:=H.out.2.2.trans' (nz (gl:=gl) (n0:=n0) hB)
   obtain⟨Ac,cc,A,c,rows,D,hL⟩:=H.out.2.1
   have hL3:=hL.pO hB ⟨Hg.out.1.1,Hg.out.1.2.1,Hg.out.1.2.2.2⟩
   have Hs:=ae (J6.out s'.on w3 Ac cc A c D rows _ _ hP hL3 hB3 (by have:=Hle.out;have:=QH.out;simp;omega))
   have HB3:=ae hB3
   clear hP hB hB3 hL hL3
   go_wp2_with (fail)
   refine Hs.out.mono ?_
   rintro e4 w4 ⟨rfl,hP,hL,hB⟩
   have hup:=Nk W s'.on
   obtain⟨Kv,cc',A',c',rows',D',hL⟩:=hL
   have hL:∃ Kv cc' A' c' rows' D',dI n0 gl w4 nm sc Kv cc' A' c' rows' D' ((xs++[(kY W s'.on).1]).map (·.1)) (a0::(xs++[(kY W s'.on).1]).map (·.2)):=⟨Kv,cc',A',c',rows',D',by simpa using hL⟩
   have hm4:W.l.length-oP w4 gc<W.l.length-oP wr gc:=by
    rw[iQ hP,abt.out]
    have h1:=hup.1
    have h2:s'.on.at_=s'.at_+1:=rfl
    have:=TV.out.2
    omega
   have F5:Fit W k (kY W s'.on).2∧1≤k∧(xs++[(kY W s'.on).1]).length≤(kY W s'.on).2.at_+1:=by
    have h1:=hup.1
    have h2:s'.on.at_=s'.at_+1:=rfl
    have h3:=Hle.out
    have h4:W.l.length<s'.at_+(k+1):=h3.1.elim (fun e=>by rw[TV.out.1] at e;cases e) id
    have h5:=TV.out.2
    refine⟨(Fit.on h3.1).ge hup,by omega,?_⟩
    simp
    omega
   have H4:=ae (And.intro hP (And.intro hL (HB3.out.trans' hB)))
   have Hm4:=ae hm4
   have Hf4:=ae F5
   clear hP hL hB hup hm4 F5
   go_wp2
   go_roundw
   case rel=>exact⟨_,_,k,H4.out.1,H4.out.2.1,H4.out.2.2,Hgo,Hf4⟩
   case measure=>exact Hm4.out
theorem dI.st {n0 gl:Nat} {w:World} {nm sc:ByteArray} {Ac:Option Addr} {cc:Nat} {A:Option Addr} {c:Nat} {rows:List (List Value)} {D:Nat} {ns:List ByteArray} {xs:List Ex} (h:dI n0 gl w nm sc Ac cc A c rows D ns xs) (hm:okS nm) (hs:okS sc) :
  bQ (fun b=>n0≤b) (D+1) w [.int .i64 4,.string nm,.string sc,.int .i64 0,.slice Ac ns.length cc,.slice A xs.length c,.slice none 0 0,.slice none 0 0] (.mk 4 nm sc 0 ns xs [] []):=by
 have hw:∀ r∈ns.map pR,r.length=1:=by
  intro r hr
  obtain⟨x,_,rfl⟩:=List.mem_map.1 hr
  rfl
 refine D6 (n:=0) (by decide) (by decide) xu hm hs ⟨ns.map pR,az.kS h.QK hw (by simp),fun a ha _=>(h.aeo _ (by rw[ha];rfl)).1,by simp,fun k r x hr hx=>?_⟩ ⟨rows,az.kS h.row.own h.row.wid h.row.len,fun a ha _=>(h.row.low _ (by rw[ha];rfl)).1,h.row.len,fun k r x hr hx=>⟨(h.row.at_ k r x hr hx).1,aC.conv (fun _ h=>h.1) (Kept.refl _ _) D (Nat.le_refl _) (h.row.at_ k r x hr hx).2⟩⟩ (gK _ _ _) (gK _ _ _)
 rw[List.getElem?_map,hx] at hr
 simp only[Option.map_some,Option.some.injEq] at hr
 subst hr
 exact⟨rfl,rfl,h.okc x (List.mem_of_getElem? hx)⟩
theorem dI.out {n0 gl:Nat} {w:World} {nm sc:ByteArray} {Ac:Option Addr} {cc:Nat} {A:Option Addr} {c:Nat} {rows:List (List Value)} {D:Nat} {ns:List ByteArray} {xs:List Ex} (h:dI n0 gl w nm sc Ac cc A c rows D ns xs) (hm:okS nm) (hs:okS sc) :
  ∃ nc ne,af w gl 49 #[.int .i64 4,.string nm,.string sc,.int .i64 0,.slice Ac nc cc,.slice A ne c,.slice none 0 0,.slice none 0 0]∧bQ (fun b=>n0≤b) (D+1) w [.int .i64 4,.string nm,.string sc,.int .i64 0,.slice Ac nc cc,.slice A ne c,.slice none 0 0,.slice none 0 0] (.mk 4 nm sc 0 ns xs [] []):=⟨_,_,h.blk,h.st hm hs⟩
theorem Jt (W:aV) (s:au):jX W s=(.mk 4 (bF W s).1.1 (bF W s).1.2 0 ((iE W (kY W) (ak W [str [115,101,116]] (bG W (aZ W) (bF W s).2).2)).1.map (·.1)) ((bG W (aZ W) (bF W s).2).1::(iE W (kY W) (ak W [str [115,101,116]] (bG W (aZ W) (bF W s).2).2)).1.map (·.2)) [] [],(iE W (kY W) (ak W [str [115,101,116]] (bG W (aZ W) (bF W s).2).2)).2):=rfl
theorem Ju {gp gc gw:Nat} {W:aV} {s:au} {w:World} (h:aW gp gc gw W s w) (s':au):okS (bF W s').1.1∧okS (bF W s').1.2:=⟨jW h _,jW h _⟩
theorem dI.first {w8:World} {gl n0 D:Nat} {nm sc:ByteArray} {ax:Ex} {A2:Option Addr} {m2 c2:Nat} {w7:World} (hx:aC (Fr w7) D w8 [.int .i64 ax.op,.int .i64 ax.n,.string ax.s,.string ax.name,.string ax.src,.slice A2 m2 c2] ax) (h7:n0≤w7.heap.size) (h78:w7.heap.size≤w8.heap.size) (hgl:gl<n0)
  (hk:af w8 gl 49 #[.int .i64 4,.string nm,.string sc,.int .i64 0,.slice none 0 0,.slice none 0 0,.slice none 0 0,.slice none 0 0]) :
  dI n0 gl ((w8.setCell ⟨gl,5,none⟩ (.slice (some ⟨w8.heap.size,0,none⟩) 1 1)).alloc (.cells #[.int .i64 ax.op,.int .i64 ax.n,.string ax.s,.string ax.name,.string ax.src,.slice A2 m2 c2] 55)) nm sc none 0 (some ⟨w8.heap.size,0,none⟩) 1 [[.int .i64 ax.op,.int .i64 ax.n,.string ax.s,.string ax.name,.string ax.src,.slice A2 m2 c2]] D [] [ax]:=by
 have hb8:=(But.refl (fun k=>k=gl) w8).setCell (p:=⟨gl,5,none⟩) (.inl rfl) (.slice (some ⟨w8.heap.size,0,none⟩) 1 1)
 have hk5:af _ gl 49 #[.int .i64 4,.string nm,.string sc,.int .i64 0,.slice none 0 0,.slice (some ⟨w8.heap.size,0,none⟩) 1 1,.slice none 0 0,.slice none 0 0]:=hk.stored 5 (.slice (some ⟨w8.heap.size,0,none⟩) 1 1)
 have hsz:(w8.setCell ⟨gl,5,none⟩ (.slice (some ⟨w8.heap.size,0,none⟩) 1 1)).heap.size=w8.heap.size:=by simp[World.setCell]
 have YE:=hx.kept (Kept.aN hb8 fun k (hk:w7.heap.size≤k) e=>by omega)
 generalize w8.setCell ⟨gl,5,none⟩ (.slice (some ⟨w8.heap.size,0,none⟩) 1 1)=w9 at *
 have hal:=(Below.refl w9.heap.size w9).alloc (Nat.le_refl _) (.cells #[.int .i64 ax.op,.int .i64 ax.n,.string ax.s,.string ax.name,.string ax.src,.slice A2 m2 c2] 55)
 have hown:(w9.alloc (.cells #[.int .i64 ax.op,.int .i64 ax.n,.string ax.s,.string ax.name,.string ax.src,.slice A2 m2 c2] 55)).ownsRow n0 55 6 (.slice (some ⟨w9.heap.size,0,none⟩) 1 1) 1 [[.int .i64 ax.op,.int .i64 ax.n,.string ax.s,.string ax.name,.string ax.src,.slice A2 m2 c2]].flatten:=World.ownsRow_lit (base:=n0) (e:=55) (size:=6) w9 #[.int .i64 ax.op,.int .i64 ax.n,.string ax.s,.string ax.name,.string ax.src,.slice A2 m2 c2] 1 (by omega) (by unfold maxLen;omega) rfl
 rw[hsz] at hown
 refine⟨hk5.alloc _,World.ownsRow_nil _ _ _ _,by simp,⟨hown,rfl,fun k r x hr hy=>?_,fun b hb=>by cases hb⟩⟩
 rcases k with _|k
 ·simp at hr hy
  subst hr hy
  refine⟨rfl,aC.turn (fun k hk (hf:w7.heap.size≤k)=>⟨by omega,fun e=>?_,fun e=>by cases e⟩) (Kept.of_below hal) D (Nat.le_refl _) YE⟩
  have:w8.heap.size=k:=by simpa using e
  omega
 ·simp at hr
theorem QL (gp gc gw:Nat) (W:aV) (s:au) (w:World) (h:aW gp gc gw W s w) :
  Calls Tryz.prog 149 #[.pointer (some ⟨gp,0,none⟩)] w (vG gp gc gw W (jX W s).2 (jX W s).1 w):=by
 have hz:=And.intro h.lt.1 (And.intro h.lt.2 h.wl)
 obtain⟨w1,Hw1⟩:∃ w1,Hid (w1=((w.alloc (.cells #[.pointer (some ⟨gp,0,none⟩)] 63)).alloc (.cells oV 49)).alloc (.cells #[.int .i64 4,.string ⟨#[]⟩,.string ⟨#[]⟩,.int .i64 0,.slice none 0 0,.slice none 0 0,.slice none 0 0,.slice none 0 0] 49)):=⟨_,rfl⟩
 have hb1:Below w.heap.size w w1:=by rw[Hw1.out];exact(((Below.refl _ _).alloc (Nat.le_refl _) _).alloc (by simp) _).alloc (by simp;omega) _
 have hkb:af w1 w.heap.size 63 #[.pointer (some ⟨gp,0,none⟩)]:=by rw[Hw1.out];exact((af.laid _ _ _).alloc _).alloc _
 have hk4:af w1 (w.heap.size+1) 49 oV:=by rw[Hw1.out];exact(jr (by simp)).alloc _
 have hk5:af w1 (w.heap.size+2) 49 #[.int .i64 4,.string ⟨#[]⟩,.string ⟨#[]⟩,.int .i64 0,.slice none 0 0,.slice none 0 0,.slice none 0 0,.slice none 0 0]:=by rw[Hw1.out];exact jr (by simp)
 have hsz:w1.heap.size=w.heap.size+3:=by rw[Hw1.out];simp
 have hr1:=xX gp gc gw W s w1 (h.below hb1)
 have hok:=Ju h s
 have hfin:=Jt W s
 generalize jX W s=fin at *
 generalize bF W s=r at *
 obtain⟨⟨nm,sc⟩,sr⟩:=r
 simp only at hfin hok hr1
 have hwh:=fun w2 (hW:aW gp gc gw W sr w2)=>xh gp gc gw W sr w2 hW
 generalize bG W (aZ W) sr=b at *
 obtain⟨ax,sa⟩:=b
 simp only at hfin hwh
 have hmu:=fun g w2 (hW:aW gp gc gw W sa w2) (hg:g=w2.heap.size)=>dR gp gc gw g W sa (str [115,101,116]) w2 hW hg
 generalize ak W [str [115,101,116]] sa=sm at *
 simp only[str] at hmu
 have hli:=fun gl gb n0 w2 A0 c0 D0 VX (hW:aW gp gc gw W sm w2)=>Ut gp gc gw gl gb n0 W sm w2 nm sc A0 c0 D0 VX ax hW
 generalize iE W (kY W) sm=l at *
 obtain⟨l,sl⟩:=l
 simp only at hfin hli
 generalize l.map (fun p:ByteArray×Ex=>p.1)=ns at *
 generalize l.map (fun p:ByteArray×Ex=>p.2)=xs at *
 have bn:=ae hfin
 have iG:=ae hr1
 have zG:=ae hok
 have Hwh:=ae hwh
 have Xu:=ae hmu
 have Hli:=ae hli
 have jM:=ae hsz
 have Hb1:=ae hb1
 have tK:=ae hk4
 have Hk5:=ae hk5
 have Z4:=ae hkb
 have Hz:=ae hz
 have d0:w1.cell? ⟨w.heap.size,0,none⟩=some (.pointer (some ⟨gp,0,none⟩)):=by have:=hkb.cell 0;simpa using this
 have dl:=hkb.lt
 clear hfin hr1 hok hwh hmu hli hsz hb1 hk4 hk5 hkb hz h
 go_enter Tryz.func149,Tryz.ntmps149
 go_upto_region 2 with (fail)
 rw[← Hw1.out]
 go_wp2_with (fail)
 refine iG.out.mono ?_
 rintro e w6 ⟨rfl,hP,hB⟩
 have DX:=ah Hk5.out hB (by have:=Hz.out;omega)
 have aby:=ah Z4.out hB (by have:=Hz.out;omega)
 have Js:=ah tK.out hB (by have:=Hz.out;omega)
 clear d0 dl
 have d0:w6.cell? ⟨w.heap.size,0,none⟩=some (.pointer (some ⟨gp,0,none⟩)):=by have:=aby.cell 0;simpa using this
 have dl:=aby.lt
 obtain⟨x0,x1,x2,x3,x4,x5,x6,x7,xl⟩:=bW DX
 have f36:=DX.frozen
 have hb7:=xe w6 (w.heap.size+2) 1 2 (.string nm) (.string sc)
 have jk:af (DV w6 (w.heap.size+2) 1 2 (.string nm) (.string sc)) (w.heap.size+2) 49 #[.int .i64 4,.string nm,.string sc,.int .i64 0,.slice none 0 0,.slice none 0 0,.slice none 0 0,.slice none 0 0]:=(DX.stored 1 (.string nm)).stored 2 (.string sc)
 have Ir:=hP.elsewhere hb7 (by have:=Hz.out;omega)
 have ahZ:=aby.ag (hb7.block _ aby.lt (by omega))
 have vW:=Js.ag (hb7.block _ Js.lt (by omega))
 have uz:=((But.of_below Hb1.out).trans' hB).trans hb7 (fun i hi=>.inr (by omega))
 have hs7:(DV w6 (w.heap.size+2) 1 2 (.string nm) (.string sc)).heap.size=w6.heap.size:=by simp[DV,World.setCell]
 have hs6:=hB.size
 obtain⟨w7,XB⟩:∃ w7,Hid (w7=DV w6 (w.heap.size+2) 1 2 (.string nm) (.string sc)):=⟨_,rfl⟩
 rw[← XB.out] at jk Ir ahZ vW uz hs7
 have H7:=ae (And.intro Ir (And.intro uz (And.intro ahZ (And.intro vW (And.intro jk (show w1.heap.size≤w7.heap.size by omega))))))
 clear hP hB DX aby Js hb7 jk Ir ahZ vW uz hs7 hs6
 go_wp2_with (fail)
 rw[DW,← XB.out]
 refine(Hwh.out _ H7.out.1).mono ?_
 clear x0 x1 x2 x3 x4 x5 x6 x7 xl f36 d0 dl
 rintro e w8 ⟨row,D,rfl,hx,hP,hB⟩
 obtain⟨A2,m2,c2,rfl⟩:=bP hx
 have Ku:=ah H7.out.2.2.2.2.1 hB (by have:=Hz.out;omega)
 have abz:=ah H7.out.2.2.1 hB (by have:=Hz.out;omega)
 have ah0:=ah H7.out.2.2.2.1 hB (by have:=Hz.out;omega)
 have d0:w8.cell? ⟨w.heap.size,0,none⟩=some (.pointer (some ⟨gp,0,none⟩)):=by have:=abz.cell 0;simpa using this
 have dl:=abz.lt
 obtain⟨x0,x1,x2,x3,x4,x5,x6,x7,xl⟩:=bW Ku
 have f38:=Ku.frozen
 have hf:=dI.first (n0:=w1.heap.size) hx H7.out.2.2.2.2.2 hB.size (by have:=jM.out;omega) Ku
 have hb8:=(But.refl (fun k=>k=w.heap.size+2) w8).setCell (p:=⟨w.heap.size+2,5,none⟩) (.inl rfl) (.slice (some ⟨w8.heap.size,0,none⟩) 1 1)
 have ah1:=abz.ag (hb8.block _ abz.lt (by omega))
 have QJ:=ah0.ag (hb8.block _ ah0.lt (by omega))
 have hP9:=hP.elsewhere hb8 (by have:=Hz.out;omega)
 have rM:=(H7.out.2.1.trans' hB).trans hb8 (fun i hi=>.inr (by omega))
 have hal:=fun (W2:World)=>(Below.refl W2.heap.size W2).alloc (Nat.le_refl _) (.cells #[.int .i64 ax.op,.int .i64 ax.n,.string ax.s,.string ax.name,.string ax.src,.slice A2 m2 c2] 55)
 have abA:=ah1.ag ((hal _).block _ ah1.lt)
 have abB:=QJ.ag ((hal _).block _ QJ.lt)
 have ah2:=hP9.below (hal _)
 have ah3:=rM.trans' (But.of_below (hal _))
 obtain⟨w10,QM⟩:∃ w10,Hid (w10=(w8.setCell ⟨w.heap.size+2,5,none⟩ (.slice (some ⟨w8.heap.size,0,none⟩) 1 1)).alloc (.cells #[.int .i64 ax.op,.int .i64 ax.n,.string ax.s,.string ax.name,.string ax.src,.slice A2 m2 c2] 55)):=⟨_,rfl⟩
 have hs10:w8.heap.size+1=w10.heap.size:=by rw[QM.out];simp[World.setCell]
 rw[← QM.out] at hf abA abB ah2 ah3
 have H10:=ae (And.intro ah2 (And.intro ah3 (And.intro abA (And.intro abB (And.intro hf (And.intro hs10 (Nat.le_trans H7.out.2.2.2.2.2 hB.size)))))))
 clear hx hP hB Ku abz ah0 hf hb8 ah1 QJ hP9 rM hal abA abB ah2 ah3 hs10
 go_wp2_with (fail)
 rw[← QM.out]
 refine(Xu.out _ _ H10.out.1 H10.out.2.2.2.2.2.1).mono ?_
 clear x0 x1 x2 x3 x4 x5 x6 x7 xl f38 d0 dl
 rintro e tJ ⟨rfl,hP,hB⟩
 have hkb:=ah H10.out.2.2.1 hB (by have:=Hz.out;omega)
 have hk4:=ah H10.out.2.2.2.1 hB (by have:=Hz.out;omega)
 have hS:=H10.out.2.2.2.2.1.pO hB (by have:=Hz.out;have:=jM.out;omega)
 have d0:tJ.cell? ⟨w.heap.size,0,none⟩=some (.pointer (some ⟨gp,0,none⟩)):=by have:=hkb.cell 0;simpa using this
 have dl:=hkb.lt
 have hl:=Hli.out (w.heap.size+2) w.heap.size w1.heap.size tJ _ _ _ _ hP hS hkb (by have:=Hz.out;have:=jM.out;omega) (by have:=Hz.out;have:=jM.out;omega) (by have:=H10.out.2.2.2.2.2;have:=hB.size;omega)
 have Hl:=ae hl
 have H11:=ae (And.intro (H10.out.2.1.trans' hB) hk4)
 clear hP hB hkb hk4 hS hl
 go_wp2_with (fail)
 refine Hl.out.mono ?_
 rintro e w12 ⟨rfl,hP,⟨Ac,cc,A,c,rows,D',hS⟩,hB⟩
 have hz:=Hz.out
 have hs:=jM.out
 have hk4:=H11.out.2.ag (hB.block _ H11.out.2.lt (by rintro(e|e|e|e)<;>omega))
 have FY:=H11.out.1.trans hB (fun i hi=>by rcases hi with e|e|e|e;exact .inl (.inl e);exact .inl (.inr e);exact .inr (by omega);exact .inr (by omega))
 obtain⟨nc,ne,hkS,hst⟩:=hS.out zG.out.1 zG.out.2
 obtain⟨x0,x1,x2,x3,x4,x5,x6,x7,xl⟩:=bW hkS
 obtain⟨y0,y1,y2,y3,y4,y5,y6,y7,yl⟩:=bW hk4
 have f4:=hk4.frozen
 have H:=ae (mQ (x:=.mk 4 nm sc 0 ns (ax::xs) [] []) (w3:=w1) hst hP FY hk4 (by omega) (by omega) Hz.out)
 clear hP hS hB hz hs hk4 FY hkS hst
 go_wp2
 rw[nC]
 refine bodyPost_ret (vI Tryz.results149 rfl H.out.1 rfl) rfl ?_
 rw[bn.out]
 exact H.out.2
end Go.Proofs.YtjjfkhbajidmdaaGreatDoor

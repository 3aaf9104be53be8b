/- Parts of this proof, one behind the other: RefH, RefD, TyA, TyB. -/
import Derived.Test.YtmfcmpnlipnopaaGreatTw40
import Derived.Test.YtmfcmpnlipnopaaGreatTw43
import Derived.Deep.CutBlock
import Derived.Deep.DeepCutAuto
import Derived.Deep.QuietTactic
import Derived.Deep.RegionHeld3
import Derived.BigQuiet
import Derived.Outline
import Derived.Test.YtmfcmpnlipnopaaGreatTw29
import Derived.Test.YtmfcmpnlipnopaaGreatTw23
import Derived.Test.YtmfcmpnlipnopaaGreatTw2
import Derived.ProofKit
import Derived.Test.YtmfcmpnlipnopaaGreatTw18
import Derived.Test.YtmfcmpnlipnopaaGreatTw21
import Derived.KernelRfl
import Derived.Test.YtmfcmpnlipnopaaGreatTw25
set_option maxRecDepth 1000000
set_option maxHeartbeats 40000000
namespace Go.Proofs.YtmfcmpnlipnopaaGreat
open Go.RowKit Go.Afx
theorem rbuiltS_succ (F:Nat→Prop) (d:Nat) (ih:RBuiltS F d) (op n:Int) (name src:ByteArray) (cols:List ByteArray) (exprs:List Ex) (body els:List St) (Ac Ae Ab Al:Option Addr) (nc cc ne ce nb cb nl cl:Nat) (w:World)
  (oknm:okS name) (oksr:okS src) (hcl:LsAt F w 1 SRow Ac nc cc cols) (hel:ExsAt F d w Ae ne ce exprs) (hbl:StsAt F d w Ab nb cb body) (hll:StsAt F d w Al nl cl els) :
  Calls Tryz.prog 29 #[.agg #[.int .i64 op,.string name,.string src,.int .i64 n,.slice Ac nc cc,.slice Ae ne ce,.slice Ab nb cb,.slice Al nl cl]] w fun e w'=>e=.returned (.bool (refS op name src n cols exprs.length body.length els.length&&exprs.all (builtE d)&&body.all (builtS d)&&els.all (builtS d)))∧Below w.heap.size w w':=by
 have hnc:=LsAt.n_le hcl
 have hne:=LsAt.n_le hel
 have hnb:=LsAt.n_le hbl
 have hnl:=LsAt.n_le hll
 have Hcl:=Lhd (LsAt.len hcl)
 have Hel:=Lhd (LsAt.len hel)
 have Hbl:=Lhd (LsAt.len hbl)
 have Hll:=Lhd (LsAt.len hll)
 have hb1:Below w.heap.size w (w.alloc (.cells #[.int .i64 op,.string name,.string src,.int .i64 n,.slice Ac nc cc,.slice Ae ne ce,.slice Ab nb cb,.slice Al nl cl] 65)):=(Below.refl _ _).alloc (Nat.le_refl _) _
 by_cases hlo:1≤op
 rotate_left
 ·have Hf:Hid (refS op name src n cols exprs.length body.length els.length=false):=Lhd (by unfold refS;simp[hlo])
  have hlo':op<1:=by omega
  clear hcl hel hbl hll
  go_enter Tryz.func29,Tryz.ntmps29
  go_wp2
  go_ret
  exact⟨ret_bool (by rw[Hf.out];rfl),hb1⟩
 by_cases hhi:op≤10
 rotate_left
 ·have Hf:Hid (refS op name src n cols exprs.length body.length els.length=false):=Lhd (by unfold refS;simp[hhi])
  have hhi':10<op:=by omega
  clear hcl hel hbl hll
  go_enter Tryz.func29,Tryz.ntmps29
  go_wp2
  go_ret
  exact⟨ret_bool (by rw[Hf.out];rfl),hb1⟩
 obtain⟨j1,j2,j3,j4,j5,j6⟩:=inB_n op hlo hhi
 have oknf:=okS_fOf op
 have Hop:=Lhd (And.intro hlo hhi)
 go_enter Tryz.func29,Tryz.ntmps29
 go_upto_region 4 with (fail)
 obtain⟨w2,Hw2⟩:∃ w2,Hid (w2=(w.alloc (.cells #[.int .i64 op,.string name,.string src,.int .i64 n,.slice Ac nc cc,.slice Ae ne ce,.slice Ab nb cb,.slice Al nl cl] 65)).alloc (.cells #[.string { data:=#[] },.string { data:=#[110] },.string { data:=#[110] },.string { data:=#[115] },.string { data:=#[110,115,99] },.string { data:=#[110,115] },.string { data:=#[110,115,78,98] },.string { data:=#[98,101] },.string { data:=#[115] },.string { data:=#[] },.string { data:=#[] }] 9)):=⟨_,rfl⟩
 have hb2:Below w.heap.size w w2:=by rw[Hw2.out];exact hb1.alloc (by simp) _
 have hx2:IsBlk w2 w.heap.size 65 #[.int .i64 op,.string name,.string src,.int .i64 n,.slice Ac nc cc,.slice Ae ne ce,.slice Ab nb cb,.slice Al nl cl]:=by rw[Hw2.out];exact(IsBlk.laid _ _ _).alloc _
 have ha2:IsBlk w2 (w.heap.size+1) 9 #[.string { data:=#[] },.string { data:=#[110] },.string { data:=#[110] },.string { data:=#[115] },.string { data:=#[110,115,99] },.string { data:=#[110,115] },.string { data:=#[110,115,78,98] },.string { data:=#[98,101] },.string { data:=#[115] },.string { data:=#[] },.string { data:=#[] }]:=by rw[Hw2.out];exact laid_at (by simp) _ _
 rw[← Hw2.out]
 obtain⟨x0,x1,x2,x3,x4,x5,x6,x7,xl⟩:=stBox' hx2
 have HX:=Lhd (fun W (hW:Below w2.heap.size w2 W)=>hx2.as_was (hW.block _ hx2.lt))
 have Hcl2:=Lhd (fun W (hW:Below w2.heap.size w2 W)=>(hcl.below hb2).below hW)
 have Hel2:=Lhd (fun W (hW:Below w2.heap.size w2 W)=>ExsAt.below (ExsAt.below hel hb2) hW)
 have Hbl2:=Lhd (fun W (hW:Below w2.heap.size w2 W)=>StsAt.below (StsAt.below hbl hb2) hW)
 have Hll2:=Lhd (fun W (hW:Below w2.heap.size w2 W)=>StsAt.below (StsAt.below hll hb2) hW)
 have Hb2:=Lhd hb2
 clear hcl hel hbl hll hx2 hb1
 go_cut [4] (fun u4 W=>u4=.string (fOf op)∧w2=W)
 case first =>
  have a0:=ha2.cell 0;have a1:=ha2.cell 1;have a2:=ha2.cell 2;have a3:=ha2.cell 3;have a4:=ha2.cell 4;have a5:=ha2.cell 5;have a6:=ha2.cell 6;have a7:=ha2.cell 7;have a8:=ha2.cell 8;have a9:=ha2.cell 9;have a10:=ha2.cell 10
  simp at a0 a1 a2 a3 a4 a5 a6 a7 a8 a9 a10
  clear ha2 HX Hcl2 Hel2 Hbl2 Hll2 j1 j2 j3 j4 j5 j6
  rcases fOf_cases op Hop.out.1 Hop.out.2 with rfl|rfl|rfl|rfl|rfl|rfl|rfl|rfl|rfl|rfl
  all_goals
   go_wp2
   go_meet
   exact⟨rfl,rfl⟩
 case rest =>
  obtain⟨rfl,rfl⟩:=hcut
  obtain⟨f,Hf0⟩:∃ f,Hid (fOf op=f):=⟨_,rfl⟩
  rw[Hf0.out] at j1 j2 j3 j4 j5 j6 oknf
  rw[Hf0.out]
  clear ha2
  have J1:=Lhd j1
  have J2:=Lhd j2
  have J3:=Lhd j3
  have J4:=Lhd j4
  have J5:=Lhd j5
  have J6:=Lhd j6
  clear j1 j2 j3 j4 j5 j6
  go_upto_region 5 with (fail)
  go_cut [57] (fun u57 W=>WordsA w2 (tA op name src) u57 W)
  case first =>
   refine Code.wp_mono noPanic_then (phaseA op n name src f Ac Ae Ab Al nc cc ne ce nb cb nl cl w w2 oknm oksr oknf (HX.out _ (Below.refl _ _)) J1.out J2.out ?_)
   intro y24 y25 y26 y27 y28 y29 y30 y31 y32 y33 y34 y35 y36 y37 y38 y39 y40 y41 y42 y43 y44 y45 y46 y47 y48 y49 y50 y51 y52 y53 y54 y55 y56 y57 W hr
   have Hr:=Lhd hr
   clear hr
   go_step
   go_meet
   exact Hr.out
  case rest =>
   obtain⟨rfl,hbA⟩:=hcut
   generalize wc=w5 at *
   obtain⟨ta,Hta⟩:∃ b,Hid (tA op name src=b):=⟨_,rfl⟩
   rw[Hta.out]
   have HA5:=Lhd hbA
   have H05:=Lhd (Hb2.out.trans (hbA.mono Hb2.out.size))
   have Hx5:=Lhd (HX.out w5 hbA)
   clear hbA
   cases ta
   rotate_left
   ·have Hf:Hid (refS op name src n cols exprs.length body.length els.length=false):=Lhd (by unfold refS;rw[Hta.out];simp)
    go_wp2
    go_ret
    exact⟨ret_bool (by rw[Hf.out];rfl),H05.out⟩
   go_upto_region 7 with (fail)
   go_cut [112] (fun u112 W=>WordsA w5 (tB op n nc nb nl) u112 W)
   case first =>
    refine Code.wp_mono noPanic_then (phaseB op n name src f Ac Ae Ab Al nc cc ne ce nb cb nl cl w w5 oknf Hx5.out J3.out J4.out J5.out J6.out Hop.out.1 Hop.out.2 ?_)
    intro y58 y59 y60 y61 y62 y63 y64 y65 y66 y67 y68 y69 y70 y71 y72 y73 y74 y75 y76 y77 y78 y79 y80 y81 y82 y83 y84 y85 y86 y87 y88 y89 y90 y91 y92 y93 y94 y95 y96 y97 y98 y99 y100 y101 y102 y103 y104 y105 y106 y107 y108 y109 y110 y111 y112 W hr
    have Hr:=Lhd hr
    clear hr
    go_step
    go_meet
    exact Hr.out
   case rest =>
    obtain⟨rfl,hbB⟩:=hcut
    generalize wc=w6 at *
    obtain⟨tb,Htb⟩:∃ b,Hid (tB op n nc nb nl=b):=⟨_,rfl⟩
    rw[Htb.out]
    have H26:=Lhd (HA5.out.trans (hbB.mono HA5.out.size))
    have H06:=Lhd (Hb2.out.trans (H26.out.mono Hb2.out.size))
    clear hbB
    cases tb
    rotate_left
    ·have Hf:Hid (refS op name src n cols exprs.length body.length els.length=false):=Lhd (by unfold refS;rw[Hcl.out,Hbl.out,Hll.out,Htb.out];simp)
     go_wp2
     go_ret
     exact⟨ret_bool (by rw[Hf.out];rfl),H06.out⟩
    repeat (first|exact built_rest F d ih op n name src cols exprs body els Ac Ae Ab Al nc cc ne ce nb cb nl cl w w2 w6 Hb2.out (HX.out _ (Below.refl _ _)) H26.out (Hcl2.out _ (Below.refl _ _)) (Hel2.out _ (Below.refl _ _)) (Hbl2.out _ (Below.refl _ _)) (Hll2.out _ (Below.refl _ _)) Hta.out Htb.out Hop.out.1 Hop.out.2|go_step)
theorem rbuiltS_any (F:Nat→Prop) (d:Nat):RBuiltS F d:=by
 induction d with
 | zero=>intro x row w h;exact h.elim
 | succ d ih =>
  intro x row w h
  obtain⟨_,_,hnm,hsr,Ac,nc,cc,Ae,ne,ce,Ab,nb,cb,Al,nl,cl,rfl,hcl,hel,hbl,hll⟩:=h.open_
  have hfin:builtS (d+1) x=(refS x.op x.name x.src x.n x.cols x.exprs.length x.body.length x.els.length&&x.exprs.all (builtE d)&&x.body.all (builtS d)&&x.els.all (builtS d)):=by
   rw[refS_shape];rfl
  rw[hfin]
  exact rbuiltS_succ F d ih x.op x.n x.name x.src x.cols x.exprs x.body x.els Ac Ae Ab Al nc cc ne ce nb cb nl cl w hnm hsr hcl hel hbl hll
open Go.RowKit Go.Afx Go.ChangeShapes Go.WideShapes Go.Deep
section
variable {H:Type} {enc:TypeId×Value→H} {w:World} {base:Nat} {spare:Nat→Bool} {held:Bool}
theorem fields_of {P:Program} {t:TypeId} {fs:Array Field} {fuel:Nat} {cs:List Value} {x:DataW H×List MemPlace} (ht:P.underlying t=some (.struct fs)) (h:DataW.trod enc P w base spare held fuel t cs=some x) :
  ∀ (i:Nat) (f:Field),fs[i]?=some f→∃ m y,DataW.trod enc P w base spare held m f.type ((cs.drop f.offset).take (P.cellsOf f.type))=some y:=by
 obtain⟨xs,n,_,_,_,hl,hf⟩:=DataW.trod_struct ht h
 intro i f hi
 have hlt:i<fs.size:=(Array.getElem?_eq_some_iff.1 hi).1
 exact⟨n,xs[i]'(by omega),by rw[hf i f hi];exact List.getElem?_eq_getElem _⟩
theorem slice_of {P:Program} {t e:TypeId} {fuel:Nat} {v:Value} {x:DataW H×List MemPlace} (ht:P.underlying t=some (.slice e)) (h:DataW.trod enc P w base spare held fuel t [v]=some x):∃ A n c,v=.slice A n c:=by
 rcases open_slice ht h with ⟨hcs,_⟩|⟨a,len,cap,m,q,D,Pl,hcs,_⟩
 ·simp only[List.cons.injEq,and_true] at hcs;exact⟨_,_,_,hcs⟩
 ·simp only[List.cons.injEq,and_true] at hcs;exact⟨_,_,_,hcs⟩
theorem six_of {r:List Value} (h:r.length=6):∃ a b c d e f,r=[a,b,c,d,e,f]:=by
 match r,h with
 | [a,b,c,d,e,f],_=>exact⟨a,b,c,d,e,f,rfl⟩
theorem eight_of {r:List Value} (h:r.length=8):∃ a b c d e f g k,r=[a,b,c,d,e,f,g,k]:=by
 match r,h with
 | [a,b,c,d,e,f,g,k],_=>exact⟨a,b,c,d,e,f,g,k,rfl⟩
theorem str_of {m:Nat} {v:Value} {y:DataW H×List MemPlace} (h:DataW.trod enc Tryz.prog w base spare held m 9 [v]=some y):∃ s,v=.string s∧okS s:=by
 obtain⟨s,hs,_,hk⟩:=DataW.trod_string Tryz.underlying9 h
 simp only[List.cons.injEq,and_true] at hs
 exact⟨s,hs,hk⟩
theorem int_of {m:Nat} {v:Value} {y:DataW H×List MemPlace} (h:DataW.trod enc Tryz.prog w base spare held m 3 [v]=some y):∃ k,v=.int .i64 k∧okI k:=by
 obtain⟨k,hs,_,hk⟩:=DataW.trod_int Tryz.underlying3 h
 simp only[List.cons.injEq,and_true] at hs
 exact⟨k,hs,okI_of hk⟩
theorem int64_of {m:Nat} {v:Value} {y:DataW H×List MemPlace} (h:DataW.trod enc Tryz.prog w base spare held m 2 [v]=some y):∃ k,v=.int .i64 k∧okI k:=by
 obtain⟨k,hs,_,hk⟩:=DataW.trod_int Tryz.underlying2 h
 simp only[List.cons.injEq,and_true] at hs
 exact⟨k,hs,okI_of hk⟩
theorem ints_of {m:Nat} {v:Value} {y:DataW H×List MemPlace} (h:DataW.trod enc Tryz.prog w base spare held m 31 [v]=some y):∃ A n c xs,v=.slice A n c∧LsAt (Old w) w 1 IRow A n c xs:=by
 obtain⟨A,n,c,rfl⟩:=slice_of Tryz.underlying31 h
 obtain⟨xs,hx⟩:=ints_of_trod Tryz.underlying31 Tryz.underlying3 (by kernel_rfl) h
 exact⟨A,n,c,xs,rfl,hx⟩
theorem strs_of {m:Nat} {v:Value} {y:DataW H×List MemPlace} (h:DataW.trod enc Tryz.prog w base spare held m 53 [v]=some y):∃ A n c xs,v=.slice A n c∧LsAt (Old w) w 1 SRow A n c xs:=by
 obtain⟨A,n,c,rfl⟩:=slice_of Tryz.underlying53 h
 obtain⟨xs,hx⟩:=strs_of_trod Tryz.underlying53 Tryz.underlying9 (by kernel_rfl) h
 exact⟨A,n,c,xs,rfl,hx⟩
theorem cS:Tryz.prog.cellsOf 9=1:=by kernel_rfl
theorem cI:Tryz.prog.cellsOf 3=1:=by kernel_rfl
theorem cJ:Tryz.prog.cellsOf 2=1:=by kernel_rfl
theorem cIs:Tryz.prog.cellsOf 31=1:=by kernel_rfl
theorem cSs:Tryz.prog.cellsOf 53=1:=by kernel_rfl
theorem cCo:Tryz.prog.cellsOf 28=1:=by kernel_rfl
theorem cLf:Tryz.prog.cellsOf 29=1:=by kernel_rfl
theorem cKn:Tryz.prog.cellsOf 30=1:=by kernel_rfl
theorem co_of {m:Nat} {r:List Value} {y:DataW H×List MemPlace} (hl:r.length=2) (h:DataW.trod enc Tryz.prog w base spare held m 71 r=some y):∃ c:Co,CoRow r c:=by
 obtain⟨a,b,rfl⟩:∃ a b,r=[a,b]:=by
  match r,hl with
  | [a,b],_=>exact⟨a,b,rfl⟩
 have hF:=fields_of Tryz.underlying71 h
 obtain⟨m0,y0,h0⟩:=hF 0 _ rfl
 obtain⟨m1,y1,h1⟩:=hF 1 _ rfl
 replace h0:DataW.trod enc Tryz.prog w base spare held m0 9 (([a,b]:List Value).drop 0 |>.take (Tryz.prog.cellsOf 9))=some y0:=h0
 rw[cS] at h0
 replace h1:DataW.trod enc Tryz.prog w base spare held m1 3 (([a,b]:List Value).drop 1 |>.take (Tryz.prog.cellsOf 3))=some y1:=h1
 rw[cI] at h1
 obtain⟨s,rfl,k1⟩:=str_of h0
 obtain⟨i,rfl,k2⟩:=int_of h1
 exact⟨⟨s,i⟩,rfl,k1,k2⟩
theorem cols_of {m:Nat} {v:Value} {y:DataW H×List MemPlace} (h:DataW.trod enc Tryz.prog w base spare held m 28 [v]=some y):∃ A n c xs,v=.slice A n c∧LsAt (Old w) w 2 CoRow A n c xs:=by
 obtain⟨A,n,c,rfl⟩:=slice_of Tryz.underlying28 h
 obtain⟨xs,hx⟩:=ls_of_trod Tryz.underlying28 (by kernel_rfl) (by omega) CoRow (fun r m y hr hy=>co_of hr hy) h
 exact⟨A,n,c,xs,rfl,hx⟩
theorem lf_of {m:Nat} {r:List Value} {y:DataW H×List MemPlace} (hl:r.length=6) (h:DataW.trod enc Tryz.prog w base spare held m 91 r=some y):∃ x:Lf,LfAt (Old w) w r x:=by
 obtain⟨a,b,c,d,e,f,rfl⟩:=six_of hl
 have hF:=fields_of Tryz.underlying91 h
 obtain⟨m0,y0,h0⟩:=hF 0 _ rfl
 obtain⟨m1,y1,h1⟩:=hF 1 _ rfl
 obtain⟨m2,y2,h2⟩:=hF 2 _ rfl
 obtain⟨m3,y3,h3⟩:=hF 3 _ rfl
 obtain⟨m4,y4,h4⟩:=hF 4 _ rfl
 obtain⟨m5,y5,h5⟩:=hF 5 _ rfl
 replace h0:DataW.trod enc Tryz.prog w base spare held m0 3 (([a,b,c,d,e,f]:List Value).drop 0 |>.take (Tryz.prog.cellsOf 3))=some y0:=h0
 rw[cI] at h0
 replace h1:DataW.trod enc Tryz.prog w base spare held m1 2 (([a,b,c,d,e,f]:List Value).drop 1 |>.take (Tryz.prog.cellsOf 2))=some y1:=h1
 rw[cJ] at h1
 replace h2:DataW.trod enc Tryz.prog w base spare held m2 9 (([a,b,c,d,e,f]:List Value).drop 2 |>.take (Tryz.prog.cellsOf 9))=some y2:=h2
 rw[cS] at h2
 replace h3:DataW.trod enc Tryz.prog w base spare held m3 9 (([a,b,c,d,e,f]:List Value).drop 3 |>.take (Tryz.prog.cellsOf 9))=some y3:=h3
 rw[cS] at h3
 replace h4:DataW.trod enc Tryz.prog w base spare held m4 9 (([a,b,c,d,e,f]:List Value).drop 4 |>.take (Tryz.prog.cellsOf 9))=some y4:=h4
 rw[cS] at h4
 replace h5:DataW.trod enc Tryz.prog w base spare held m5 31 (([a,b,c,d,e,f]:List Value).drop 5 |>.take (Tryz.prog.cellsOf 31))=some y5:=h5
 rw[cIs] at h5
 obtain⟨i0,rfl,k0⟩:=int_of h0
 obtain⟨i1,rfl,k1⟩:=int64_of h1
 obtain⟨s2,rfl,k2⟩:=str_of h2
 obtain⟨s3,rfl,k3⟩:=str_of h3
 obtain⟨s4,rfl,k4⟩:=str_of h4
 obtain⟨A5,n5,c5,l5,rfl,k5⟩:=ints_of h5
 exact⟨⟨i0,i1,s2,s3,s4,l5⟩,k0,k1,k2,k3,k4,A5,n5,c5,rfl,k5⟩
theorem leaves_of {m:Nat} {v:Value} {y:DataW H×List MemPlace} (h:DataW.trod enc Tryz.prog w base spare held m 29 [v]=some y):∃ A n c xs,v=.slice A n c∧LsAt (Old w) w 6 (LfAt (Old w) w) A n c xs:=by
 obtain⟨A,n,c,rfl⟩:=slice_of Tryz.underlying29 h
 obtain⟨xs,hx⟩:=ls_of_trod Tryz.underlying29 (by kernel_rfl) (by omega) (LfAt (Old w) w) (fun r m y hr hy=>lf_of hr hy) h
 exact⟨A,n,c,xs,rfl,hx⟩
theorem kn_of {m:Nat} {r:List Value} {y:DataW H×List MemPlace} (hl:r.length=8) (h:DataW.trod enc Tryz.prog w base spare held m 93 r=some y):∃ x:Kn,KnAt (Old w) w r x:=by
 obtain⟨a,b,c,d,e,f,g,k,rfl⟩:=eight_of hl
 have hF:=fields_of Tryz.underlying93 h
 obtain⟨m0,y0,h0⟩:=hF 0 _ rfl
 obtain⟨m1,y1,h1⟩:=hF 1 _ rfl
 obtain⟨m2,y2,h2⟩:=hF 2 _ rfl
 obtain⟨m3,y3,h3⟩:=hF 3 _ rfl
 obtain⟨m4,y4,h4⟩:=hF 4 _ rfl
 obtain⟨m5,y5,h5⟩:=hF 5 _ rfl
 obtain⟨m6,y6,h6⟩:=hF 6 _ rfl
 obtain⟨m7,y7,h7⟩:=hF 7 _ rfl
 replace h0:DataW.trod enc Tryz.prog w base spare held m0 3 (([a,b,c,d,e,f,g,k]:List Value).drop 0 |>.take (Tryz.prog.cellsOf 3))=some y0:=h0
 rw[cI] at h0
 replace h1:DataW.trod enc Tryz.prog w base spare held m1 9 (([a,b,c,d,e,f,g,k]:List Value).drop 1 |>.take (Tryz.prog.cellsOf 9))=some y1:=h1
 rw[cS] at h1
 replace h2:DataW.trod enc Tryz.prog w base spare held m2 9 (([a,b,c,d,e,f,g,k]:List Value).drop 2 |>.take (Tryz.prog.cellsOf 9))=some y2:=h2
 rw[cS] at h2
 replace h3:DataW.trod enc Tryz.prog w base spare held m3 3 (([a,b,c,d,e,f,g,k]:List Value).drop 3 |>.take (Tryz.prog.cellsOf 3))=some y3:=h3
 rw[cI] at h3
 replace h4:DataW.trod enc Tryz.prog w base spare held m4 53 (([a,b,c,d,e,f,g,k]:List Value).drop 4 |>.take (Tryz.prog.cellsOf 53))=some y4:=h4
 rw[cSs] at h4
 replace h5:DataW.trod enc Tryz.prog w base spare held m5 31 (([a,b,c,d,e,f,g,k]:List Value).drop 5 |>.take (Tryz.prog.cellsOf 31))=some y5:=h5
 rw[cIs] at h5
 replace h6:DataW.trod enc Tryz.prog w base spare held m6 31 (([a,b,c,d,e,f,g,k]:List Value).drop 6 |>.take (Tryz.prog.cellsOf 31))=some y6:=h6
 rw[cIs] at h6
 replace h7:DataW.trod enc Tryz.prog w base spare held m7 31 (([a,b,c,d,e,f,g,k]:List Value).drop 7 |>.take (Tryz.prog.cellsOf 31))=some y7:=h7
 rw[cIs] at h7
 obtain⟨i0,rfl,k0⟩:=int_of h0
 obtain⟨s1,rfl,k1⟩:=str_of h1
 obtain⟨s2,rfl,k2⟩:=str_of h2
 obtain⟨i3,rfl,k3⟩:=int_of h3
 obtain⟨A4,n4,c4,l4,rfl,k4⟩:=strs_of h4
 obtain⟨A5,n5,c5,l5,rfl,k5⟩:=ints_of h5
 obtain⟨A6,n6,c6,l6,rfl,k6⟩:=ints_of h6
 obtain⟨A7,n7,c7,l7,rfl,k7⟩:=ints_of h7
 exact⟨⟨i0,s1,s2,i3,l4,l5,l6,l7⟩,k0,k3,k1,k2,A4,n4,c4,A5,n5,c5,A6,n6,c6,A7,n7,c7,rfl,k4,k5,k6,k7⟩
theorem knots_of {m:Nat} {v:Value} {y:DataW H×List MemPlace} (h:DataW.trod enc Tryz.prog w base spare held m 30 [v]=some y):∃ A n c xs,v=.slice A n c∧LsAt (Old w) w 8 (KnAt (Old w) w) A n c xs:=by
 obtain⟨A,n,c,rfl⟩:=slice_of Tryz.underlying30 h
 obtain⟨xs,hx⟩:=ls_of_trod Tryz.underlying30 (by kernel_rfl) (by omega) (KnAt (Old w) w) (fun r m y hr hy=>kn_of hr hy) h
 exact⟨A,n,c,xs,rfl,hx⟩
theorem say_of {m:Nat} {r:List Value} {y:DataW H×List MemPlace} (hl:r.length=8) (h:DataW.trod enc Tryz.prog w base spare held m 33 r=some y):∃ (name src part:ByteArray) (fuel:Int) (Ap:Option Addr) (np cp:Nat) (params:List Co) (A A':Option Addr) (n c n' c':Nat) (xs:List Lf) (ys:List Kn) (Ak:Option Addr) (nk ck:Nat) (ks:List Int),r=[.string name,.string src,.string part,.int .i64 fuel,.slice Ap np cp,.slice A n c,.slice A' n' c',.slice Ak nk ck]∧LsAt (Old w) w 2 CoRow Ap np cp params∧LsAt (Old w) w 6 (LfAt (Old w) w) A n c xs∧LsAt (Old w) w 8 (KnAt (Old w) w) A' n' c' ys∧LsAt (Old w) w 1 IRow Ak nk ck ks∧okS name∧okS src∧okS part∧okI fuel:=by
 obtain⟨a,b,c,d,e,f,g,k,rfl⟩:=eight_of hl
 have hF:=fields_of Tryz.underlying33 h
 obtain⟨m0,y0,h0⟩:=hF 0 _ rfl
 obtain⟨m1,y1,h1⟩:=hF 1 _ rfl
 obtain⟨m2,y2,h2⟩:=hF 2 _ rfl
 obtain⟨m3,y3,h3⟩:=hF 3 _ rfl
 obtain⟨m4,y4,h4⟩:=hF 4 _ rfl
 obtain⟨m5,y5,h5⟩:=hF 5 _ rfl
 obtain⟨m6,y6,h6⟩:=hF 6 _ rfl
 obtain⟨m7,y7,h7⟩:=hF 7 _ rfl
 replace h0:DataW.trod enc Tryz.prog w base spare held m0 9 (([a,b,c,d,e,f,g,k]:List Value).drop 0 |>.take (Tryz.prog.cellsOf 9))=some y0:=h0
 rw[cS] at h0
 replace h1:DataW.trod enc Tryz.prog w base spare held m1 9 (([a,b,c,d,e,f,g,k]:List Value).drop 1 |>.take (Tryz.prog.cellsOf 9))=some y1:=h1
 rw[cS] at h1
 replace h2:DataW.trod enc Tryz.prog w base spare held m2 9 (([a,b,c,d,e,f,g,k]:List Value).drop 2 |>.take (Tryz.prog.cellsOf 9))=some y2:=h2
 rw[cS] at h2
 replace h3:DataW.trod enc Tryz.prog w base spare held m3 3 (([a,b,c,d,e,f,g,k]:List Value).drop 3 |>.take (Tryz.prog.cellsOf 3))=some y3:=h3
 rw[cI] at h3
 replace h4:DataW.trod enc Tryz.prog w base spare held m4 28 (([a,b,c,d,e,f,g,k]:List Value).drop 4 |>.take (Tryz.prog.cellsOf 28))=some y4:=h4
 rw[cCo] at h4
 replace h5:DataW.trod enc Tryz.prog w base spare held m5 29 (([a,b,c,d,e,f,g,k]:List Value).drop 5 |>.take (Tryz.prog.cellsOf 29))=some y5:=h5
 rw[cLf] at h5
 replace h6:DataW.trod enc Tryz.prog w base spare held m6 30 (([a,b,c,d,e,f,g,k]:List Value).drop 6 |>.take (Tryz.prog.cellsOf 30))=some y6:=h6
 rw[cKn] at h6
 replace h7:DataW.trod enc Tryz.prog w base spare held m7 31 (([a,b,c,d,e,f,g,k]:List Value).drop 7 |>.take (Tryz.prog.cellsOf 31))=some y7:=h7
 rw[cIs] at h7
 obtain⟨name,rfl,k0⟩:=str_of h0
 obtain⟨src,rfl,k1⟩:=str_of h1
 obtain⟨part,rfl,k2⟩:=str_of h2
 obtain⟨fuel,rfl,k3⟩:=int_of h3
 obtain⟨Ap,np,cp,params,rfl,k4⟩:=cols_of h4
 obtain⟨A,n,c,xs,rfl,k5⟩:=leaves_of h5
 obtain⟨A',n',c',ys,rfl,k6⟩:=knots_of h6
 obtain⟨Ak,nk,ck,ks,rfl,k7⟩:=ints_of h7
 exact⟨name,src,part,fuel,Ap,np,cp,params,A,A',n,c,n',c',xs,ys,Ak,nk,ck,ks,rfl,k4,k5,k6,k7,k0,k1,k2,k3⟩
end
open Go.RowKit Go.Afx Go.Ev
noncomputable def pr15:Prims:=fun f=>match Nat.beq f 86 with
 | true=>some (primStrs nodupB)
 | false=>none
theorem reckon15:tells (evCall3 Tryz.prog pr15 100000 (299+1) 7 [] ⟨.nil,0,[]⟩)=true:=by kernel_rfl
theorem pr15_ok:PrimsOk Tryz.prog pr15:=prims_one (primStrs_ok (fn:=Tryz.f86) (by kernel_rfl) rfl (by kernel_rfl) (fun A n c r w h hn=>by
 refine(unlike_any _ A n c (bytesL r) w h hn).mono ?_
 rintro e w' ⟨rfl,hb⟩
 refine⟨?_,hb⟩
 congr 2
 rw[Bool.eq_iff_iff,nodupB_iff]
 simp))
theorem awake15_any (w:World):Calls Tryz.prog 7 #[] w (fun e w'=>e=.returned (.bool true)∧Below w.heap.size w w') :=
 closed_true (n:=100000) (d:=299) pr15_ok (by kernel_rfl) reckon15 w
open Go.RowKit Go.Afx
def SchR (r:List Value) (x:Nat):Prop:=∃ (nm:ByteArray) (Ac:Option Addr) (cc:Nat) (Ai:Option Addr) (ni ci:Nat) (l p b:Int),r=[.string nm,.slice Ac x cc,.slice Ai ni ci,.int .i64 l,.int .i64 p,.int .i64 b]
def StrR (r:List Value) (x:Nat):Prop:=∃ (nm:ByteArray) (Ac:Option Addr) (cc:Nat),r=[.string nm,.slice Ac x cc]
def SomeB15 (e:Ending):Prop:=∃ b:Bool,e=.returned (.bool b)
theorem great15_any (F:Nat→Prop) (A1 A2 A3 A4 A5:Option Addr) (n1 c1 n2 c2 n3 c3 n4 c4 n5 c5:Nat) (xs1 xs2 xs4:List Nat) (w:World)
  (h1:LsAt F w 6 SchR A1 n1 c1 xs1) (h2:LsAt F w 2 StrR A2 n2 c2 xs2) (h4:LsAt F w 2 StrR A4 n4 c4 xs4) :
  Calls Tryz.prog 6 #[.agg #[.slice A1 n1 c1,.slice A2 n2 c2,.slice A3 n3 c3,.slice A4 n4 c4,.slice A5 n5 c5]] w fun e w'=>SomeB15 e∧Below w.heap.size w w':=by
 have hn1:=h1.n_le
 have hn2:=h2.n_le
 have hn4:=h4.n_le
 have Hb:=Lhd ((Below.refl w.heap.size w).alloc (Nat.le_refl _) (.cells #[.slice A1 n1 c1,.slice A2 n2 c2,.slice A3 n3 c3,.slice A4 n4 c4,.slice A5 n5 c5] 27))
 go_enter Tryz.func6,Tryz.ntmps6
 by_cases t1:10<n1
 ·go_wp2
  go_ret
  exact⟨⟨_,rfl⟩,Hb.out⟩
 by_cases t2:10<n2
 ·go_wp2
  go_ret
  exact⟨⟨_,rfl⟩,Hb.out⟩
 by_cases t3:10<n3
 ·go_wp2
  go_ret
  exact⟨⟨_,rfl⟩,Hb.out⟩
 by_cases t4:10<n4
 ·go_wp2
  go_ret
  exact⟨⟨_,rfl⟩,Hb.out⟩
 by_cases t5:10<n5
 ·go_wp2
  go_ret
  exact⟨⟨_,rfl⟩,Hb.out⟩
 go_wp2
 go_loop [3] (fun i=>∃ k:Nat,k≤n1∧i=.int .i64 k) (fun i=>n1-(intOf i).toNat)
 case atStart=>exact⟨0,Nat.zero_le _,rfl⟩
 case round =>
  obtain⟨k,hk,rfl⟩:=hrel
  by_cases hlt:k<n1
  ·obtain⟨b,o,r,x,rfl,hb,_,_,_,⟨nm,Ac,cc,Ai,ni,ci,l,p,q,rfl⟩,hc⟩:=h1.get hlt
   have hc1:=hc 1 _ rfl
   clear hc
   by_cases h12:12<x
   ·go_wp2
    go_ret
    exact⟨⟨_,rfl⟩,Hb.out⟩
   ·go_wp2
    go_round
    case rel=>exact⟨k+1,by omega,by go_num⟩
    case measure=>simp[intOf];omega
  ·go_wp2
   go_loop [4] (fun i=>∃ k:Nat,k≤n2∧i=.int .i64 k) (fun i=>n2-(intOf i).toNat)
   case atStart=>exact⟨0,Nat.zero_le _,rfl⟩
   case round =>
    obtain⟨k2,hk2,rfl⟩:=hrel
    by_cases hlt2:k2<n2
    ·obtain⟨b,o,r,x,rfl,hb,_,_,_,⟨nm,Ac,cc,rfl⟩,hc⟩:=h2.get hlt2
     have hc1:=hc 1 _ rfl
     clear hc
     by_cases h12:12<x
     ·go_wp2
      go_ret
      exact⟨⟨_,rfl⟩,Hb.out⟩
     ·go_wp2
      go_round
      case rel=>exact⟨k2+1,by omega,by go_num⟩
      case measure=>simp[intOf];omega
    ·go_wp2
     go_loop [5] (fun i=>∃ k:Nat,k≤n4∧i=.int .i64 k) (fun i=>n4-(intOf i).toNat)
     case atStart=>exact⟨0,Nat.zero_le _,rfl⟩
     case round =>
      obtain⟨k4,hk4,rfl⟩:=hrel
      by_cases hlt4:k4<n4
      ·obtain⟨b,o,r,x,rfl,hb,_,_,_,⟨nm,Ac,cc,rfl⟩,hc⟩:=h4.get hlt4
       have hc1:=hc 1 _ rfl
       clear hc
       by_cases h12:12<x
       ·go_wp2
        go_ret
        exact⟨⟨_,rfl⟩,Hb.out⟩
       ·go_wp2
        go_round
        case rel=>exact⟨k4+1,by omega,by go_num⟩
        case measure=>simp[intOf];omega
      ·go_wp2
       go_ret
       exact⟨⟨_,rfl⟩,Hb.out⟩
theorem from_wrong (A1 A2 A3 A4 A5:Option Addr) (n1 c1 n2 c2 n3 c3 n4 c4 n5 c5:Nat) (nm sr pt:ByteArray) (fu:Int) (Ap:Option Addr) (np cp:Nat) (Ab:Option Addr) (nb cb:Nat) (w:World)
  (hr:∀ W,Below w.heap.size w W→Calls Tryz.prog 30 #[.agg #[.string nm,.string sr,.string pt,.int .i64 fu,.slice Ap np cp,.slice Ab nb cb]] W fun x w'=>x=.returned (.bool false)∧Below W.heap.size W w') :
  Calls Tryz.prog 17 #[.agg #[.slice A1 n1 c1,.slice A2 n2 c2,.slice A3 n3 c3,.slice A4 n4 c4,.slice A5 n5 c5],.agg #[.string nm,.string sr,.string pt,.int .i64 fu,.slice Ap np cp,.slice Ab nb cb]] w fun e w'=>e=.returned (.int .i64 1)∧Below w.heap.size w w':=by
 have Hb:=Lhd ((((Below.refl w.heap.size w).alloc (Nat.le_refl _) (.cells #[.slice A1 n1 c1,.slice A2 n2 c2,.slice A3 n3 c3,.slice A4 n4 c4,.slice A5 n5 c5] 27)).alloc (by simp) (.cells #[.string nm,.string sr,.string pt,.int .i64 fu,.slice Ap np cp,.slice Ab nb cb] 36)))
 have Hr:=Lhd hr
 clear hr
 go_enter Tryz.func17,Tryz.ntmps17
 go_wp2_with (go_at_call 30;(with_reducible refine(Hr.out _ Hb.out).mono ?_);rintro x w4 ⟨rfl,hb4⟩)
 go_ret
 exact⟨rfl,Hb.out.trans (hb4.mono Hb.out.size)⟩
theorem fault_wrong (A1 A2 A3 A4 A5:Option Addr) (n1 c1 n2 c2 n3 c3 n4 c4 n5 c5:Nat) (nm sr pt:ByteArray) (fu:Int) (Ap:Option Addr) (np cp:Nat) (Ab:Option Addr) (nb cb:Nat) (w:World)
  (hr:∀ W,Below w.heap.size w W→Calls Tryz.prog 30 #[.agg #[.string nm,.string sr,.string pt,.int .i64 fu,.slice Ap np cp,.slice Ab nb cb]] W fun x w'=>x=.returned (.bool false)∧Below W.heap.size W w') :
  Calls Tryz.prog 8 #[.agg #[.slice A1 n1 c1,.slice A2 n2 c2,.slice A3 n3 c3,.slice A4 n4 c4,.slice A5 n5 c5],.agg #[.string nm,.string sr,.string pt,.int .i64 fu,.slice Ap np cp,.slice Ab nb cb]] w fun e w'=>e=.returned (.tuple #[.slice none 0 0,.bool false])∧Below w.heap.size w w':=by
 have Hb:=Lhd ((((Below.refl w.heap.size w).alloc (Nat.le_refl _) (.cells #[.slice A1 n1 c1,.slice A2 n2 c2,.slice A3 n3 c3,.slice A4 n4 c4,.slice A5 n5 c5] 27)).alloc (by simp) (.cells #[.string nm,.string sr,.string pt,.int .i64 fu,.slice Ap np cp,.slice Ab nb cb] 36)))
 have Hf:=Lhd (from_wrong A1 A2 A3 A4 A5 n1 c1 n2 c2 n3 c3 n4 c4 n5 c5 nm sr pt fu Ap np cp Ab nb cb ((w.alloc (.cells #[.slice A1 n1 c1,.slice A2 n2 c2,.slice A3 n3 c3,.slice A4 n4 c4,.slice A5 n5 c5] 27)).alloc (.cells #[.string nm,.string sr,.string pt,.int .i64 fu,.slice Ap np cp,.slice Ab nb cb] 36)) (fun W hW=>hr W (Hb.out.trans (hW.mono Hb.out.size))))
 clear hr
 go_enter Tryz.func8,Tryz.ntmps8
 go_wp2_with (go_at_call 17;(with_reducible refine Hf.out.mono ?_);rintro x w4 ⟨rfl,hb4⟩)
 go_ret2
 exact⟨rfl,Hb.out.trans (hb4.mono Hb.out.size)⟩
theorem fits_wrong (A1 A2 A3 A4 A5:Option Addr) (n1 c1 n2 c2 n3 c3 n4 c4 n5 c5:Nat) (nm sr pt:ByteArray) (fu:Int) (Ap:Option Addr) (np cp:Nat) (Ab:Option Addr) (nb cb:Nat) (w:World)
  (hr:∀ W,Below w.heap.size w W→Calls Tryz.prog 30 #[.agg #[.string nm,.string sr,.string pt,.int .i64 fu,.slice Ap np cp,.slice Ab nb cb]] W fun x w'=>x=.returned (.bool false)∧Below W.heap.size W w') :
  Calls Tryz.prog 9 #[.agg #[.slice A1 n1 c1,.slice A2 n2 c2,.slice A3 n3 c3,.slice A4 n4 c4,.slice A5 n5 c5],.agg #[.string nm,.string sr,.string pt,.int .i64 fu,.slice Ap np cp,.slice Ab nb cb]] w fun e w'=>e=.returned (.int .i64 1)∧Below w.heap.size w w':=by
 have Hb:=Lhd ((((Below.refl w.heap.size w).alloc (Nat.le_refl _) (.cells #[.slice A1 n1 c1,.slice A2 n2 c2,.slice A3 n3 c3,.slice A4 n4 c4,.slice A5 n5 c5] 27)).alloc (by simp) (.cells #[.string nm,.string sr,.string pt,.int .i64 fu,.slice Ap np cp,.slice Ab nb cb] 36)))
 have Hf:=Lhd (from_wrong A1 A2 A3 A4 A5 n1 c1 n2 c2 n3 c3 n4 c4 n5 c5 nm sr pt fu Ap np cp Ab nb cb ((w.alloc (.cells #[.slice A1 n1 c1,.slice A2 n2 c2,.slice A3 n3 c3,.slice A4 n4 c4,.slice A5 n5 c5] 27)).alloc (.cells #[.string nm,.string sr,.string pt,.int .i64 fu,.slice Ap np cp,.slice Ab nb cb] 36)) (fun W hW=>hr W (Hb.out.trans (hW.mono Hb.out.size))))
 clear hr
 go_enter Tryz.func9,Tryz.ntmps9
 go_wp2_with (go_at_call 17;(with_reducible refine Hf.out.mono ?_);rintro x w4 ⟨rfl,hb4⟩)
 go_ret
 exact⟨rfl,Hb.out.trans (hb4.mono Hb.out.size)⟩
end Go.Proofs.YtmfcmpnlipnopaaGreat

/- Parts of this proof, one behind the other: RefH, FloP, FloA, FloB. -/
import Derived.Test.YtomfpjgcficlgaaGreatFn21
import Derived.Test.YtomfpjgcficlgaaGreatFn24
import Derived.Deep.CutBlock
import Derived.Deep.DeepCutAuto
import Derived.Deep.QuietTactic
import Derived.Deep.RegionHeld3
import Derived.BigQuiet
import Derived.Outline
import Derived.Test.YtomfpjgcficlgaaGreatFn2
import Derived.Sort.KeysCollected
import Derived.Test.YtomfpjgcficlgaaGreatFn4
set_option maxRecDepth 1000000
set_option maxHeartbeats 40000000
namespace Go.Proofs.YtomfpjgcficlgaaGreat
open Go.RowKit Go.Afx
theorem rbuiltS_succ (F:Nat→Prop) (d:Nat) (ih:RBuiltS F d) (op n:Int) (name src:ByteArray) (cols:List ByteArray) (exprs:List Ex) (body els:List St) (Ac Ae Ab Al:Option Addr) (nc cc ne ce nb cb nl cl:Nat) (w:World)
  (oknm:okS name) (oksr:okS src) (hcl:LsAt F w 1 SRow Ac nc cc cols) (hel:ExsAt F d w Ae ne ce exprs) (hbl:StsAt F d w Ab nb cb body) (hll:StsAt F d w Al nl cl els) :
  Calls Tryz.prog 55 #[.agg #[.int .i64 op,.string name,.string src,.int .i64 n,.slice Ac nc cc,.slice Ae ne ce,.slice Ab nb cb,.slice Al nl cl]] w fun e w'=>e=.returned (.bool (refS op name src n cols exprs.length body.length els.length&&exprs.all (builtE d)&&body.all (builtS d)&&els.all (builtS d)))∧Below w.heap.size w w':=by
 have hnc:=LsAt.n_le hcl
 have hne:=LsAt.n_le hel
 have hnb:=LsAt.n_le hbl
 have hnl:=LsAt.n_le hll
 have Hcl:=Lhd (LsAt.len hcl)
 have Hel:=Lhd (LsAt.len hel)
 have Hbl:=Lhd (LsAt.len hbl)
 have Hll:=Lhd (LsAt.len hll)
 have hb1:Below w.heap.size w (w.alloc (.cells #[.int .i64 op,.string name,.string src,.int .i64 n,.slice Ac nc cc,.slice Ae ne ce,.slice Ab nb cb,.slice Al nl cl] 60)):=(Below.refl _ _).alloc (Nat.le_refl _) _
 by_cases hlo:1≤op
 rotate_left
 ·have Hf:Hid (refS op name src n cols exprs.length body.length els.length=false):=Lhd (by unfold refS;simp[hlo])
  have hlo':op<1:=by omega
  clear hcl hel hbl hll
  go_enter Tryz.func55,Tryz.ntmps55
  go_wp2
  go_ret
  exact⟨ret_bool (by rw[Hf.out];rfl),hb1⟩
 by_cases hhi:op≤10
 rotate_left
 ·have Hf:Hid (refS op name src n cols exprs.length body.length els.length=false):=Lhd (by unfold refS;simp[hhi])
  have hhi':10<op:=by omega
  clear hcl hel hbl hll
  go_enter Tryz.func55,Tryz.ntmps55
  go_wp2
  go_ret
  exact⟨ret_bool (by rw[Hf.out];rfl),hb1⟩
 obtain⟨j1,j2,j3,j4,j5,j6⟩:=inB_n op hlo hhi
 have oknf:=okS_fOf op
 have Hop:=Lhd (And.intro hlo hhi)
 go_enter Tryz.func55,Tryz.ntmps55
 go_upto_region 4 with (fail)
 obtain⟨w2,Hw2⟩:∃ w2,Hid (w2=(w.alloc (.cells #[.int .i64 op,.string name,.string src,.int .i64 n,.slice Ac nc cc,.slice Ae ne ce,.slice Ab nb cb,.slice Al nl cl] 60)).alloc (.cells #[.string { data:=#[] },.string { data:=#[110] },.string { data:=#[110] },.string { data:=#[115] },.string { data:=#[110,115,99] },.string { data:=#[110,115] },.string { data:=#[110,115,78,98] },.string { data:=#[98,101] },.string { data:=#[115] },.string { data:=#[] },.string { data:=#[] }] 9)):=⟨_,rfl⟩
 have hb2:Below w.heap.size w w2:=by rw[Hw2.out];exact hb1.alloc (by simp) _
 have hx2:IsBlk w2 w.heap.size 60 #[.int .i64 op,.string name,.string src,.int .i64 n,.slice Ac nc cc,.slice Ae ne ce,.slice Ab nb cb,.slice Al nl cl]:=by rw[Hw2.out];exact(IsBlk.laid _ _ _).alloc _
 have ha2:IsBlk w2 (w.heap.size+1) 9 #[.string { data:=#[] },.string { data:=#[110] },.string { data:=#[110] },.string { data:=#[115] },.string { data:=#[110,115,99] },.string { data:=#[110,115] },.string { data:=#[110,115,78,98] },.string { data:=#[98,101] },.string { data:=#[115] },.string { data:=#[] },.string { data:=#[] }]:=by rw[Hw2.out];exact laid_at (by simp) _ _
 rw[← Hw2.out]
 obtain⟨x0,x1,x2,x3,x4,x5,x6,x7,xl⟩:=stBox' hx2
 have HX:=Lhd (fun W (hW:Below w2.heap.size w2 W)=>hx2.as_was (hW.block _ hx2.lt))
 have Hcl2:=Lhd (fun W (hW:Below w2.heap.size w2 W)=>(hcl.below hb2).below hW)
 have Hel2:=Lhd (fun W (hW:Below w2.heap.size w2 W)=>ExsAt.below (ExsAt.below hel hb2) hW)
 have Hbl2:=Lhd (fun W (hW:Below w2.heap.size w2 W)=>StsAt.below (StsAt.below hbl hb2) hW)
 have Hll2:=Lhd (fun W (hW:Below w2.heap.size w2 W)=>StsAt.below (StsAt.below hll hb2) hW)
 have Hb2:=Lhd hb2
 clear hcl hel hbl hll hx2 hb1
 go_cut [4] (fun u4 W=>u4=.string (fOf op)∧w2=W)
 case first =>
  have a0:=ha2.cell 0;have a1:=ha2.cell 1;have a2:=ha2.cell 2;have a3:=ha2.cell 3;have a4:=ha2.cell 4;have a5:=ha2.cell 5;have a6:=ha2.cell 6;have a7:=ha2.cell 7;have a8:=ha2.cell 8;have a9:=ha2.cell 9;have a10:=ha2.cell 10
  simp at a0 a1 a2 a3 a4 a5 a6 a7 a8 a9 a10
  clear ha2 HX Hcl2 Hel2 Hbl2 Hll2 j1 j2 j3 j4 j5 j6
  rcases fOf_cases op Hop.out.1 Hop.out.2 with rfl|rfl|rfl|rfl|rfl|rfl|rfl|rfl|rfl|rfl
  all_goals
   go_wp2
   go_meet
   exact⟨rfl,rfl⟩
 case rest =>
  obtain⟨rfl,rfl⟩:=hcut
  obtain⟨f,Hf0⟩:∃ f,Hid (fOf op=f):=⟨_,rfl⟩
  rw[Hf0.out] at j1 j2 j3 j4 j5 j6 oknf
  rw[Hf0.out]
  clear ha2
  have J1:=Lhd j1
  have J2:=Lhd j2
  have J3:=Lhd j3
  have J4:=Lhd j4
  have J5:=Lhd j5
  have J6:=Lhd j6
  clear j1 j2 j3 j4 j5 j6
  go_upto_region 5 with (fail)
  go_cut [57] (fun u57 W=>WordsA w2 (tA op name src) u57 W)
  case first =>
   refine Code.wp_mono noPanic_then (phaseA op n name src f Ac Ae Ab Al nc cc ne ce nb cb nl cl w w2 oknm oksr oknf (HX.out _ (Below.refl _ _)) J1.out J2.out ?_)
   intro y24 y25 y26 y27 y28 y29 y30 y31 y32 y33 y34 y35 y36 y37 y38 y39 y40 y41 y42 y43 y44 y45 y46 y47 y48 y49 y50 y51 y52 y53 y54 y55 y56 y57 W hr
   have Hr:=Lhd hr
   clear hr
   go_step
   go_meet
   exact Hr.out
  case rest =>
   obtain⟨rfl,hbA⟩:=hcut
   generalize wc=w5 at *
   obtain⟨ta,Hta⟩:∃ b,Hid (tA op name src=b):=⟨_,rfl⟩
   rw[Hta.out]
   have HA5:=Lhd hbA
   have H05:=Lhd (Hb2.out.trans (hbA.mono Hb2.out.size))
   have Hx5:=Lhd (HX.out w5 hbA)
   clear hbA
   cases ta
   rotate_left
   ·have Hf:Hid (refS op name src n cols exprs.length body.length els.length=false):=Lhd (by unfold refS;rw[Hta.out];simp)
    go_wp2
    go_ret
    exact⟨ret_bool (by rw[Hf.out];rfl),H05.out⟩
   go_upto_region 7 with (fail)
   go_cut [112] (fun u112 W=>WordsA w5 (tB op n nc nb nl) u112 W)
   case first =>
    refine Code.wp_mono noPanic_then (phaseB op n name src f Ac Ae Ab Al nc cc ne ce nb cb nl cl w w5 oknf Hx5.out J3.out J4.out J5.out J6.out Hop.out.1 Hop.out.2 ?_)
    intro y58 y59 y60 y61 y62 y63 y64 y65 y66 y67 y68 y69 y70 y71 y72 y73 y74 y75 y76 y77 y78 y79 y80 y81 y82 y83 y84 y85 y86 y87 y88 y89 y90 y91 y92 y93 y94 y95 y96 y97 y98 y99 y100 y101 y102 y103 y104 y105 y106 y107 y108 y109 y110 y111 y112 W hr
    have Hr:=Lhd hr
    clear hr
    go_step
    go_meet
    exact Hr.out
   case rest =>
    obtain⟨rfl,hbB⟩:=hcut
    generalize wc=w6 at *
    obtain⟨tb,Htb⟩:∃ b,Hid (tB op n nc nb nl=b):=⟨_,rfl⟩
    rw[Htb.out]
    have H26:=Lhd (HA5.out.trans (hbB.mono HA5.out.size))
    have H06:=Lhd (Hb2.out.trans (H26.out.mono Hb2.out.size))
    clear hbB
    cases tb
    rotate_left
    ·have Hf:Hid (refS op name src n cols exprs.length body.length els.length=false):=Lhd (by unfold refS;rw[Hcl.out,Hbl.out,Hll.out,Htb.out];simp)
     go_wp2
     go_ret
     exact⟨ret_bool (by rw[Hf.out];rfl),H06.out⟩
    repeat (first|exact built_rest F d ih op n name src cols exprs body els Ac Ae Ab Al nc cc ne ce nb cb nl cl w w2 w6 Hb2.out (HX.out _ (Below.refl _ _)) H26.out (Hcl2.out _ (Below.refl _ _)) (Hel2.out _ (Below.refl _ _)) (Hbl2.out _ (Below.refl _ _)) (Hll2.out _ (Below.refl _ _)) Hta.out Htb.out Hop.out.1 Hop.out.2|go_step)
theorem rbuiltS_any (F:Nat→Prop) (d:Nat):RBuiltS F d:=by
 induction d with
 | zero=>intro x row w h;exact h.elim
 | succ d ih =>
  intro x row w h
  obtain⟨_,_,hnm,hsr,Ac,nc,cc,Ae,ne,ce,Ab,nb,cb,Al,nl,cl,rfl,hcl,hel,hbl,hll⟩:=h.open_
  have hfin:builtS (d+1) x=(refS x.op x.name x.src x.n x.cols x.exprs.length x.body.length x.els.length&&x.exprs.all (builtE d)&&x.body.all (builtS d)&&x.els.all (builtS d)):=by
   rw[refS_shape];rfl
  rw[hfin]
  exact rbuiltS_succ F d ih x.op x.n x.name x.src x.cols x.exprs x.body x.els Ac Ae Ab Al nc cc ne ce nb cb nl cl w hnm hsr hcl hel hbl hll
end Go.Proofs.YtomfpjgcficlgaaGreat
namespace Go.Afx
def mkB (l:List UInt8):ByteArray:=⟨l.toArray⟩
theorem mkB_of (s:ByteArray):mkB s.data.toList=s:=ByteArray.ext (by simp[mkB])
theorem of_mkB (l:List UInt8):(mkB l).data.toList=l:=by simp[mkB]
def sortN (xs:List ByteArray):List ByteArray:=((xs.map fun s=>s.data.toList).mergeSort leB).map mkB
theorem sortN_perm (xs:List ByteArray):(sortN xs).Perm xs:=by
 unfold sortN
 have h:=(List.mergeSort_perm (xs.map fun s=>s.data.toList) leB).map mkB
 rw[List.map_map] at h
 have e:(mkB ∘ fun s:ByteArray=>s.data.toList)=id:=by funext s;exact mkB_of s
 rwa [e,List.map_id] at h
theorem sortN_mem {xs:List ByteArray} {x:ByteArray}:x∈sortN xs ↔ x∈xs:=(sortN_perm xs).mem_iff
theorem sortN_length (xs:List ByteArray):(sortN xs).length=xs.length:=(sortN_perm xs).length_eq
theorem sortN_of_perm {xs ys:List ByteArray} (h:xs.Perm ys):sortN xs=sortN ys:=by
 unfold sortN
 rw[mergeSort_of_perm (h.map _)]
structure Stp where
 name:ByteArray
 src:ByteArray
 ems:List ByteArray
def stp:List Stp→ByteArray→Stp
 | [],_=>⟨ByteArray.empty,ByteArray.empty,[]⟩
 | s::M,x=>if s.name=x then s else stp M x
theorem stp_of {M:List Stp} (hn:(M.map Stp.name).Nodup) {s:Stp} (h:s∈M):stp M s.name=s:=by
 induction M with
 | nil=>cases h
 | cons t M ih =>
  simp only[List.map_cons,List.nodup_cons] at hn
  rw[stp]
  rcases List.mem_cons.1 h with rfl|h
  ·simp
  ·rw[if_neg (fun e=>hn.1 (by rw[e];exact List.mem_map_of_mem (f:=Stp.name) h)),ih hn.2 h]
theorem stp_mem {M:List Stp} {x:ByteArray} (h:x∈M.map Stp.name):stp M x∈M∧(stp M x).name=x:=by
 induction M with
 | nil=>cases h
 | cons t M ih =>
  rw[stp]
  by_cases e:t.name=x
  ·rw[if_pos e];exact⟨by simp,e⟩
  ·rw[if_neg e]
   simp only[List.map_cons,List.mem_cons] at h
   have:=ih (h.resolve_left (fun h=>e h.symm))
   exact⟨List.mem_cons_of_mem _ this.1,this.2⟩
def consB (S:List ByteArray) (s:Stp):Bool:=decide (s.src≠ByteArray.empty)&&decide (s.src∈S)
def emitB (S:List ByteArray) (s:Stp):Bool:=s.ems.any fun x=>decide (x∈S)
def namesN (M:List Stp) (p:Stp→Bool):List ByteArray:=sortN ((M.filter p).map Stp.name)
def consN (M:List Stp) (S:List ByteArray):List ByteArray:=namesN M (consB S)
def emitN (M:List Stp) (S:List ByteArray):List ByteArray:=namesN M (emitB S)
theorem namesN_mem {M:List Stp} {p:Stp→Bool} {x:ByteArray}:x∈namesN M p ↔ ∃ s∈M,p s=true∧s.name=x:=by
 unfold namesN
 rw[sortN_mem,List.mem_map]
 simp[and_assoc]
theorem namesN_sub {M:List Stp} {p:Stp→Bool} {x:ByteArray} (h:x∈namesN M p):x∈M.map Stp.name:=by
 obtain⟨s,hs,_,rfl⟩:=namesN_mem.1 h
 exact List.mem_map_of_mem hs
theorem namesN_length (M:List Stp) (p:Stp→Bool):(namesN M p).length≤M.length:=by
 unfold namesN
 rw[sortN_length,List.length_map]
 exact List.length_filter_le _ _
inductive Rch (M:List Stp) (S:List ByteArray):ByteArray→Prop
 | base {x:ByteArray} (h:x∈S):Rch M S x
 | step {x y:ByteArray} (h:Rch M S x) (hy:y∈consN M (stp M x).ems):Rch M S y
theorem Rch.names {M:List Stp} {S:List ByteArray} (hS:∀ x∈S,x∈M.map Stp.name) {x:ByteArray} (h:Rch M S x):x∈M.map Stp.name:=by
 induction h with
 | base h=>exact hS _ h
 | step _ hy _=>exact namesN_sub hy
def RoundP (M:List Stp):Prop:=∃ s∈M,Rch M (consN M s.ems) s.name
def rankF (M:List Stp) (ρ:ByteArray→Nat) (s:Stp):Nat:=if s.src=ByteArray.empty then 0 else (emitN M [s.src]).foldl (fun r x=>max r (ρ x+1)) 0
def rk (M:List Stp):Nat→ByteArray→Nat
 | 0,_=>0
 | k+1,x=>rankF M (rk M k) (stp M x)
def rkM (M:List Stp) (x:ByteArray):Nat:=rk M (M.length+1) x
def Hgt (M:List Stp) (h:ByteArray→Nat):Prop:=∀ s∈M,s.src≠ByteArray.empty→∀ x∈emitN M [s.src],h x<h s.name
theorem fold_congr {l:List ByteArray} {f g:ByteArray→Nat} (h:∀ x∈l,f x=g x):∀ r:Nat,l.foldl (fun r x=>max r (f x+1)) r=l.foldl (fun r x=>max r (g x+1)) r:=by
 induction l with
 | nil=>intro r;rfl
 | cons x l ih =>
  intro r
  rw[List.foldl_cons,List.foldl_cons,h x (by simp)]
  exact ih (fun y hy=>h y (by simp[hy])) _
theorem fold_le {l:List ByteArray} {f:ByteArray→Nat} {b:Nat} (h:∀ x∈l,f x+1≤b):∀ r:Nat,r≤b→l.foldl (fun r x=>max r (f x+1)) r≤b:=by
 induction l with
 | nil=>intro r hr;exact hr
 | cons x l ih =>
  intro r hr
  rw[List.foldl_cons]
  exact ih (fun y hy=>h y (by simp[hy])) _ (Nat.max_le.2 ⟨hr,h x (by simp)⟩)
theorem rankF_congr {M:List Stp} {f g:ByteArray→Nat} {s:Stp} (h:s.src≠ByteArray.empty→∀ x∈emitN M [s.src],f x=g x):rankF M f s=rankF M g s:=by
 unfold rankF
 by_cases e:s.src=ByteArray.empty
 ·rw[if_pos e,if_pos e]
 ·rw[if_neg e,if_neg e];exact fold_congr (h e) 0
theorem rk_stable {M:List Stp} {h:ByteArray→Nat} (hh:Hgt M h):∀ (k k':Nat) (x:ByteArray),x∈M.map Stp.name→h x<k→h x<k'→rk M k x=rk M k' x:=by
 intro k
 induction k with
 | zero=>intro k' x _ h0;omega
 | succ k ih =>
  intro k' x hx h1 h2
  obtain⟨k',rfl⟩:∃ j,k'=j+1:=⟨k'-1,by omega⟩
  rw[rk,rk]
  obtain⟨hm,hnm⟩:=stp_mem hx
  refine rankF_congr fun hs y hy=>?_
  have:=hh _ hm hs y hy
  rw[hnm] at this
  exact ih k' y (namesN_sub hy) (by omega) (by omega)
theorem rk_le {M:List Stp} {h:ByteArray→Nat} (hh:Hgt M h):∀ (k:Nat) (x:ByteArray),x∈M.map Stp.name→rk M k x≤h x:=by
 intro k
 induction k with
 | zero=>intro x _;exact Nat.zero_le _
 | succ k ih =>
  intro x hx
  rw[rk]
  obtain⟨hm,hnm⟩:=stp_mem hx
  unfold rankF
  split
  ·exact Nat.zero_le _
  ·rename_i hs
   refine fold_le (fun y hy=>?_) 0 (Nat.zero_le _)
   have:=hh _ hm hs y hy
   rw[hnm] at this
   have:=ih y (namesN_sub hy)
   omega
theorem filter_lt {α:Type} {p q:α→Bool}:∀ {l:List α},(∀ x∈l,p x=true→q x=true)→(∃ x∈l,q x=true∧p x=false)→(l.filter p).length<(l.filter q).length:=by
 intro l
 induction l with
 | nil=>rintro _ ⟨x,hx,_⟩;cases hx
 | cons y l ih =>
  intro h1 h2
  have hle:(l.filter p).length≤(l.filter q).length:=by
   have:=fun x (hx:x∈l)=>h1 x (by simp[hx])
   clear ih h1 h2
   induction l with
   | nil=>simp
   | cons z l ih2 =>
    have h3:=ih2 (fun x hx=>this x (by simp[hx]))
    cases hp:p z
    ·cases hq:q z<;>simp[hp,hq]<;>omega
    ·have hq:=this z (by simp) hp
     simp[hp,hq];omega
  by_cases hy:q y=true∧p y=false
  ·simp[hy.1,hy.2];omega
  ·obtain⟨x,hx,hxq,hxp⟩:=h2
   have hxl:x∈l:=by
    rcases List.mem_cons.1 hx with rfl|hx
    ·exact absurd ⟨hxq,hxp⟩ hy
    ·exact hx
   have h3:=ih (fun x hx=>h1 x (by simp[hx])) ⟨x,hxl,hxq,hxp⟩
   cases hp:p y
   ·cases hq:q y<;>simp[hp,hq]<;>omega
   ·have hq:=h1 y (by simp) hp
    simp[hp,hq];omega
open Classical in
noncomputable def hgt (M:List Stp) (x:ByteArray):Nat:=(M.filter fun t=>decide (Rch M (consN M t.ems) x)).length
theorem hgt_le (M:List Stp) (x:ByteArray):hgt M x≤M.length:=List.length_filter_le _ _
theorem hgt_ok {M:List Stp} (hn:(M.map Stp.name).Nodup) (hr:¬ RoundP M):Hgt M (hgt M):=by
 classical
 intro s hs hsrc x hx
 obtain⟨t,ht,he,rfl⟩:=namesN_mem.1 hx
 have hin:s.name∈consN M t.ems:=by
  refine namesN_mem.2 ⟨s,hs,?_,rfl⟩
  unfold emitB at he
  rw[List.any_eq_true] at he
  obtain⟨y,hy,hyS⟩:=he
  simp only[List.mem_singleton,decide_eq_true_eq] at hyS
  subst hyS
  simp[consB,hsrc,hy]
 unfold hgt
 refine filter_lt (fun u hu h=>?_) ⟨t,ht,by simpa using Rch.base hin,?_⟩
 ·simp only[decide_eq_true_eq] at h ⊢
  exact .step h (by rw[stp_of hn ht];exact hin)
 ·simp only[decide_eq_false_iff_not]
  exact fun h=>hr ⟨t,ht,h⟩
theorem rkM_eq {M:List Stp} {h:ByteArray→Nat} (hh:Hgt M h) (hM:∀ x,h x≤M.length) (hn:(M.map Stp.name).Nodup) {s:Stp} (hs:s∈M):rkM M s.name=rankF M (rkM M) s:=by
 have hx:s.name∈M.map Stp.name:=List.mem_map_of_mem hs
 have e:rkM M s.name=rk M (M.length+2) s.name:=rk_stable hh _ _ _ hx (by have:=hM s.name;omega) (by have:=hM s.name;omega)
 rw[e,rk,stp_of hn hs]
 rfl
def leR (ρ:ByteArray→Nat) (a b:ByteArray):Prop:=ρ a<ρ b∨(ρ a=ρ b∧a.data.toList≤b.data.toList)
theorem leR_antisymm {ρ:ByteArray→Nat} {a b:ByteArray} (h1:leR ρ a b) (h2:leR ρ b a):a=b:=by
 rcases h1 with h1|⟨_,h1⟩<;>rcases h2 with h2|⟨_,h2⟩<;>try omega
 exact ByteArray.ext (Array.toList_inj.1 (List.le_antisymm h1 h2))
structure FlowIs (M:List Stp) (S r:List ByteArray):Prop where
 once:r.Nodup
 all:∀ x,x∈r ↔ Rch M (consN M S) x
 order:r.Pairwise (leR (rkM M))
def addStp (M:List Stp) (s:Stp):List Stp:=if s.name∈M.map Stp.name then M else M++[s]
def netOf (ps:List Stp):List Stp:=ps.foldl addStp []
theorem addStp_nodup {M:List Stp} (h:(M.map Stp.name).Nodup) (s:Stp):((addStp M s).map Stp.name).Nodup:=by
 unfold addStp
 split
 ·exact h
 ·rename_i hs
  rw[List.map_append]
  exact List.nodup_append.2 ⟨h,by simp,fun a ha c hc e=>by simp at hc;subst e hc;exact hs ha⟩
theorem netOf_nodup (ps:List Stp):((netOf ps).map Stp.name).Nodup:=by
 unfold netOf
 suffices ∀ M:List Stp,(M.map Stp.name).Nodup→((ps.foldl addStp M).map Stp.name).Nodup from this [] (by simp)
 induction ps with
 | nil=>intro M h;exact h
 | cons s ps ih=>intro M h;exact ih _ (addStp_nodup h s)
theorem netOf_take {ps:List Stp} {k:Nat} {s:Stp} (h:ps[k]?=some s):netOf (ps.take (k+1))=addStp (netOf (ps.take k)) s:=by
 obtain⟨hk,rfl⟩:=List.getElem?_eq_some_iff.1 h
 unfold netOf
 rw[List.take_succ_eq_append_getElem hk,List.foldl_append]
 rfl
theorem netOf_length (ps:List Stp):(netOf ps).length≤ps.length:=by
 unfold netOf
 suffices ∀ M:List Stp,(ps.foldl addStp M).length≤M.length+ps.length by simpa using this []
 induction ps with
 | nil=>intro M;simp
 | cons s ps ih =>
  intro M
  have h1:=ih (addStp M s)
  have h2:(addStp M s).length≤M.length+1:=by unfold addStp;split<;>simp
  simp only[List.foldl_cons,List.length_cons]
  omega
/-! one more, that has nothing -/
def noStp (z:ByteArray):Stp:=⟨z,ByteArray.empty,[]⟩
section
variable {M:List Stp} {z:ByteArray}
theorem rch_nil {S:List ByteArray} (hS:S=[]) {x:ByteArray}:¬ Rch M S x:=by
 intro h
 subst hS
 induction h with
 | base h=>cases h
 | step _ _ ih=>exact ih
end
end Go.Afx
namespace Go.Proofs.YtomfpjgcficlgaaGreat
open Go.RowKit Go.Afx Go.Maps
def stpV (V:ByteArray→Option Addr×Nat×Nat) (s:Stp):Value:=.agg #[.string s.name,.string s.src,.slice (V s.name).1 (V s.name).2.1 (V s.name).2.2]
def stpE (V:ByteArray→Option Addr×Nat×Nat) (M:List Stp):List (ByteArray×Value):=M.map fun s=>(s.name,stpV V s)
theorem stpE_keys (V:ByteArray→Option Addr×Nat×Nat) (M:List Stp):(stpE V M).map (·.1)=M.map Stp.name:=by
 unfold stpE;rw[List.map_map];rfl
structure NetAt (n0:Nat) (w:World) (b:Nat) (M:List Stp):Prop where
 once:(M.map Stp.name).Nodup
 few:M.length≤1000
 lt:b<n0
 le:n0≤w.heap.size
 at_:∃ V,MapAt Tryz.prog 9 w b (stpE V M)∧∀ s∈M,okS s.src∧LsAt (fun k=>k<n0) w 1 SRow (V s.name).1 (V s.name).2.1 (V s.name).2.2 s.ems
section
variable {n0:Nat} {w w':World} {b:Nat} {M:List Stp}
theorem NetAt.below (h:NetAt n0 w b M) (hb:Below n0 w w'):NetAt n0 w' b M:=by
 refine⟨h.once,h.few,h.lt,Nat.le_trans h.le hb.size,?_⟩
 obtain⟨V,hm,hs⟩:=h.at_
 exact⟨V,hm.as_was (hb.block b h.lt),fun s hs'=>⟨(hs s hs').1,(hs s hs').2.kept ⟨hb.size,fun k _ hk=>hb.block k hk⟩⟩⟩
theorem NetAt.later (h:NetAt n0 w b M) (hb:Below w.heap.size w w'):NetAt n0 w' b M:=h.below (hb.mono h.le)
theorem stp_ent {V:ByteArray→Option Addr×Nat×Nat}:∀ {M:List Stp} {x:ByteArray},ent (stpE V M) x=if x∈M.map Stp.name then some (stpV V (stp M x)) else none:=by
 intro M x
 induction M with
 | nil=>rfl
 | cons s M ih =>
  show (if s.name=x then some (stpV V s) else ent (stpE V M) x)=_
  rw[ih]
  simp only[List.map_cons,List.mem_cons]
  by_cases e:s.name=x
  ·subst e;simp[stp]
  ·rw[if_neg e,stp,if_neg e]
   by_cases hx:x∈M.map Stp.name
   ·rw[if_pos hx,if_pos (.inr hx)]
   ·rw[if_neg hx,if_neg (by rintro(h|h);exact e h.symm;exact hx h)]
theorem stp_none {M:List Stp} {x:ByteArray} (hx:x ∉ M.map Stp.name):stp M x=⟨ByteArray.empty,ByteArray.empty,[]⟩:=by
 induction M with
 | nil=>rfl
 | cons t M ih =>
  simp only[List.map_cons,List.mem_cons,not_or] at hx
  rw[stp,if_neg (fun e=>hx.1 e.symm)]
  exact ih hx.2
def stp0:Value:=.agg #[.string ByteArray.empty,.string ByteArray.empty,.slice none 0 0]
theorem zeroStp (w:World):(zeroValue 73).run Tryz.prog w=.ok stp0 w:=by kernel_rfl
theorem NetAt.look (h:NetAt n0 w b M) (x:ByteArray):∃ V s0 A n c,MapAt Tryz.prog 9 w b (stpE V M)∧(ent (stpE V M) x).getD stp0=.agg #[.string s0,.string (stp M x).src,.slice A n c]∧(ent (stpE V M) x).isSome=decide (x∈M.map Stp.name) ∧
  okS (stp M x).src∧LsAt (fun k=>k<n0) w 1 SRow A n c (stp M x).ems:=by
 obtain⟨V,hm,hs⟩:=h.at_
 by_cases hx:x∈M.map Stp.name
 ·obtain⟨h1,h2⟩:=stp_mem hx
  obtain⟨h3,h4⟩:=hs _ h1
  exact⟨V,(stp M x).name,_,_,_,hm,by rw[stp_ent,if_pos hx];rfl,by rw[stp_ent,if_pos hx];simp[hx],h3,h4⟩
 ·have h0:=stp_none hx
  refine⟨V,ByteArray.empty,none,0,0,hm,by rw[stp_ent,if_neg hx,h0];rfl,by rw[stp_ent,if_neg hx];simp[hx],by rw[h0];unfold okS;decide,by rw[h0];exact LsAt.nil_ _ _ _ _⟩
theorem stpE_mem {V:ByteArray→Option Addr×Nat×Nat} {x:ByteArray} {v:Value} (h:(x,v)∈stpE V M):∃ s∈M,x=s.name∧v=stpV V s:=by
 unfold stpE at h
 obtain⟨s,hs,e⟩:=List.mem_map.1 h
 injection e with e1 e2
 exact⟨s,hs,e1.symm,e2.symm⟩
end
theorem not_empty {s:ByteArray} (h:s≠ByteArray.empty):s.toList.isEmpty=false:=by
 cases he:s.toList.isEmpty with
 | false=>rfl
 | true=>exact absurd (bs_inj (a:=s) (b:=ByteArray.empty) (by rw[List.isEmpty_iff.1 he];decide +kernel)) h
theorem any_mem {l:List ByteArray} {s:ByteArray}:(l.any fun y=>s.toList==y.toList)=decide (s∈l):=by
 rw[Bool.eq_iff_iff,List.any_eq_true,decide_eq_true_iff]
 constructor
 ·rintro⟨y,hy,h⟩
  have:s=y:=bs_inj (by simpa using h)
  rw[this];exact hy
 ·exact fun h=>⟨s,h,by simp⟩
def BoxS (w:World) (g:Nat) (S:List ByteArray):Prop:=∃ A n c,IsBlk w g 23 #[.slice A n c]∧LsAt (fun k=>k<w.heap.size) w 1 SRow A n c S
theorem BoxS.below {w w':World} {g:Nat} {S:List ByteArray} (h:BoxS w g S) (hb:Below w.heap.size w w'):BoxS w' g S:=by
 obtain⟨A,n,c,h1,h2⟩:=h
 exact⟨A,n,c,h1.as_was (hb.block _ h1.lt),h2.conv (Kept.of_below hb) (fun a ha h0 _=>Nat.lt_of_lt_of_le (h2.lt h0 a ha) hb.size) fun _ _ _ h=>h⟩
theorem consC_any (g:Nat) (S:List ByteArray) (x src:ByteArray) (A:Option Addr) (n c:Nat) (w:World) (hg:BoxS w g S) :
  Calls Tryz.prog 44 #[.agg #[.string x,.string src,.slice A n c],.pointer (some ⟨g,0,none⟩)] w fun e w'=>e=.returned (.bool (decide (src≠ByteArray.empty)&&decide (src∈S)))∧Below w.heap.size w w':=by
 obtain⟨A2,n2,c2,h1,h2⟩:=hg
 have hc0:=h1.cell 0
 simp at hc0
 have hlt:=h1.lt
 have Hc:=Lhd (fun W (hW:Below w.heap.size w W)=>containsS_any (fun k=>k<w.heap.size) A2 n2 c2 S src W (h2.kept (Kept.of_below hW)))
 rw[any_mem] at Hc
 have hb1:Below w.heap.size w (w.alloc (.cells #[.string x,.string src,.slice A n c] 73)):=(Below.refl _ _).alloc (Nat.le_refl _) _
 generalize decide (src∈S)=q at *
 by_cases he:src=ByteArray.empty
 ·subst he
  have he2:(ByteArray.empty.toList !=ByteArray.toList { data:=#[] })=false:=by decide +kernel
  go_enter Tryz.func44,Tryz.ntmps44
  go_wp2
  go_ret
  exact⟨by simp,hb1⟩
 ·have he2:=not_empty he
  have hd:decide (src≠ByteArray.empty)=true:=by simpa using he
  rw[hd]
  have Hb1:=Lhd hb1
  go_enter Tryz.func44,Tryz.ntmps44
  go_wp2_with (go_at_call 41;refine(Hc.out _ Hb1.out).mono ?_;rintro y w1 ⟨rfl,rfl⟩)
  go_ret
  exact⟨by simp,Hb1.out⟩
open Go.RowKit Go.Afx Go.Maps
theorem emitC1_any (g:Nat) (S:List ByteArray) (x:ByteArray) (w:World) (hg:BoxS w g S) :
  Calls Tryz.prog 40 #[.string x,.pointer (some ⟨g,0,none⟩)] w fun e w'=>e=.returned (.bool (decide (x∈S)))∧Below w.heap.size w w':=by
 obtain⟨A2,n2,c2,h1,h2⟩:=hg
 have hc0:=h1.cell 0
 simp at hc0
 have hlt:=h1.lt
 have Hc:=Lhd (fun W (hW:Below w.heap.size w W)=>containsS_any (fun k=>k<w.heap.size) A2 n2 c2 S x W (h2.kept (Kept.of_below hW)))
 rw[any_mem] at Hc
 generalize decide (x∈S)=q at *
 go_enter Tryz.func40,Tryz.ntmps40
 go_wp2_with (go_at_call 41;refine(Hc.out _ (Below.refl _ _)).mono ?_;rintro y w1 ⟨rfl,rfl⟩)
 go_ret
 exact⟨by simp,Below.refl _ _⟩
theorem indexE_any (g:Nat) (S:List ByteArray) (F:Nat→Prop) (A:Option Addr) (n c:Nat) (xs:List ByteArray) (w:World) (hg:BoxS w g S) (h:LsAt F w 1 SRow A n c xs) :
  Calls Tryz.prog 58 #[.slice A n c,.func (.func 40) #[] #[.pointer (some ⟨g,0,none⟩)]] w fun x w'=>x=.returned (.int .i64 (posB (fun y=>decide (y∈S)) xs))∧Below w.heap.size w w':=by
 have hn:=h.n_le
 have Hl:=Lhd h.len
 have Hg:=Lhd hg
 clear hg
 go_enter Tryz.func58,Tryz.ntmps58
 go_wp2
 go_loopw [8] (fun i wr=>∃ k:Nat,k≤n∧i=.int .i64 k∧(∀ y∈xs.take k,decide (y∈S)=false)∧Below w.heap.size w wr) (fun i _=>n-(intOf i).toNat)
 case atStart=>exact⟨0,Nat.zero_le _,rfl,by simp,Below.refl _ _⟩
 case round =>
  obtain⟨k,hk,rfl,hall,hb⟩:=hrel
  have Hall:=Lhd hall;clear hall
  by_cases hlt:k<n
  ·obtain⟨b,o,x,rfl,hbl,hx,hs,hc0⟩:=strAt (h.below hb) hlt
   have hc:=emitC1_any g S x wr (Hg.out.below hb)
   obtain⟨q,hq⟩:∃ q,decide (x∈S)=q:=⟨_,rfl⟩
   rw[hq] at hc
   have Hc:=Lhd hc
   have Hq:=Lhd hq
   have Hx:=Lhd hx
   clear hc hq hx
   cases q
   ·have Hnx:=Lhd (mem_take_succ (P:=fun y=>decide (y∈S)=false) Hx.out Hall.out Hq.out)
    go_wp2_with (go_at_call 40;refine Hc.out.mono ?_;rintro y w1 ⟨rfl,hb1⟩)
    go_roundw
    case rel=>exact⟨k+1,by omega,by go_num,Hnx.out,hb.trans (hb1.mono hb.size)⟩
    case measure=>simp[intOf];omega
   ·have Hf:=Lhd (posB_yes (p:=fun y=>decide (y∈S)) Hx.out Hq.out Hall.out)
    go_wp2_with (go_at_call 40;refine Hc.out.mono ?_;rintro y w1 ⟨rfl,hb1⟩)
    go_ret
    exact⟨by rw[Hf.out];rfl,hb.trans (hb1.mono hb.size)⟩
  ·go_wp2
   go_ret
   have h1:=Hall.out
   rw[List.take_of_length_le (by rw[Hl.out];omega)] at h1
   exact⟨by rw[posB_no h1];rfl,hb⟩
theorem containsE_any (g:Nat) (S:List ByteArray) (F:Nat→Prop) (A:Option Addr) (n c:Nat) (xs:List ByteArray) (w:World) (hg:BoxS w g S) (h:LsAt F w 1 SRow A n c xs) :
  Calls Tryz.prog 39 #[.slice A n c,.func (.func 40) #[] #[.pointer (some ⟨g,0,none⟩)]] w fun x w'=>x=.returned (.bool (xs.any fun y=>decide (y∈S)))∧Below w.heap.size w w':=by
 have hi:=indexE_any g S F A n c xs w hg h
 have hp:=posB_any (fun y=>decide (y∈S)) xs
 generalize xs.any (fun y=>decide (y∈S))=r at *
 generalize posB (fun y=>decide (y∈S)) xs=i at *
 have Hp:=Lhd hp
 have Hi:=Lhd hi
 clear hp hi
 go_enter Tryz.func39,Tryz.ntmps39
 go_wp2_with (go_at_call 58;refine Hi.out.mono ?_;rintro x w' ⟨rfl,hb⟩)
 go_ret
 exact⟨ret_bool Hp.out,hb⟩
theorem emitC_any (g:Nat) (S:List ByteArray) (x src:ByteArray) (F:Nat→Prop) (A:Option Addr) (n c:Nat) (xs:List ByteArray) (w:World) (hg:BoxS w g S) (h:LsAt F w 1 SRow A n c xs) :
  Calls Tryz.prog 38 #[.agg #[.string x,.string src,.slice A n c],.pointer (some ⟨g,0,none⟩)] w fun e w'=>e=.returned (.bool (xs.any fun y=>decide (y∈S)))∧Below w.heap.size w w':=by
 have hb1:Below w.heap.size w (w.alloc (.cells #[.string x,.string src,.slice A n c] 73)):=(Below.refl _ _).alloc (Nat.le_refl _) _
 have Hc:=Lhd (containsE_any g S F A n c xs _ (hg.below hb1) (h.below hb1))
 generalize xs.any (fun y=>decide (y∈S))=r at *
 have Hb1:=Lhd hb1
 clear hb1
 go_enter Tryz.func38,Tryz.ntmps38
 go_wp2_with (go_at_call 39;refine Hc.out.mono ?_;rintro y w1 ⟨rfl,hb⟩)
 go_ret
 exact⟨by simp,Hb1.out.trans (hb.mono Hb1.out.size)⟩
end Go.Proofs.YtomfpjgcficlgaaGreat

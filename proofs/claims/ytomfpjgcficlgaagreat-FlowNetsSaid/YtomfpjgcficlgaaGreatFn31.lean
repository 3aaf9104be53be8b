/- Parts of this proof, one behind the other: FloQ, FloR, FloV0, FloV. -/
import Derived.Test.YtomfpjgcficlgaaGreatFn30
import Derived.Test.YtomfpjgcficlgaaGreatFn14
import Derived.Test.YtomfpjgcficlgaaGreatFn29
import Derived.Deep.DeepCutAuto
import Derived.Outline
set_option maxRecDepth 1000000
set_option maxHeartbeats 40000000
namespace Go.Proofs.YtomfpjgcficlgaaGreat
open Go.RowKit Go.Afx
def nmA:ByteArray:=⟨#[97]⟩
def nmB:ByteArray:=⟨#[98]⟩
def nmMid:ByteArray:=⟨#[109,105,100]⟩
def nmIn:ByteArray:=⟨#[105,110,49]⟩
def ndB:Nd:=⟨nmB,nmMid,[],false⟩
def ndA:Nd:=⟨nmA,nmIn,[nmMid],false⟩
def exL:List Nd:=[ndB,ndA]
def exSs:List ByteArray:=[nmMid,nmIn]
def exM:List Stp:=[⟨nmB,nmMid,[]⟩,⟨nmA,nmIn,[nmMid]⟩]
theorem ex_fits:Fits exSs exL:=by
 refine⟨by decide,by decide,?_,?_⟩
 ·decide
 ·intro x hx
  simp only[exL,List.mem_cons,List.not_mem_nil,or_false] at hx
  rcases hx with rfl|rfl
  ·exact⟨by decide,by decide,by decide,by simp[ndB]⟩
  ·exact⟨by decide,by decide,by decide,by intro s hs;simp[ndA] at hs;subst hs;decide⟩
theorem freeA_:freeB nmA=true:=by rw[freeB,resB_alt];decide +kernel
theorem freeM_:freeB nmMid=true:=by rw[freeB,resB_alt];decide +kernel
theorem freeI_:freeB nmIn=true:=by rw[freeB,resB_alt];decide +kernel
theorem noS0:noS (⟨#[]⟩:ByteArray)=true:=by unfold noS;decide +kernel
theorem noSI:noS nmIn=false:=by unfold noS;decide +kernel
theorem exA_size:sizeP 2 (prOf ndA)=(2,2):=by decide +kernel
theorem exE_head:headE oneE=true:=by decide +kernel
theorem exE_built (d:Nat):builtE (d+1) oneE=true:=by rw[builtE,exE_head];rfl
theorem exA_shape:shapeB (emSt nmMid)=true:=by
 have h:shapeB (emSt nmMid)=shapeP false false false false false true 1 8 (⟨#[]⟩:ByteArray) nmMid 0 [] 1 0 0:=rfl
 rw[h]
 unfold shapeP
 simp[freeM_,noS0]
theorem exA_heads:headsR nmA nmIn (⟨#[]⟩:ByteArray) 1 []=true:=by
 unfold headsR
 simp[freeA_,noS0,noSI,freesB,freeI_]
theorem exA_right:rightB 2 (prOf ndA)=true:=by
 have h:rightB 2 (prOf ndA)=(headsR nmA nmIn (⟨#[]⟩:ByteArray) 1 []&&smallZ (sizeP 2 (prOf ndA))&&[emSt nmMid].all (builtS 2)):=rfl
 rw[h,exA_heads,exA_size]
 have hb:builtS 2 (emSt nmMid)=true:=by
  rw[builtS,exA_shape]
  simp[emSt,St.exprs,St.body,St.els,exE_built]
 simp[hb,smallZ]
theorem emitsA:emitsP 2 (prOf ndA)=[nmMid]:=by rw[emits_pr,exA_right];rfl
theorem emitsB:emitsP 2 (prOf ndB)=[]:=by rw[emits_pr];split<;>rfl
theorem ex_net:netC (exL.map prOf)=exM:=by
 have e:(exL.map prOf).map (stpOf 2)=exM:=by
  show [stpOf 2 (prOf ndB),stpOf 2 (prOf ndA)]=exM
  unfold stpOf
  rw[emitsA,emitsB]
  rfl
 unfold netC
 rw[e]
 show addStp (addStp [] ⟨nmB,nmMid,[]⟩) ⟨nmA,nmIn,[nmMid]⟩=exM
 have e1:addStp [] ⟨nmB,nmMid,[]⟩=[⟨nmB,nmMid,[]⟩]:=if_neg (by simp)
 rw[e1]
 exact if_neg (by decide)
theorem sortN_nil:sortN []=[]:=by simp[sortN]
theorem sortN_one (x:ByteArray):sortN [x]=[x]:=by simp[sortN,mkB_of]
theorem consIn:consN exM [nmIn]=[nmA]:=by
 have e:(exM.filter (consB [nmIn])).map Stp.name=[nmA]:=by decide +kernel
 unfold consN namesN;rw[e,sortN_one]
theorem consMid:consN exM [nmMid]=[nmB]:=by
 have e:(exM.filter (consB [nmMid])).map Stp.name=[nmB]:=by decide +kernel
 unfold consN namesN;rw[e,sortN_one]
theorem consNil:consN exM []=[]:=by
 have e:(exM.filter (consB [])).map Stp.name=[]:=by decide +kernel
 unfold consN namesN;rw[e,sortN_nil]
theorem emitIn:emitN exM [nmIn]=[]:=by
 have e:(exM.filter (emitB [nmIn])).map Stp.name=[]:=by decide +kernel
 unfold emitN namesN;rw[e,sortN_nil]
theorem emitMid:emitN exM [nmMid]=[nmA]:=by
 have e:(exM.filter (emitB [nmMid])).map Stp.name=[nmA]:=by decide +kernel
 unfold emitN namesN;rw[e,sortN_one]
theorem stpA:stp exM nmA=⟨nmA,nmIn,[nmMid]⟩:=by simp[stp,exM];decide
theorem stpB:stp exM nmB=⟨nmB,nmMid,[]⟩:=by simp[stp,exM]
theorem ab_ne:nmA≠nmB:=by decide
theorem rchB {x:ByteArray} (h:Rch exM [nmB] x):x=nmB:=by
 induction h with
 | base h=>simpa using h
 | step _ hy ih=>subst ih;rw[stpB,consNil] at hy;cases hy
theorem rchA {x:ByteArray}:Rch exM [nmA] x ↔ x=nmA∨x=nmB:=by
 constructor
 ·intro h
  induction h with
  | base h=>exact .inl (by simpa using h)
  | step _ hy ih =>
   rcases ih with rfl|rfl
   ·rw[stpA,consMid] at hy;exact .inr (by simpa using hy)
   ·rw[stpB,consNil] at hy;cases hy
 ·rintro(rfl|rfl)
  ·exact .base (by simp)
  ·exact .step (.base (x:=nmA) (by simp)) (by rw[stpA,consMid];simp)
theorem ex_round:¬ RoundP exM:=by
 rintro⟨s,hs,h⟩
 simp only[exM,List.mem_cons,List.not_mem_nil,or_false] at hs
 rcases hs with rfl|rfl
 ·simp only at h;rw[consNil] at h;exact rch_nil rfl h
 ·simp only at h;rw[consMid] at h;exact ab_ne (rchB h)
theorem rankA (k:Nat):rk exM (k+1) nmA=0:=by
 rw[rk,stpA]
 unfold rankF
 rw[if_neg (by decide),emitIn]
 rfl
theorem rankB (k:Nat):rk exM (k+2) nmB=1:=by
 rw[rk,stpB]
 unfold rankF
 rw[if_neg (by decide),emitMid]
 simp[rankA]
theorem ex_order:leR (rkM exM) nmA nmB:=by
 refine .inl ?_
 unfold rkM
 show rk exM (2+1) nmA<rk exM (1+2) nmB
 rw[rankA,rankB]
 exact Nat.zero_lt_one
theorem ex_flow {r:List ByteArray} (h:FlowIs exM [nmIn] r):r=[nmA,nmB]:=by
 have hperm:r.Perm [nmA,nmB]:=(List.perm_ext_iff_of_nodup h.once (by decide)).2 fun x=>by rw[h.all,consIn,rchA];simp
 exact List.Perm.eq_of_pairwise (le:=leR (rkM exM)) (fun a b _ _ h1 h2=>leR_antisymm h1 h2) h.order (by simp[ex_order]) hperm
theorem ex_bord:bordN exM exSs=[nmIn]:=by
 have e:exSs.filter (fun s=>decide (emitN exM [s]=[]))=[nmIn]:=by
  simp[exSs,emitIn,emitMid]
 unfold bordN
 rw[e]
 decide +kernel
open Go.RowKit Go.Afx Go.Maps
theorem roundT_any (A1 A:Option Addr) (n1 c1 n c:Nat) (ss:List ByteArray) (ps:List Pr) (w:World) (h:CatAt w A1 n1 c1 A n c ss ps) :
  Calls Tryz.prog 15 #[catV A1 n1 c1 A n c] w fun e w'=>∃ q,e=.returned (.bool q)∧(q=true ↔ RoundP (netC ps))∧Below w.heap.size w w':=by
 have hb1:∀ o,Below w.heap.size w (w.alloc o):=fun o=>(Below.refl _ _).alloc (Nat.le_refl _) o
 have Hof:=Lhd (fun W (hW:Below w.heap.size w W)=>(h.below hW).of)
 have Hb1:=Lhd hb1
 clear h hb1
 unfold catV at *
 go_enter Tryz.func15,Tryz.ntmps15
 go_wp2_with (first
  | (go_at_call 23;refine(Hof.out _ (Hb1.out _)).mono ?_;rintro e w2 ⟨b,rfl,hN,hb2⟩;have hbw2:Below w.heap.size w w2:=(Hb1.out _).trans (hb2.mono (by simp));have Hro:=Lhd (round_any _ w2 b (netC ps) hN))
  | (go_at_call 28;refine Hro.out.mono ?_;rintro e w3 ⟨⟨q,rfl,hq⟩,hb3⟩;have Hq:=Lhd hq;clear hq))
 go_ret
 exact⟨q,rfl,Hq.out,hbw2.trans (hb3.mono hbw2.size)⟩
theorem okA:okS nmA:=by unfold okS;decide
theorem okB:okS nmB:=by unfold okS;decide
theorem okMid:okS nmMid:=by unfold okS;decide
theorem okIn:okS nmIn:=by unfold okS;decide
theorem names2 {w:World} {g:Nat} (T:TypeId) (hg:g=w.heap.size) (a b:ByteArray):NamesAt (w.alloc (.cells #[.string a,.string b] T)) (some ⟨g,0,none⟩) 2 2 [a,b]:=by
 subst hg
 exact RowsAt.lit #[.string a,.string b] [[.string a],[.string b]] 2 rfl (by simp) rfl (by unfold maxLen;omega)
theorem names1 {w:World} {g:Nat} (T:TypeId) (hg:g=w.heap.size) (a:ByteArray):NamesAt (w.alloc (.cells #[.string a] T)) (some ⟨g,0,none⟩) 1 1 [a]:=by
 subst hg
 exact RowsAt.lit #[.string a] [[.string a]] 1 rfl (by simp) rfl (by unfold maxLen;omega)
theorem exNodes (w:World):NodsAt (fun _=>True) (((w.alloc (.cells #[.string nmMid] 9)).alloc (.cells #[.string nmB,.string nmMid,.slice none 0 0,.bool false,.string nmA,.string nmIn,.slice (some ⟨w.heap.size,0,none⟩) 1 1,.bool false] 48)).alloc (.cells #[.string nmMid,.string nmIn] 9)) (some ⟨w.heap.size+1,0,none⟩) 2 2 exL∧LsAt (fun _=>True) (((w.alloc (.cells #[.string nmMid] 9)).alloc (.cells #[.string nmB,.string nmMid,.slice none 0 0,.bool false,.string nmA,.string nmIn,.slice (some ⟨w.heap.size,0,none⟩) 1 1,.bool false] 48)).alloc (.cells #[.string nmMid,.string nmIn] 9)) 1 SRow (some ⟨w.heap.size+2,0,none⟩) 2 2 exSs:=by
 constructor
 ·refine NodsAt.below (w:=(w.alloc (.cells #[.string nmMid] 9)).alloc (.cells #[.string nmB,.string nmMid,.slice none 0 0,.bool false,.string nmA,.string nmIn,.slice (some ⟨w.heap.size,0,none⟩) 1 1,.bool false] 48)) ?_ ((Below.refl _ _).alloc (Nat.le_refl _) _)
  refine⟨[[.string nmB,.string nmMid,.slice none 0 0,.bool false],[.string nmA,.string nmIn,.slice (some ⟨w.heap.size,0,none⟩) 1 1,.bool false]],RowsAt.lit' _ _ 2 (by simp) rfl (by simp) rfl (by unfold maxLen;omega),fun _ _ _=>trivial,rfl,fun k r x hr hx=>?_⟩
  match k with
  | 0 =>
   simp[exL] at hr hx
   subst hr hx
   exact⟨rfl,okB,okMid,none,0,0,rfl,LsAt.nil_ _ _ _ _⟩
  | 1 =>
   simp[exL] at hr hx
   subst hr hx
   exact⟨rfl,okA,okIn,some ⟨w.heap.size,0,none⟩,1,1,rfl,(strs_one 9 nmMid rfl okMid).below ((Below.refl _ _).alloc (Nat.le_refl _) _)⟩
  | k+2=>simp at hr
 ·exact strs_two 9 nmMid nmIn (by simp) okMid okIn
section
variable {W:World} {A1 A:Option Addr} {n1 c1 n c:Nat}
theorem exFlow_any {g:Nat} (hg:g=W.heap.size) (hC:CatAt W A1 n1 c1 A n c exSs (exL.map prOf)) :
  Calls Tryz.prog 17 #[.agg #[.slice none 0 0,.slice A1 n1 c1,.slice none 0 0,.slice none 0 0,.slice A n c],.slice (some ⟨g,0,none⟩) 1 1] (W.alloc (.cells #[.string nmIn] 9)) fun e w'=>∃ Ar cr,e=.returned (.tuple #[.slice Ar 2 cr,.int .i64 0])∧NamesAt w' Ar 2 cr [nmA,nmB]∧Below W.heap.size W w':=by
 subst hg
 have hb:Below W.heap.size W (W.alloc (.cells #[.string nmIn] 9)):=(Below.refl _ _).alloc (Nat.le_refl _) _
 have h:=flowT_any A1 A _ n1 c1 n c 1 1 exSs (exL.map prOf) _ [nmIn] _ (hC.below hb) (strs_one 9 nmIn rfl okIn)
 rw[ex_net] at h
 refine h.mono ?_
 rintro e w' (⟨hr,_⟩|⟨_,Ar,cr,r,rfl,hF,hn,hb2⟩)
 ·exact absurd hr ex_round
 ·obtain rfl:=ex_flow hF
  exact⟨Ar,cr,rfl,hn,hb.trans (hb2.mono hb.size)⟩
theorem exBord_any (hC:CatAt W A1 n1 c1 A n c exSs (exL.map prOf)) :
  Calls Tryz.prog 11 #[.agg #[.slice none 0 0,.slice A1 n1 c1,.slice none 0 0,.slice none 0 0,.slice A n c]] W fun e w'=>∃ Ar cr,e=.returned (.slice Ar 1 cr)∧NamesAt w' Ar 1 cr [nmIn]∧Below W.heap.size W w':=by
 have h:=bordT_any A1 A n1 c1 n c exSs (exL.map prOf) W hC
 rw[ex_net] at h
 refine h.mono ?_
 rintro e w' ⟨Ar,cr,rfl,hn,hb⟩
 rw[ex_bord] at hn
 exact⟨Ar,cr,by rw[ex_bord];rfl,hn,hb⟩
theorem exRound_any (hC:CatAt W A1 n1 c1 A n c exSs (exL.map prOf)) :
  Calls Tryz.prog 15 #[.agg #[.slice none 0 0,.slice A1 n1 c1,.slice none 0 0,.slice none 0 0,.slice A n c]] W fun e w'=>e=.returned (.bool false)∧Below W.heap.size W w':=by
 have h:=roundT_any A1 A n1 c1 n c exSs (exL.map prOf) W hC
 rw[ex_net] at h
 refine h.mono ?_
 rintro e w' ⟨q,rfl,hq,hb⟩
 cases q with
 | false=>exact⟨rfl,hb⟩
 | true=>exact absurd (hq.1 rfl) ex_round
theorem same_yes {A2:Option Addr} {c2:Nat} {xs:List ByteArray} (h1:NamesAt W A n c xs) (h2:NamesAt W A2 n c2 xs) :
  Calls Tryz.prog 10 #[.slice A n c,.slice A2 n c2] W fun e w'=>e=.returned (.bool true)∧Below W.heap.size W w':=by
 refine(sameRef_any A A2 n c n c2 xs xs W h1 h2).mono ?_
 rintro e w' ⟨rfl,hb⟩
 exact⟨by simp,hb⟩
theorem exCat_any (w:World):Calls Tryz.prog 5 #[.slice (some ⟨w.heap.size+1,0,none⟩) 2 2,.slice (some ⟨w.heap.size+2,0,none⟩) 2 2] (((w.alloc (.cells #[.string nmMid] 9)).alloc (.cells #[.string nmB,.string nmMid,.slice none 0 0,.bool false,.string nmA,.string nmIn,.slice (some ⟨w.heap.size,0,none⟩) 1 1,.bool false] 48)).alloc (.cells #[.string nmMid,.string nmIn] 9)) fun e w' =>
  ∃ A1 n1 c1 A n c,e=.returned (.tuple #[.agg #[.slice none 0 0,.slice A1 n1 c1,.slice none 0 0,.slice none 0 0,.slice A n c],.bool true])∧CatAt w' A1 n1 c1 A n c exSs (exL.map prOf)∧Below w.heap.size w w':=by
 have hb3:Below w.heap.size w (((w.alloc (.cells #[.string nmMid] 9)).alloc (.cells #[.string nmB,.string nmMid,.slice none 0 0,.bool false,.string nmA,.string nmIn,.slice (some ⟨w.heap.size,0,none⟩) 1 1,.bool false] 48)).alloc (.cells #[.string nmMid,.string nmIn] 9)):=(((Below.refl _ _).alloc (Nat.le_refl _) _).alloc (by simp) _).alloc (by simp;omega) _
 refine(catalog_any (fun _=>True) _ _ _ _ _ _ exSs exL _ (exNodes w).1 (exNodes w).2).mono ?_
 rintro e w4 ⟨hb4,A1,n1,c1,A,n,c,q,rfl,hq1,hq2⟩
 cases q with
 | false=>exact absurd ex_fits (hq2 rfl)
 | true=>exact⟨A1,n1,c1,A,n,c,rfl,(hq1 rfl).1,hb3.trans (hb4.mono hb3.size)⟩
end
theorem awakeT_any (w:World):Calls Tryz.prog 6 #[] w fun e w'=>e=.returned (.bool true)∧Below w.heap.size w w':=by
 have Hcat:=Lhd (exCat_any w)
 have HT:=Lhd (fun (W:World) (A1 A:Option Addr) (n1 c1 n c:Nat) (hC:CatAt W A1 n1 c1 A n c exSs (exL.map prOf)) (W':World) (hW:Below (W.alloc (.cells (catB A1 n1 c1 A n c) 29)).heap.size (W.alloc (.cells (catB A1 n1 c1 A n c) 29)) W') =>
  And.intro (catCells ((IsBlk.laid W 29 (catB A1 n1 c1 A n c)).as_was (hW.block _ (by simp)))) ((hC.below ((Below.refl _ _).alloc (Nat.le_refl _) _)).below hW))
 have HFl:=Lhd (fun (W:World) (A1 A:Option Addr) (n1 c1 n c:Nat) (g:Nat) (hg:g=W.heap.size) (hC:CatAt W A1 n1 c1 A n c exSs (exL.map prOf))=>exFlow_any (W:=W) (A1:=A1) (A:=A) (n1:=n1) (c1:=c1) (n:=n) (c:=c) hg hC)
 have HS1:=Lhd (fun (W:World) (Ar:Option Addr) (cr g:Nat) (hg:g=W.heap.size) (h:NamesAt W Ar 2 cr [nmA,nmB])=>same_yes (h.below ((Below.refl _ _).alloc (Nat.le_refl _) (.cells #[.string nmA,.string nmB] 9))) (names2 (w:=W) 9 hg nmA nmB))
 have HS2:=Lhd (fun (W:World) (Ar:Option Addr) (cr g:Nat) (hg:g=W.heap.size) (h:NamesAt W Ar 1 cr [nmIn])=>same_yes (h.below ((Below.refl _ _).alloc (Nat.le_refl _) (.cells #[.string nmIn] 9))) (names1 (w:=W) 9 hg nmIn))
 have HBd:=Lhd (fun (W:World) (A1 A:Option Addr) (n1 c1 n c:Nat) (hC:CatAt W A1 n1 c1 A n c exSs (exL.map prOf))=>exBord_any hC)
 have HRo:=Lhd (fun (W:World) (A1 A:Option Addr) (n1 c1 n c:Nat) (hC:CatAt W A1 n1 c1 A n c exSs (exL.map prOf))=>exRound_any hC)
 unfold nmA nmB nmMid nmIn at Hcat
 unfold nmA nmB nmIn at HFl
 unfold nmA nmB at HS1
 unfold nmIn at HS2
 have tok1:True:=trivial
 go_enter Tryz.func6,Tryz.ntmps6
 go_wp2_with (first
  | (go_at_call 5;go_loud (refine Hcat.out.mono ?_;rintro e w4 ⟨A1,n1,c1,A,n,c,rfl,hC,hb4⟩;have Hbox:=Lhd (HT.out w4 A1 A n1 c1 n c hC);have hr4:=(HT.out w4 A1 A n1 c1 n c hC _ (Below.refl _ _)).2;have Hr4:=Lhd hr4;clear hr4 hC))
  | (go_at_call 17;go_loud (refine(HFl.out _ A1 A n1 c1 n c (w4.heap.size+1) (by simp) Hr4.out).mono ?_;rintro e w5 ⟨A5,c5,rfl,hn5,hb5⟩;obtain⟨⟨z0,z1,z2,z3,z4,zl⟩,_⟩:=Hbox.out w5 hb5;have Hn5:=Lhd hn5;clear hn5))
  | (go_at_call 10;have _t:=tok1;go_loud (refine(HS1.out _ A5 c5 w5.heap.size rfl Hn5.out).mono ?_;rintro e w6 ⟨rfl,hb6⟩;have hb46:=hb5.trans ((((Below.refl _ _).alloc (Nat.le_refl _) _).trans (hb6.mono (by simp))).mono hb5.size);obtain⟨⟨y0,y1,y2,y3,y4,yl⟩,hC6⟩:=Hbox.out w6 hb46;have HC6:=Lhd hC6;clear tok1 hC6))
  | (go_at_call 11;go_loud (refine(HBd.out _ A1 A n1 c1 n c HC6.out).mono ?_;rintro e w7 ⟨A7,c7,rfl,hn7,hb7⟩;have Hn7:=Lhd hn7;clear hn7))
  | (go_at_call 10;go_loud (refine(HS2.out _ A7 c7 w7.heap.size rfl Hn7.out).mono ?_;rintro e w8 ⟨rfl,hb8⟩;have hb48:=hb46.trans ((hb7.trans ((((Below.refl _ _).alloc (Nat.le_refl _) _).trans (hb8.mono (by simp))).mono hb7.size)).mono hb46.size);obtain⟨⟨x0,x1,x2,x3,x4,xl⟩,hC8⟩:=Hbox.out w8 hb48;have HC8:=Lhd hC8;clear hC8))
  | (go_at_call 15;go_loud (refine(HRo.out _ A1 A n1 c1 n c HC8.out).mono ?_;rintro e w9 ⟨rfl,hb9⟩)))
 go_ret
 exact⟨by simp,hb4.trans ((((Below.refl _ w4).alloc (Nat.le_refl _) _).trans ((hb48.trans (hb9.mono hb48.size)).mono (by simp))).mono hb4.size)⟩
open Go.RowKit Go.Afx
def GivesN (w:World) (l:List ByteArray) (e:Ending) (w':World):Prop:=∃ A n c,e=.returned (.slice A n c)∧NamesAt w' A n c l∧Below w.heap.size w w'
theorem NamesAt.cut {w:World} {A:Option Addr} {n c:Nat} {l:List ByteArray} (h:NamesAt w A n c l) {k:Nat} (hk:k≤n):NamesAt w A k c (l.take k):=by
 have hl:=h.len
 refine⟨by simp;omega,by have:=RowsAt.cap h;omega,RowsAt.max h,fun j row hr=>?_⟩
 rw[List.map_take,List.getElem?_take] at hr
 split at hr
 ·exact RowsAt.at_ h j row hr
 ·cases hr
theorem NamesAt.drop {w:World} {b o n c:Nat} {l:List ByteArray} (h:NamesAt w (some ⟨b,o,none⟩) n c l) {k:Nat} (hk:k≤n):NamesAt w (some ⟨b,o+k,none⟩) (n-k) (c-k) (l.drop k):=by
 have hl:=h.len
 have hc:=RowsAt.cap h
 have hm:=RowsAt.max h
 refine⟨by simp;omega,by omega,by omega,fun j row hr=>?_⟩
 rw[List.map_drop,List.getElem?_drop] at hr
 obtain⟨b2,o2,hA,hb,hc⟩:=RowsAt.at_ h (k+j) row hr
 injection hA with hA
 injection hA with e1 e2
 subst e1 e2
 exact⟨_,_,rfl,hb,fun i u hu=>by have:=hc i u hu;rw[Nat.mul_one] at this ⊢;rwa [Nat.add_assoc o k j]⟩
theorem NamesAt.none_ {w:World} {A:Option Addr} {c:Nat} (hc:c≤maxLen):NamesAt w A 0 c []:=⟨rfl,Nat.zero_le _,hc,fun k row h=>by simp at h⟩
theorem names_oneR {w:World} {T:TypeId} {g:Nat} (s:ByteArray) (hg:g=w.heap.size):NamesAt (w.alloc (.cells #[.string s] T)) (some ⟨g,0,none⟩) 1 1 [s] :=
 RowsAt.lit' _ _ 1 hg rfl srow_len rfl (by unfold maxLen;omega)
theorem names_far {w:World} {base:Nat} {T:TypeId} {sz n c k:Nat} {A:Option Addr} {xs:List Value} (h:w.ownsRow base T sz (.slice A n c) n xs) (hk:A.map (·.block)=some k):base≤k:=by
 cases A with
 | none=>cases hk
 | some a =>
  have e:a.block=k:=by simpa using hk
  have:=(h.lt a.block rfl).1
  omega
theorem own_new {w:World} {base:Nat} {T:TypeId} {sz n c:Nat} {A:Option Addr} {xs:List Value} (h:w.ownsRow base T sz (.slice A n c) n xs):∀ q,A.map (·.block)=some q→base≤q∧q<w.heap.size:=by
 intro k hk
 cases A with
 | none=>cases hk
 | some a =>
  have e:a.block=k:=by simpa using hk
  have:=h.lt a.block rfl
  omega
def GivesF (w:World) (A0:Option Addr) (l:List ByteArray) (e:Ending) (w':World):Prop :=
 ∃ A n c,e=.returned (.slice A n c)∧NamesAt w' A n c l∧Below w.heap.size w w'∧(A=A0∨∀ q,A.map (·.block)=some q→w.heap.size≤q∧q<w'.heap.size)
theorem putF_any (A:Option Addr) (n c:Nat) (l:List ByteArray) (s:ByteArray) (w:World) (h:NamesAt w A n c l) (hbig:n≤1000000) :
    Calls Tryz.prog 9 #[.slice A n c,.string s] w (GivesF w A (putB l s)):=by
  have hn:=RowsAt.n_le h
  have hcap:=RowsAt.cap h
  have hcm:=RowsAt.max h
  have hcm:c≤9223372036854775807:=by unfold maxLen at hcm;omega
  have Hl:=Lhd h.len
  have Hat:=Lhd (fun k hk=>NamesAt.at_ h (k:=k) hk)
  go_enter Tryz.func9,Tryz.ntmps9
  go_wp2
  go_loop [5] (fun i=>∃ k:Nat,k≤n∧i=.int .i64 k∧∀ y∈l.take k,Op.bytesLess y.toList s.toList=true) (fun i=>n-(intOf i).toNat)
  case atStart=>exact⟨0,Nat.zero_le _,rfl,by simp⟩
  case round =>
    obtain⟨k,hk,rfl,hall⟩:=hrel
    have Hall:=Lhd hall
    clear hall
    by_cases hlt:k<n
    · obtain ⟨b,o,x,rfl,hbl,hx,hc0⟩:=Hat.out k hlt
      have Hx:=Lhd hx
      clear hx
      have hd:decide ((k:Int)<(n:Int))=true:=by simp;omega
      obtain⟨q,Hq⟩:∃ q,Hid (Op.bytesLess x.toList s.toList=q):=⟨_,rfl⟩
      have hq:=Hq.out
      cases q
      · by_cases he:(x.toList==s.toList)=true
        · have Hf:Hid (putB l s=l):=Lhd (by
            have hxs:x=s:=by simpa [bs_eq] using he
            rw[putB_at s l k Hall.out (.inr ⟨x,Hx.out,Hq.out⟩),if_pos (by rw[Hx.out,hxs])])
          have h':=h
          have Hn:=Lhd h'
          clear h h'
          go_wp2
          go_ret
          rw[Hf.out]
          exact⟨_,_,_,rfl,Hn.out,Below.refl _ _,.inl rfl⟩
        · have he:(x.toList==s.toList)=false:=by simpa using he
          have Hf:Hid (putB l s=l.take k++s::l.drop k):=Lhd (by
            rw[putB_at s l k Hall.out (.inr ⟨x,Hx.out,Hq.out⟩),if_neg (by
              rw[Hx.out]
              intro h2
              injection h2 with h2
              rw[h2] at he
              simp at he)])
          have Hn:=Lhd h
          clear h
          have hn0:w.ownsRow w.heap.size 9 1 (.slice none 0 0) 0 ([]:List (List Value)).flatten:=World.ownsRow_nil _ _ _ _
          have hcut:=Hn.out.cut (k:=k) (by omega)
          have hm1:0+k≤maxLen:=by unfold maxLen;omega
          have hm2:(0+k)*16≤140737488355328:=by omega
          have hm3:k+1≤maxLen:=by unfold maxLen;omega
          have hm4:(k+1)*16≤140737488355328:=by omega
          have hm5:k+1+(n-k)≤maxLen:=by unfold maxLen;omega
          have hm6:(k+1+(n-k))*16≤140737488355328:=by omega
          go_wp2_with (first
            | (at_builtin;(refine wpList_app (s:=.tmp 34) (x:=.tmp 37) (xs:=[]) rfl rfl tyStr rfl hn0 rfl hcut srow_len srow_one hm1 hm2 ?_ ?_;(exact Nat.le_refl _);intro A3 c3 w3 hown3 hbut3 hf3;rw[Nat.zero_add] at hown3;rw[Nat.zero_add]);(have hb3:Below w.heap.size w w3:=hbut3.below (fun i hi=>by cases hi);have hz3:=hb3.size;have hown3':=hown3.alloc (.cells #[.string s] 9);have hnew3:=names_oneR (w:=w3) (T:=9) s rfl))
            | (at_builtin;(refine wpList_app (s:=.tmp 39) (x:=.tmp 41) (xs:=([]++(l.take k).map srow)) (news:=[s].map srow) rfl rfl tyStr rfl hown3' rfl hnew3 srow_len srow_one hm3 hm4 ?_ ?_;(simp;omega);intro A4 c4 w4 hown4 hbut4 hf4);(have hb4:Below w.heap.size w w4:=(hb3.alloc hz3 _).trans (hbut4.below' (by simp;omega) (fun i hi=>names_far hown3 hi));have hz4:=hb4.size;have hd4:=(Hn.out.below hb4).drop (k:=k) (by omega)))
            | (at_builtin;(refine wpList_app (s:=.tmp 43) (x:=.tmp 46) (xs:=([]++(l.take k).map srow)++[s].map srow) (news:=(l.drop k).map srow) rfl rfl tyStr rfl hown4 rfl hd4 srow_len srow_one hm5 hm6 ?_ ?_;(omega);intro A5 c5 w5 hown5 hbut5 hf5)))
          go_ret
          rw[Hf.out]
          have hl:=Hl.out
          refine⟨A5,_,c5,rfl,?_,hb4.trans (hbut5.below' hz4 (fun i hi=>names_far hown4 hi)),.inr (own_new hown5)⟩
          have e:(([]++(l.take k).map srow)++[s].map srow++(l.drop k).map srow).flatten=((l.take k++s::l.drop k).map srow).flatten:=by simp
          rw[e] at hown5
          exact RowsAt.of_own hown5 srow_len (by simp;omega)
      · have Hnx:=Lhd (mem_take_succ Hx.out Hall.out Hq.out)
        go_wp2
        go_round
        case rel=>exact⟨k+1,by omega,by go_num,Hnx.out⟩
        case measure=>simp[intOf];omega
    · obtain rfl:k=n:=by omega
      have hd:decide ((k:Int)<(k:Int))=false:=by simp
      have Hf:Hid (putB l s=l++[s]):=Lhd (by
        have hl:=Hl.out
        rw[putB_at s l k Hall.out (.inl hl.symm),if_neg (by rw[List.getElem?_eq_none (by omega)];simp),List.take_of_length_le (by omega),List.drop_of_length_le (by omega)])
      have Hn:=Lhd h
      have hn0:w.ownsRow w.heap.size 9 1 (.slice none 0 0) 0 ([]:List (List Value)).flatten:=World.ownsRow_nil _ _ _ _
      have hcut:=Hn.out.cut (k:=k) (by omega)
      have hm1:0+k≤maxLen:=by unfold maxLen;omega
      have hm2:(0+k)*16≤140737488355328:=by omega
      have hm3:k+1≤maxLen:=by unfold maxLen;omega
      have hm4:(k+1)*16≤140737488355328:=by omega
      have hm5:k+1+0≤maxLen:=by unfold maxLen;omega
      have hm6:(k+1+0)*16≤140737488355328:=by omega
      clear h
      go_wp2_with (first
            | (at_builtin;(refine wpList_app (s:=.tmp 34) (x:=.tmp 37) (xs:=[]) rfl rfl tyStr rfl hn0 rfl hcut srow_len srow_one hm1 hm2 ?_ ?_;(exact Nat.le_refl _);intro A3 c3 w3 hown3 hbut3 hf3;rw[Nat.zero_add] at hown3;rw[Nat.zero_add]);(have hb3:Below w.heap.size w w3:=hbut3.below (fun i hi=>by cases hi);have hz3:=hb3.size;have hown3':=hown3.alloc (.cells #[.string s] 9);have hnew3:=names_oneR (w:=w3) (T:=9) s rfl))
            | (at_builtin;(refine wpList_app (s:=.tmp 39) (x:=.tmp 41) (xs:=([]++(l.take k).map srow)) (news:=[s].map srow) rfl rfl tyStr rfl hown3' rfl hnew3 srow_len srow_one hm3 hm4 ?_ ?_;(simp;omega);intro A4 c4 w4 hown4 hbut4 hf4);(have hb4:Below w.heap.size w w4:=(hb3.alloc hz3 _).trans (hbut4.below' (by simp;omega) (fun i hi=>names_far hown3 hi));have hz4:=hb4.size))
            | (at_builtin;(refine wpList_app (s:=.tmp 43) (x:=.tmp 46) (xs:=([]++(l.take k).map srow)++[s].map srow) (news:=([]:List ByteArray).map srow) rfl rfl tyStr rfl hown4 rfl (NamesAt.none_ ?_) srow_len srow_one hm5 hm6 ?_ ?_;(unfold maxLen;omega);(omega);intro A5 c5 w5 hown5 hbut5 hf5)))
      all_goals
        go_ret
        rw[Hf.out]
        have hl:=Hl.out
        refine⟨A5,_,c5,rfl,?_,hb4.trans (hbut5.below' hz4 (fun i hi=>names_far hown4 hi)),.inr (own_new hown5)⟩
        have e:(([]++(l.take k).map srow)++[s].map srow++([]:List ByteArray).map srow).flatten=((l++[s]).map srow).flatten:=by rw[List.take_of_length_le (by omega)];simp
        rw[e] at hown5
        exact RowsAt.of_own hown5 srow_len (by simp;omega)
theorem emGet {F:Nat→Prop} {w:World} {A:Option Addr} {n c:Nat} {ems:List ByteArray} (h:StsAt F 2 w A n c (ems.map emSt)) {k:Nat} (hk:k<n) :
  ∃ b o s Ac cc Ae ce Ab cb Al cl,A=some ⟨b,o,none⟩∧b<w.heap.size∧ems[k]?=some s∧okS s∧w.cell? ⟨b,o+k*8,none⟩=some (.int .i64 8)∧w.cell? ⟨b,o+k*8+1,none⟩=some (.string ⟨#[]⟩) ∧
   w.cell? ⟨b,o+k*8+2,none⟩=some (.string s)∧w.cell? ⟨b,o+k*8+3,none⟩=some (.int .i64 0)∧w.cell? ⟨b,o+k*8+4,none⟩=some (.slice Ac 0 cc)∧w.cell? ⟨b,o+k*8+5,none⟩=some (.slice Ae 1 ce) ∧
   w.cell? ⟨b,o+k*8+6,none⟩=some (.slice Ab 0 cb)∧w.cell? ⟨b,o+k*8+7,none⟩=some (.slice Al 0 cl)∧ExsAt F 1 w Ae 1 ce [oneE]:=by
 obtain⟨b,o,x,Ac,nc,cc,Ae,ne,ce,Ab,nb,cb,Al,nl,cl,hA,hb,hx,h0,h1,h2,h3,h4,h5,h6,h7,_,_,_,_,hs,hC,hE,hB,hL⟩:=StsAt.get h hk
 rw[List.getElem?_map] at hx
 obtain⟨s,hs',rfl⟩:=Option.map_eq_some_iff.1 hx
 obtain rfl:nc=0:=(LsAt.len hC).symm
 obtain rfl:ne=1:=(LsAt.len hE).symm
 obtain rfl:nb=0:=(LsAt.len hB).symm
 obtain rfl:nl=0:=(LsAt.len hL).symm
 exact⟨b,o,s,Ac,cc,Ae,ce,Ab,cb,Al,cl,hA,hb,hs',hs,h0,h1,h2,h3,h4,h5,h6,h7,hE⟩
theorem oneGet {F:Nat→Prop} {w:World} {A:Option Addr} {c:Nat} (h:ExsAt F 1 w A 1 c [oneE]) :
  ∃ b o A2 c2,A=some ⟨b,o,none⟩∧b<w.heap.size∧w.cell? ⟨b,o,none⟩=some (.int .i64 1)∧w.cell? ⟨b,o+1,none⟩=some (.int .i64 1)∧w.cell? ⟨b,o+2,none⟩=some (.string ⟨#[]⟩)∧w.cell? ⟨b,o+3,none⟩=some (.string ⟨#[]⟩)∧w.cell? ⟨b,o+4,none⟩=some (.string ⟨#[]⟩)∧w.cell? ⟨b,o+5,none⟩=some (.slice A2 0 c2):=by
 obtain⟨b,o,e,A2,m2,c2,hA,hb,he,h0,h1,h2,h3,h4,h5,hE,_⟩:=ExsAt.get h (show 0<1 by omega)
 simp only[List.getElem?_cons_zero,Option.some.injEq] at he
 subst he
 obtain⟨_,_,_,_,_,A3,m3,c3,hr,hl⟩:=ExAt.open_ hE
 have hm:m2=0:=by
  have:=(LsAt.len hl).symm
  simp only[List.cons.injEq,Value.slice.injEq,and_true,true_and] at hr
  rw[hr.2.1];exact this
 subst hm
 rw[Nat.zero_mul,Nat.add_zero] at h0 h1 h2 h3 h4 h5
 exact⟨b,o,A2,c2,hA,hb,h0,h1,h2,h3,h4,h5⟩
theorem stBoxV {w:World} {g:Nat} {T:TypeId} {v0 v1 v2 v3 v4 v5 v6 v7:Value} (h:IsBlk w g T #[v0,v1,v2,v3,v4,v5,v6,v7]) :
  w.cell? ⟨g,0,none⟩=some v0∧w.cell? ⟨g,2,none⟩=some v2∧w.cell? ⟨g,5,none⟩=some v5∧w.cell? ⟨g,6,none⟩=some v6∧w.cell? ⟨g,7,none⟩=some v7∧g<w.heap.size:=by
 have h0:=h.cell 0;have h2:=h.cell 2;have h5:=h.cell 5;have h6:=h.cell 6;have h7:=h.cell 7
 simp at h0 h2 h5 h6 h7
 exact⟨h0,h2,h5,h6,h7,h.lt⟩
theorem usesNil (A:Option Addr) (n c:Nat) (A2:Option Addr) (c2:Nat) (w:World) :
  Calls Tryz.prog 21 #[.slice A n c,.slice A2 0 c2,.int .i64 2] w fun e w'=>e=.returned (.slice A n c)∧w=w':=by
 go_enter Tryz.func21,Tryz.ntmps21
 go_wp2
 go_loopw [0,7] (fun u0 i wr=>u0=.slice A n c∧i=.int .i64 0∧w=wr) (fun _ _ _=>0)
 case atStart=>exact⟨rfl,rfl,rfl⟩
 case round =>
  obtain⟨rfl,rfl,rfl⟩:=hrel
  go_wp2
  go_ret
  exact⟨rfl,rfl⟩
theorem putB_len1 (l:List ByteArray) (s:ByteArray):(putB l s).length≤l.length+1:=by
 induction l with
 | nil=>simp[putB]
 | cons a r ih=>rw[putB];split<;>(try split)<;>simp<;>omega
theorem putsB_len1 (L:List ByteArray):∀ l:List ByteArray,(putsB l L).length≤l.length+L.length:=by
 induction L with
 | nil=>intro l;simp[putsB]
 | cons a r ih =>
  intro l
  have h1:=ih (putB l a)
  have h2:=putB_len1 l a
  have h3:putsB l (a::r)=putsB (putB l a) r:=rfl
  rw[h3,List.length_cons];omega
def UsesIn (w:World) (m:Nat) (ems:List ByteArray) (u0 i:Value) (wr:World):Prop :=
 ∃ (k:Nat) (A:Option Addr) (n c:Nat) (l':List ByteArray),k≤m∧i=.int .i64 k∧u0=.slice A n c∧NamesAt wr A n c l'∧l'=putsB [] (ems.take k)∧Below w.heap.size w wr∧∀ q,A.map (·.block)=some q→w.heap.size≤q∧q<wr.heap.size
theorem usesEm_any (F:Nat→Prop) (A2:Option Addr) (m c2:Nat) (ems:List ByteArray) (w:World) (h:StsAt F 2 w A2 m c2 (ems.map emSt)) (hbig:ems.length≤100000) :
  Calls Tryz.prog 21 #[.slice none 0 0,.slice A2 m c2,.int .i64 2] w (GivesF w none (putsB [] ems)):=by
 have hm:=LsAt.n_le h
 have hml:ems.length=m:=by have:=LsAt.len h;simpa using this
 have Hm:=Lhd hml
 have Hx:=Lhd (fun W (hW:Below w.heap.size w W)=>StsAt.below h hW)
 clear h
 go_enter Tryz.func21,Tryz.ntmps21
 go_wp2
 go_loopw [0,7] (fun u0 i wr=>UsesIn w m ems u0 i wr) (fun _ i _=>m-(intOf i).toNat)
 case atStart=>exact⟨0,_,_,_,_,Nat.zero_le _,rfl,rfl,NamesAt.none_ (by unfold maxLen;omega),rfl,Below.refl _ _,fun q hq=>by cases hq⟩
 case round =>
  generalize wr=w1 at *
  obtain⟨k,A4,n4,c4,l',hk,rfl,rfl,hn4,hl',hB,hQ⟩:=hrel
  have HQ:=Lhd hQ
  clear hQ
  have Hl':=Lhd hl'
  have hn4l:=hn4.len
  have hl4:=putsB_len1 (ems.take k) []
  rw[← hl',List.length_nil] at hl4
  have hl5:(ems.take k).length≤k:=by simp;omega
  have HN4:=Lhd hn4
  have HB:=Lhd hB
  clear hl' hn4 hB
  by_cases hlt:k<m
  rotate_left
  ·go_wp2
   go_ret
   refine⟨A4,n4,c4,rfl,?_,HB.out,.inr HQ.out⟩
   have h:=Hl'.out
   rw[List.take_of_length_le (by omega)] at h
   rw[← h]
   exact HN4.out
  obtain⟨b,o,s,Ac2,cc2,Ae2,ce2,Ab2,cb2,Al2,cl2,rfl,hbl,hs,oks,hc0,hc1,hc2,hc3,hc4,hc5,hc6,hc7,_⟩:=emGet (Hx.out w1 HB.out) hlt
  have Hst:=Lhd (show putB l' s=putsB [] (ems.take (k+1)) by
   rw[List.take_add_one,hs,Option.toList_some,putsB_append,← Hl'.out];rfl)
  obtain⟨w2,Hw2⟩:∃ w2,Hid (w2=w1.alloc (.cells #[.int .i64 8,.string ⟨#[]⟩,.string s,.int .i64 0,.slice Ac2 0 cc2,.slice Ae2 1 ce2,.slice Ab2 0 cb2,.slice Al2 0 cl2] 60)):=⟨_,rfl⟩
  have hb2:Below w1.heap.size w1 w2:=by rw[Hw2.out];exact(Below.refl _ _).alloc (Nat.le_refl _) _
  have hx2:IsBlk w2 w1.heap.size 60 #[.int .i64 8,.string ⟨#[]⟩,.string s,.int .i64 0,.slice Ac2 0 cc2,.slice Ae2 1 ce2,.slice Ab2 0 cb2,.slice Al2 0 cl2]:=by rw[Hw2.out];exact IsBlk.laid _ _ _
  have HX:=Lhd (fun W (hW:Below w2.heap.size w2 W)=>stBoxV (hx2.as_was (hW.block _ hx2.lt)))
  have HN2:=Lhd (HN4.out.below hb2)
  have HB2:=Lhd hb2
  obtain⟨i0,i2,i5,i6,i7,il⟩:=stBoxV hx2
  clear hx2 hb2
  go_upto_region 5 with (fail)
  rw[← Hw2.out]
  have Hp:=Lhd (putF_any A4 n4 c4 l' s w2 HN2.out (by omega))
  go_wp2_with (go_at_call 9;refine Hp.out.mono ?_;rintro y w3 ⟨A3,n3,c3,rfl,hn3,hb3,hq3⟩)
  have HN3:=Lhd hn3
  have HB3:=Lhd hb3
  have hB3:Below w.heap.size w w3:=HB.out.trans ((HB2.out.trans (hb3.mono HB2.out.size)).mono HB.out.size)
  have HQ3:Hid (∀ q,A3.map (·.block)=some q→w.heap.size≤q∧q<w3.heap.size):=Lhd (fun q hq=>by
   have z1:=HB.out.size
   have z2:=HB2.out.size
   have z3:=hb3.size
   rcases hq3 with rfl|h
   ·have:=HQ.out q hq;omega
   ·have:=h q hq;omega)
  have HBB:=Lhd hB3
  clear hn3 hq3 hB3
  obtain⟨j0,j2,j5,j6,j7,jl⟩:=HX.out _ hb3
  clear hb3
  go_loopw [0,9] (fun u0 i wr=>u0=.slice A3 n3 c3∧i=.int .i64 0∧w3=wr) (fun _ _ _=>0)
  case atStart=>exact⟨rfl,rfl,rfl⟩
  case round =>
   obtain⟨rfl,rfl,rfl⟩:=hrel
   go_wp2_with (go_at_call 21;refine(usesNil _ _ _ _ _ _).mono ?_;rintro y w8 ⟨rfl,rfl⟩)
   go_roundw
   case rel=>exact⟨k+1,A3,n3,c3,_,by omega,by go_num,rfl,HN3.out,Hst.out,HBB.out,HQ3.out⟩
   case measure=>simp[intOf];omega
end Go.Proofs.YtomfpjgcficlgaaGreat

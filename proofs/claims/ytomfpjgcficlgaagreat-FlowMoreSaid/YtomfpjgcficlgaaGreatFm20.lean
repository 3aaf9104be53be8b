/- Parts of this proof, one behind the other: FloQ, FloR, FloS, FloT. -/
import Derived.Test.YtomfpjgcficlgaaGreatFm19
import Derived.Deep.RegionHeld3
set_option maxRecDepth 1000000
set_option maxHeartbeats 40000000
namespace Go.Proofs.YtomfpjgcficlgaaGreat
open Go.RowKit Go.Afx
def nmA:ByteArray:=⟨#[97]⟩
def nmB:ByteArray:=⟨#[98]⟩
def nmMid:ByteArray:=⟨#[109,105,100]⟩
def nmIn:ByteArray:=⟨#[105,110,49]⟩
def ndB:Nd:=⟨nmB,nmMid,[],false⟩
def ndA:Nd:=⟨nmA,nmIn,[nmMid],false⟩
def exL:List Nd:=[ndB,ndA]
def exSs:List ByteArray:=[nmMid,nmIn]
def exM:List Stp:=[⟨nmB,nmMid,[]⟩,⟨nmA,nmIn,[nmMid]⟩]
theorem ex_fits:Fits exSs exL:=by
 refine⟨by decide,by decide,?_,?_⟩
 ·decide
 ·intro x hx
  simp only[exL,List.mem_cons,List.not_mem_nil,or_false] at hx
  rcases hx with rfl|rfl
  ·exact⟨by decide,by decide,by decide,by simp[ndB]⟩
  ·exact⟨by decide,by decide,by decide,by intro s hs;simp[ndA] at hs;subst hs;decide⟩
theorem freeA_:freeB nmA=true:=by rw[freeB,resB_alt];decide +kernel
theorem freeM_:freeB nmMid=true:=by rw[freeB,resB_alt];decide +kernel
theorem freeI_:freeB nmIn=true:=by rw[freeB,resB_alt];decide +kernel
theorem noS0:noS (⟨#[]⟩:ByteArray)=true:=by unfold noS;decide +kernel
theorem noSI:noS nmIn=false:=by unfold noS;decide +kernel
theorem exA_size:sizeP 2 (prOf ndA)=(2,2):=by decide +kernel
theorem exE_head:headE oneE=true:=by decide +kernel
theorem exE_built (d:Nat):builtE (d+1) oneE=true:=by rw[builtE,exE_head];rfl
theorem exA_shape:shapeB (emSt nmMid)=true:=by
 have h:shapeB (emSt nmMid)=shapeP false false false false false true 1 8 (⟨#[]⟩:ByteArray) nmMid 0 [] 1 0 0:=rfl
 rw[h]
 unfold shapeP
 simp[freeM_,noS0]
theorem exA_heads:headsR nmA nmIn (⟨#[]⟩:ByteArray) 1 []=true:=by
 unfold headsR
 simp[freeA_,noS0,noSI,freesB,freeI_]
theorem exA_right:rightB 2 (prOf ndA)=true:=by
 have h:rightB 2 (prOf ndA)=(headsR nmA nmIn (⟨#[]⟩:ByteArray) 1 []&&smallZ (sizeP 2 (prOf ndA))&&[emSt nmMid].all (builtS 2)):=rfl
 rw[h,exA_heads,exA_size]
 have hb:builtS 2 (emSt nmMid)=true:=by
  rw[builtS,exA_shape]
  simp[emSt,St.exprs,St.body,St.els,exE_built]
 simp[hb,smallZ]
theorem emitsA:emitsP 2 (prOf ndA)=[nmMid]:=by rw[emits_pr,exA_right];rfl
theorem emitsB:emitsP 2 (prOf ndB)=[]:=by rw[emits_pr];split<;>rfl
theorem ex_net:netC (exL.map prOf)=exM:=by
 have e:(exL.map prOf).map (stpOf 2)=exM:=by
  show [stpOf 2 (prOf ndB),stpOf 2 (prOf ndA)]=exM
  unfold stpOf
  rw[emitsA,emitsB]
  rfl
 unfold netC
 rw[e]
 show addStp (addStp [] ⟨nmB,nmMid,[]⟩) ⟨nmA,nmIn,[nmMid]⟩=exM
 have e1:addStp [] ⟨nmB,nmMid,[]⟩=[⟨nmB,nmMid,[]⟩]:=if_neg (by simp)
 rw[e1]
 exact if_neg (by decide)
theorem sortN_nil:sortN []=[]:=by simp[sortN]
theorem sortN_one (x:ByteArray):sortN [x]=[x]:=by simp[sortN,mkB_of]
theorem consIn:consN exM [nmIn]=[nmA]:=by
 have e:(exM.filter (consB [nmIn])).map Stp.name=[nmA]:=by decide +kernel
 unfold consN namesN;rw[e,sortN_one]
theorem consMid:consN exM [nmMid]=[nmB]:=by
 have e:(exM.filter (consB [nmMid])).map Stp.name=[nmB]:=by decide +kernel
 unfold consN namesN;rw[e,sortN_one]
theorem consNil:consN exM []=[]:=by
 have e:(exM.filter (consB [])).map Stp.name=[]:=by decide +kernel
 unfold consN namesN;rw[e,sortN_nil]
theorem emitIn:emitN exM [nmIn]=[]:=by
 have e:(exM.filter (emitB [nmIn])).map Stp.name=[]:=by decide +kernel
 unfold emitN namesN;rw[e,sortN_nil]
theorem emitMid:emitN exM [nmMid]=[nmA]:=by
 have e:(exM.filter (emitB [nmMid])).map Stp.name=[nmA]:=by decide +kernel
 unfold emitN namesN;rw[e,sortN_one]
theorem stpA:stp exM nmA=⟨nmA,nmIn,[nmMid]⟩:=by simp[stp,exM];decide
theorem stpB:stp exM nmB=⟨nmB,nmMid,[]⟩:=by simp[stp,exM]
theorem ab_ne:nmA≠nmB:=by decide
theorem rchB {x:ByteArray} (h:Rch exM [nmB] x):x=nmB:=by
 induction h with
 | base h=>simpa using h
 | step _ hy ih=>subst ih;rw[stpB,consNil] at hy;cases hy
theorem rchA {x:ByteArray}:Rch exM [nmA] x ↔ x=nmA∨x=nmB:=by
 constructor
 ·intro h
  induction h with
  | base h=>exact .inl (by simpa using h)
  | step _ hy ih =>
   rcases ih with rfl|rfl
   ·rw[stpA,consMid] at hy;exact .inr (by simpa using hy)
   ·rw[stpB,consNil] at hy;cases hy
 ·rintro(rfl|rfl)
  ·exact .base (by simp)
  ·exact .step (.base (x:=nmA) (by simp)) (by rw[stpA,consMid];simp)
theorem ex_round:¬ RoundP exM:=by
 rintro⟨s,hs,h⟩
 simp only[exM,List.mem_cons,List.not_mem_nil,or_false] at hs
 rcases hs with rfl|rfl
 ·simp only at h;rw[consNil] at h;exact rch_nil rfl h
 ·simp only at h;rw[consMid] at h;exact ab_ne (rchB h)
theorem rankA (k:Nat):rk exM (k+1) nmA=0:=by
 rw[rk,stpA]
 unfold rankF
 rw[if_neg (by decide),emitIn]
 rfl
theorem rankB (k:Nat):rk exM (k+2) nmB=1:=by
 rw[rk,stpB]
 unfold rankF
 rw[if_neg (by decide),emitMid]
 simp[rankA]
theorem ex_order:leR (rkM exM) nmA nmB:=by
 refine .inl ?_
 unfold rkM
 show rk exM (2+1) nmA<rk exM (1+2) nmB
 rw[rankA,rankB]
 exact Nat.zero_lt_one
theorem ex_flow {r:List ByteArray} (h:FlowIs exM [nmIn] r):r=[nmA,nmB]:=by
 have hperm:r.Perm [nmA,nmB]:=(List.perm_ext_iff_of_nodup h.once (by decide)).2 fun x=>by rw[h.all,consIn,rchA];simp
 exact List.Perm.eq_of_pairwise (le:=leR (rkM exM)) (fun a b _ _ h1 h2=>leR_antisymm h1 h2) h.order (by simp[ex_order]) hperm
theorem ex_bord:bordN exM exSs=[nmIn]:=by
 have e:exSs.filter (fun s=>decide (emitN exM [s]=[]))=[nmIn]:=by
  simp[exSs,emitIn,emitMid]
 unfold bordN
 rw[e]
 decide +kernel
open Go.RowKit Go.Afx Go.Maps
theorem roundT_any (A1 A:Option Addr) (n1 c1 n c:Nat) (ss:List ByteArray) (ps:List Pr) (w:World) (h:CatAt w A1 n1 c1 A n c ss ps) :
  Calls Tryz.prog 15 #[catV A1 n1 c1 A n c] w fun e w'=>∃ q,e=.returned (.bool q)∧(q=true ↔ RoundP (netC ps))∧Below w.heap.size w w':=by
 have hb1:∀ o,Below w.heap.size w (w.alloc o):=fun o=>(Below.refl _ _).alloc (Nat.le_refl _) o
 have Hof:=Lhd (fun W (hW:Below w.heap.size w W)=>(h.below hW).of)
 have Hb1:=Lhd hb1
 clear h hb1
 unfold catV at *
 go_enter Tryz.func15,Tryz.ntmps15
 go_wp2_with (first
  | (go_at_call 23;refine(Hof.out _ (Hb1.out _)).mono ?_;rintro e w2 ⟨b,rfl,hN,hb2⟩;have hbw2:Below w.heap.size w w2:=(Hb1.out _).trans (hb2.mono (by simp));have Hro:=Lhd (round_any _ w2 b (netC ps) hN))
  | (go_at_call 28;refine Hro.out.mono ?_;rintro e w3 ⟨⟨q,rfl,hq⟩,hb3⟩;have Hq:=Lhd hq;clear hq))
 go_ret
 exact⟨q,rfl,Hq.out,hbw2.trans (hb3.mono hbw2.size)⟩
theorem okA:okS nmA:=by unfold okS;decide
theorem okB:okS nmB:=by unfold okS;decide
theorem okMid:okS nmMid:=by unfold okS;decide
theorem okIn:okS nmIn:=by unfold okS;decide
theorem names2 {w:World} {g:Nat} (T:TypeId) (hg:g=w.heap.size) (a b:ByteArray):NamesAt (w.alloc (.cells #[.string a,.string b] T)) (some ⟨g,0,none⟩) 2 2 [a,b]:=by
 subst hg
 exact RowsAt.lit #[.string a,.string b] [[.string a],[.string b]] 2 rfl (by simp) rfl (by unfold maxLen;omega)
theorem names1 {w:World} {g:Nat} (T:TypeId) (hg:g=w.heap.size) (a:ByteArray):NamesAt (w.alloc (.cells #[.string a] T)) (some ⟨g,0,none⟩) 1 1 [a]:=by
 subst hg
 exact RowsAt.lit #[.string a] [[.string a]] 1 rfl (by simp) rfl (by unfold maxLen;omega)
theorem exNodes (w:World):NodsAt (fun _=>True) (((w.alloc (.cells #[.string nmMid] 9)).alloc (.cells #[.string nmB,.string nmMid,.slice none 0 0,.bool false,.string nmA,.string nmIn,.slice (some ⟨w.heap.size,0,none⟩) 1 1,.bool false] 48)).alloc (.cells #[.string nmMid,.string nmIn] 9)) (some ⟨w.heap.size+1,0,none⟩) 2 2 exL∧LsAt (fun _=>True) (((w.alloc (.cells #[.string nmMid] 9)).alloc (.cells #[.string nmB,.string nmMid,.slice none 0 0,.bool false,.string nmA,.string nmIn,.slice (some ⟨w.heap.size,0,none⟩) 1 1,.bool false] 48)).alloc (.cells #[.string nmMid,.string nmIn] 9)) 1 SRow (some ⟨w.heap.size+2,0,none⟩) 2 2 exSs:=by
 constructor
 ·refine NodsAt.below (w:=(w.alloc (.cells #[.string nmMid] 9)).alloc (.cells #[.string nmB,.string nmMid,.slice none 0 0,.bool false,.string nmA,.string nmIn,.slice (some ⟨w.heap.size,0,none⟩) 1 1,.bool false] 48)) ?_ ((Below.refl _ _).alloc (Nat.le_refl _) _)
  refine⟨[[.string nmB,.string nmMid,.slice none 0 0,.bool false],[.string nmA,.string nmIn,.slice (some ⟨w.heap.size,0,none⟩) 1 1,.bool false]],RowsAt.lit' _ _ 2 (by simp) rfl (by simp) rfl (by unfold maxLen;omega),fun _ _ _=>trivial,rfl,fun k r x hr hx=>?_⟩
  match k with
  | 0 =>
   simp[exL] at hr hx
   subst hr hx
   exact⟨rfl,okB,okMid,none,0,0,rfl,LsAt.nil_ _ _ _ _⟩
  | 1 =>
   simp[exL] at hr hx
   subst hr hx
   exact⟨rfl,okA,okIn,some ⟨w.heap.size,0,none⟩,1,1,rfl,(strs_one 9 nmMid rfl okMid).below ((Below.refl _ _).alloc (Nat.le_refl _) _)⟩
  | k+2=>simp at hr
 ·exact strs_two 9 nmMid nmIn (by simp) okMid okIn
section
variable {W:World} {A1 A:Option Addr} {n1 c1 n c:Nat}
theorem exFlow_any {g:Nat} (hg:g=W.heap.size) (hC:CatAt W A1 n1 c1 A n c exSs (exL.map prOf)) :
  Calls Tryz.prog 17 #[.agg #[.slice none 0 0,.slice A1 n1 c1,.slice none 0 0,.slice none 0 0,.slice A n c],.slice (some ⟨g,0,none⟩) 1 1] (W.alloc (.cells #[.string nmIn] 9)) fun e w'=>∃ Ar cr,e=.returned (.tuple #[.slice Ar 2 cr,.int .i64 0])∧NamesAt w' Ar 2 cr [nmA,nmB]∧Below W.heap.size W w':=by
 subst hg
 have hb:Below W.heap.size W (W.alloc (.cells #[.string nmIn] 9)):=(Below.refl _ _).alloc (Nat.le_refl _) _
 have h:=flowT_any A1 A _ n1 c1 n c 1 1 exSs (exL.map prOf) _ [nmIn] _ (hC.below hb) (strs_one 9 nmIn rfl okIn)
 rw[ex_net] at h
 refine h.mono ?_
 rintro e w' (⟨hr,_⟩|⟨_,Ar,cr,r,rfl,hF,hn,hb2⟩)
 ·exact absurd hr ex_round
 ·obtain rfl:=ex_flow hF
  exact⟨Ar,cr,rfl,hn,hb.trans (hb2.mono hb.size)⟩
theorem exBord_any (hC:CatAt W A1 n1 c1 A n c exSs (exL.map prOf)) :
  Calls Tryz.prog 11 #[.agg #[.slice none 0 0,.slice A1 n1 c1,.slice none 0 0,.slice none 0 0,.slice A n c]] W fun e w'=>∃ Ar cr,e=.returned (.slice Ar 1 cr)∧NamesAt w' Ar 1 cr [nmIn]∧Below W.heap.size W w':=by
 have h:=bordT_any A1 A n1 c1 n c exSs (exL.map prOf) W hC
 rw[ex_net] at h
 refine h.mono ?_
 rintro e w' ⟨Ar,cr,rfl,hn,hb⟩
 rw[ex_bord] at hn
 exact⟨Ar,cr,by rw[ex_bord];rfl,hn,hb⟩
theorem exRound_any (hC:CatAt W A1 n1 c1 A n c exSs (exL.map prOf)) :
  Calls Tryz.prog 15 #[.agg #[.slice none 0 0,.slice A1 n1 c1,.slice none 0 0,.slice none 0 0,.slice A n c]] W fun e w'=>e=.returned (.bool false)∧Below W.heap.size W w':=by
 have h:=roundT_any A1 A n1 c1 n c exSs (exL.map prOf) W hC
 rw[ex_net] at h
 refine h.mono ?_
 rintro e w' ⟨q,rfl,hq,hb⟩
 cases q with
 | false=>exact⟨rfl,hb⟩
 | true=>exact absurd (hq.1 rfl) ex_round
theorem same_yes {A2:Option Addr} {c2:Nat} {xs:List ByteArray} (h1:NamesAt W A n c xs) (h2:NamesAt W A2 n c2 xs) :
  Calls Tryz.prog 10 #[.slice A n c,.slice A2 n c2] W fun e w'=>e=.returned (.bool true)∧Below W.heap.size W w':=by
 refine(sameRef_any A A2 n c n c2 xs xs W h1 h2).mono ?_
 rintro e w' ⟨rfl,hb⟩
 exact⟨by simp,hb⟩
theorem exCat_any (w:World):Calls Tryz.prog 5 #[.slice (some ⟨w.heap.size+1,0,none⟩) 2 2,.slice (some ⟨w.heap.size+2,0,none⟩) 2 2] (((w.alloc (.cells #[.string nmMid] 9)).alloc (.cells #[.string nmB,.string nmMid,.slice none 0 0,.bool false,.string nmA,.string nmIn,.slice (some ⟨w.heap.size,0,none⟩) 1 1,.bool false] 48)).alloc (.cells #[.string nmMid,.string nmIn] 9)) fun e w' =>
  ∃ A1 n1 c1 A n c,e=.returned (.tuple #[.agg #[.slice none 0 0,.slice A1 n1 c1,.slice none 0 0,.slice none 0 0,.slice A n c],.bool true])∧CatAt w' A1 n1 c1 A n c exSs (exL.map prOf)∧Below w.heap.size w w':=by
 have hb3:Below w.heap.size w (((w.alloc (.cells #[.string nmMid] 9)).alloc (.cells #[.string nmB,.string nmMid,.slice none 0 0,.bool false,.string nmA,.string nmIn,.slice (some ⟨w.heap.size,0,none⟩) 1 1,.bool false] 48)).alloc (.cells #[.string nmMid,.string nmIn] 9)):=(((Below.refl _ _).alloc (Nat.le_refl _) _).alloc (by simp) _).alloc (by simp;omega) _
 refine(catalog_any (fun _=>True) _ _ _ _ _ _ exSs exL _ (exNodes w).1 (exNodes w).2).mono ?_
 rintro e w4 ⟨hb4,A1,n1,c1,A,n,c,q,rfl,hq1,hq2⟩
 cases q with
 | false=>exact absurd ex_fits (hq2 rfl)
 | true=>exact⟨A1,n1,c1,A,n,c,rfl,(hq1 rfl).1,hb3.trans (hb4.mono hb3.size)⟩
end
theorem awakeT_any (w:World):Calls Tryz.prog 6 #[] w fun e w'=>e=.returned (.bool true)∧Below w.heap.size w w':=by
 have Hcat:=Lhd (exCat_any w)
 have HT:=Lhd (fun (W:World) (A1 A:Option Addr) (n1 c1 n c:Nat) (hC:CatAt W A1 n1 c1 A n c exSs (exL.map prOf)) (W':World) (hW:Below (W.alloc (.cells (catB A1 n1 c1 A n c) 29)).heap.size (W.alloc (.cells (catB A1 n1 c1 A n c) 29)) W') =>
  And.intro (catCells ((IsBlk.laid W 29 (catB A1 n1 c1 A n c)).as_was (hW.block _ (by simp)))) ((hC.below ((Below.refl _ _).alloc (Nat.le_refl _) _)).below hW))
 have HFl:=Lhd (fun (W:World) (A1 A:Option Addr) (n1 c1 n c:Nat) (g:Nat) (hg:g=W.heap.size) (hC:CatAt W A1 n1 c1 A n c exSs (exL.map prOf))=>exFlow_any (W:=W) (A1:=A1) (A:=A) (n1:=n1) (c1:=c1) (n:=n) (c:=c) hg hC)
 have HS1:=Lhd (fun (W:World) (Ar:Option Addr) (cr g:Nat) (hg:g=W.heap.size) (h:NamesAt W Ar 2 cr [nmA,nmB])=>same_yes (h.below ((Below.refl _ _).alloc (Nat.le_refl _) (.cells #[.string nmA,.string nmB] 9))) (names2 (w:=W) 9 hg nmA nmB))
 have HS2:=Lhd (fun (W:World) (Ar:Option Addr) (cr g:Nat) (hg:g=W.heap.size) (h:NamesAt W Ar 1 cr [nmIn])=>same_yes (h.below ((Below.refl _ _).alloc (Nat.le_refl _) (.cells #[.string nmIn] 9))) (names1 (w:=W) 9 hg nmIn))
 have HBd:=Lhd (fun (W:World) (A1 A:Option Addr) (n1 c1 n c:Nat) (hC:CatAt W A1 n1 c1 A n c exSs (exL.map prOf))=>exBord_any hC)
 have HRo:=Lhd (fun (W:World) (A1 A:Option Addr) (n1 c1 n c:Nat) (hC:CatAt W A1 n1 c1 A n c exSs (exL.map prOf))=>exRound_any hC)
 unfold nmA nmB nmMid nmIn at Hcat
 unfold nmA nmB nmIn at HFl
 unfold nmA nmB at HS1
 unfold nmIn at HS2
 have tok1:True:=trivial
 go_enter Tryz.func6,Tryz.ntmps6
 go_wp2_with (first
  | (go_at_call 5;go_loud (refine Hcat.out.mono ?_;rintro e w4 ⟨A1,n1,c1,A,n,c,rfl,hC,hb4⟩;have Hbox:=Lhd (HT.out w4 A1 A n1 c1 n c hC);have hr4:=(HT.out w4 A1 A n1 c1 n c hC _ (Below.refl _ _)).2;have Hr4:=Lhd hr4;clear hr4 hC))
  | (go_at_call 17;go_loud (refine(HFl.out _ A1 A n1 c1 n c (w4.heap.size+1) (by simp) Hr4.out).mono ?_;rintro e w5 ⟨A5,c5,rfl,hn5,hb5⟩;obtain⟨⟨z0,z1,z2,z3,z4,zl⟩,_⟩:=Hbox.out w5 hb5;have Hn5:=Lhd hn5;clear hn5))
  | (go_at_call 10;have _t:=tok1;go_loud (refine(HS1.out _ A5 c5 w5.heap.size rfl Hn5.out).mono ?_;rintro e w6 ⟨rfl,hb6⟩;have hb46:=hb5.trans ((((Below.refl _ _).alloc (Nat.le_refl _) _).trans (hb6.mono (by simp))).mono hb5.size);obtain⟨⟨y0,y1,y2,y3,y4,yl⟩,hC6⟩:=Hbox.out w6 hb46;have HC6:=Lhd hC6;clear tok1 hC6))
  | (go_at_call 11;go_loud (refine(HBd.out _ A1 A n1 c1 n c HC6.out).mono ?_;rintro e w7 ⟨A7,c7,rfl,hn7,hb7⟩;have Hn7:=Lhd hn7;clear hn7))
  | (go_at_call 10;go_loud (refine(HS2.out _ A7 c7 w7.heap.size rfl Hn7.out).mono ?_;rintro e w8 ⟨rfl,hb8⟩;have hb48:=hb46.trans ((hb7.trans ((((Below.refl _ _).alloc (Nat.le_refl _) _).trans (hb8.mono (by simp))).mono hb7.size)).mono hb46.size);obtain⟨⟨x0,x1,x2,x3,x4,xl⟩,hC8⟩:=Hbox.out w8 hb48;have HC8:=Lhd hC8;clear hC8))
  | (go_at_call 15;go_loud (refine(HRo.out _ A1 A n1 c1 n c HC8.out).mono ?_;rintro e w9 ⟨rfl,hb9⟩)))
 go_ret
 exact⟨by simp,hb4.trans ((((Below.refl _ w4).alloc (Nat.le_refl _) _).trans ((hb48.trans (hb9.mono hb48.size)).mono (by simp))).mono hb4.size)⟩
open Go.RowKit Go.Afx Go.Maps
def nmZ:ByteArray:=⟨#[122,122]⟩
def prZ:Pr:=⟨nmZ,⟨#[]⟩,⟨#[]⟩,1,[],[]⟩
theorem okZ:okS nmZ:=by unfold okS;decide
theorem stp_z:stpOf 2 prZ=noStp nmZ:=by
 have e:emitsP 2 prZ=[]:=by unfold emitsP;split<;>rfl
 unfold stpOf
 rw[e]
 rfl
theorem net_z {ps:List Pr} (h:nmZ ∉ ps.map Pr.name):netC (prZ::ps)=noStp nmZ::netC ps:=by
 unfold netC
 rw[List.map_cons,stp_z]
 refine netOf_more ?_
 rw[List.map_map]
 exact h
theorem net_no {ps:List Pr} (h:nmZ ∉ ps.map Pr.name):nmZ ∉ (netC ps).map Stp.name:=fun hh=>h (by have:=netOf_names hh;rw[List.map_map] at this;exact this)
def FlowIn (M:List Stp) (S r:List ByteArray) (ev:Int):Prop:=(RoundP M∧r=[]∧ev=20)∨(¬ RoundP M∧FlowIs M S r∧ev=0)
theorem flowIn_of {M:List Stp} {S:List ByteArray} {w:World} {e:Ending} {w':World} (h:FlowRes M S w e w'):∃ A c r ev,e=.returned (.tuple #[.slice A (List.length r) c,.int .i64 ev])∧FlowIn M S r ev∧NamesAt w' A r.length c r∧Below w.heap.size w w':=by
 rcases h with ⟨hr,rfl,hb⟩|⟨hr,A,c,r,rfl,hF,hn,hb⟩
 ·exact⟨none,0,[],20,rfl,.inl ⟨hr,rfl,rfl⟩,RowsAt.nil_ _ _,hb⟩
 ·exact⟨A,c,r,0,rfl,.inr ⟨hr,hF,rfl⟩,hn,hb⟩
theorem flowIn_more {M:List Stp} {z:ByteArray} (hz:z ∉ M.map Stp.name) (hn:(M.map Stp.name).Nodup) {S r r':List ByteArray} {ev ev':Int} (h:FlowIn M S r ev) (h':FlowIn (noStp z::M) S r' ev'):r'=r∧ev'=ev:=by
 rcases h with ⟨hr,rfl,rfl⟩|⟨hr,hF,rfl⟩<;>rcases h' with ⟨hr',rfl,rfl⟩|⟨hr',hF',rfl⟩
 ·exact⟨rfl,rfl⟩
 ·exact absurd ((round_more hz).2 hr) hr'
 ·exact absurd ((round_more hz).1 hr') hr
 ·exact⟨(flow_more hz hn hr hF hF').symm,rfl⟩
theorem rank_more {M:List Stp} {z:ByteArray} (hz:z ∉ M.map Stp.name) {S r:List ByteArray} {ev:Int} (h:FlowIn M S r ev) {w:World} {e:Ending} {w':World} (hR:RankRes (noStp z::M) z w e w'):e=.returned (.tuple #[.int .i64 0,.int .i64 ev])∧Below w.heap.size w w':=by
 obtain⟨h1,hb⟩:=hR
 refine⟨?_,hb⟩
 rcases h with ⟨hr,_,rfl⟩|⟨hr,_,rfl⟩
 ·rcases h1 with ⟨_,rfl⟩|⟨h2,_⟩
  ·rfl
  ·exact absurd ((round_more hz).2 hr) h2
 ·rcases h1 with ⟨h2,_⟩|⟨_,rfl⟩
  ·exact absurd ((round_more hz).1 h2) hr
  ·rw[rkM_none];rfl
theorem bord_more (M:List Stp) (z:ByteArray) (ss:List ByteArray):bordN (noStp z::M) ss=bordN M ss:=by
 have e:ss.filter (fun s=>decide (emitN (noStp z::M) [s]=[]))=ss.filter (fun s=>decide (emitN M [s]=[])):=List.filter_congr fun s _=>by rw[emit_more]
 unfold bordN
 rw[e]
theorem CatAt.more {w w6:World} {A1 A A6:Option Addr} {n1 c1 n c c6:Nat} {ss:List ByteArray} {ps:List Pr} (h:CatAt w A1 n1 c1 A n c ss ps) (hn:n≤10) (hb6:Below w.heap.size w w6) {rows:List (List Value)} {base:Nat}
  (hrows:∀ (k:Nat) (r:List Value) (x:Pr),rows[k]?=some r→ps[k]?=some x→r.length=6∧PrAt (fun k=>k<w.heap.size) 2 w r x) (hlr:rows.length=ps.length)
  (hown:w6.ownsRow base 46 6 (.slice A6 (1+n) c6) (1+n) ([[Value.string nmZ,Value.string ⟨#[]⟩,Value.string ⟨#[]⟩,Value.int .i64 1,Value.slice none 0 0,Value.slice none 0 0]]++rows).flatten):CatAt w6 A1 n1 c1 A6 (1+n) c6 ss (prZ::ps):=by
 have hl:=h.procs.len
 have hz6:∀ r∈rows,r.length=6:=fun r hr=>by
  obtain⟨k,hk⟩:=List.mem_iff_getElem?.1 hr
  have hlt:=(List.getElem?_eq_some_iff.1 hk).1
  exact(hrows k r _ hk (List.getElem?_eq_getElem (by omega))).1
 refine⟨(h.below hb6).streams,⟨_,RowsAt.of_own hown (fun r hr=>?_) (by simp;omega),fun a ha _=>?_,by simp[hlr],fun k r x hr hx=>?_⟩,h.few1,by omega,fun p hp=>?_⟩
 ·rcases List.mem_append.1 hr with hr|hr
  ·simp at hr;subst hr;rfl
  ·exact hz6 r hr
 ·subst ha
  exact(hown.lt a.block rfl).2
 ·cases k with
  | zero =>
   simp at hr hx
   subst hr hx
   exact⟨rfl,okZ,by show okS ⟨#[]⟩;unfold okS;decide,by show okS ⟨#[]⟩;unfold okS;decide,by show okI 1;unfold okI;omega,none,0,0,none,0,0,rfl,LsAt.nil_ _ _ _ _,LsAt.nil_ _ _ _ _⟩
  | succ k =>
   simp at hr hx
   obtain⟨h6,hp⟩:=hrows k r x hr hx
   exact⟨h6,PrAt.conv (fun q hq=>Nat.lt_of_lt_of_le hq hb6.size) (Kept.of_below hb6) (Nat.le_refl _) hp⟩
 ·rcases List.mem_cons.1 hp with rfl|hp
  ·have e:emitsP 2 prZ=[]:=by unfold emitsP;split<;>rfl
   rw[e]
   exact⟨by show (0:Nat)≤_;omega,by simp,by simp⟩
  ·exact h.small p hp
theorem names_pr (l:List Nd):(l.map prOf).map Pr.name=l.map Nd.name:=by rw[List.map_map];rfl
theorem flowMore_walk (F:Nat→Prop) (A A1 A2:Option Addr) (n n1 n2 c c1 c2:Nat) (l:List Nd) (ss ask:List ByteArray) (w:World) (hl:NodsAt F w A n c l) (hs:LsAt F w 1 SRow A1 n1 c1 ss) (ha:LsAt F w 1 SRow A2 n2 c2 ask) :
  Calls Tryz.prog 4 #[.slice A n c,.slice A1 n1 c1,.slice A2 n2 c2] w fun e w'=>e=.returned (.bool true)∧Below w.heap.size w w':=by
 have hnl:=LsAt.n_le hl
 have hn2:=ha.n_le
 have Hcat:=Lhd (catalog_any F A1 A n1 c1 n c ss l w hl hs)
 have HL:=Lhd (fun W (hW:Below w.heap.size w W)=>NodsAt.below hl hW)
 have HA:=Lhd (fun W (hW:Below w.heap.size w W)=>ha.below hW)
 have Hll:=Lhd (LsAt.len hl)
 clear hl hs ha
 go_enter Tryz.func4,Tryz.ntmps4
 go_wp2_with (fail)
 refine Hcat.out.mono ?_
 rintro e w4 ⟨hb4,A5,n5,c5,A6,n6,c6,q,rfl,hq1,hq2⟩
 unfold catV
 cases q with
 | false =>
  clear hq1 hq2
  go_wp2_with (go_at_call 6;refine(awakeT_any _).mono ?_;rintro e w5 ⟨rfl,hb5⟩)
  go_ret
  exact⟨rfl,hb4.trans ((((Below.refl _ w4).alloc (Nat.le_refl _) _).trans (hb5.mono (by simp))).mono hb4.size)⟩
 | true =>
  obtain⟨hC,hn6⟩:=hq1 rfl
  clear hq1 hq2
  by_cases h8:8<n2
  ·have d8:decide ((8:Int)<(n2:Int))=true:=by simp;omega
   clear hC
   go_wp2_with (go_at_call 6;refine(awakeT_any _).mono ?_;rintro e w5 ⟨rfl,hb5⟩)
   go_ret
   exact⟨rfl,hb4.trans ((((Below.refl _ w4).alloc (Nat.le_refl _) _).trans (hb5.mono (by simp))).mono hb4.size)⟩
  have d8:decide ((8:Int)<(n2:Int))=false:=by simp;omega
  have HC:=Lhd hC
  obtain⟨rows,hr1,_,hr3,hr4⟩:=hC.procs
  have Hr:=Lhd (And.intro hr3 hr4)
  have h6:∀ r∈rows,r.length=6:=fun r hr=>by
   obtain⟨k,hk⟩:=List.mem_iff_getElem?.1 hr
   have hlt:=(List.getElem?_eq_some_iff.1 hk).1
   exact(hr4 k r _ hk (List.getElem?_eq_getElem (by omega))).1
  have h1c:∀ r∈rows,∀ u∈r,u.oneCell'=true:=fun r hr=>by
   obtain⟨k,hk⟩:=List.mem_iff_getElem?.1 hr
   have hlt:=(List.getElem?_eq_some_iff.1 hk).1
   obtain⟨_,_,_,_,_,Ap,np,cp,Ab,nb,cb,rfl,_⟩:=hr4 k r _ hk (List.getElem?_eq_getElem (by omega))
   intro u hu
   simp only[List.mem_cons,List.not_mem_nil,or_false] at hu
   rcases hu with rfl|rfl|rfl|rfl|rfl|rfl<;>rfl
  have hb45:Below w4.heap.size w4 (((w4.alloc (.cells (catB A5 n5 c5 A6 n6 c6) 29)).alloc (.cells (catB A5 n5 c5 A6 n6 c6) 29)).alloc (.cells #[.string nmZ,.string ⟨#[]⟩,.string ⟨#[]⟩,.int .i64 1,.slice none 0 0,.slice none 0 0] 46)):=(((Below.refl _ _).alloc (Nat.le_refl _) _).alloc (by simp) _).alloc (by simp;omega) _
  have hnews:RowsAt (((w4.alloc (.cells (catB A5 n5 c5 A6 n6 c6) 29)).alloc (.cells (catB A5 n5 c5 A6 n6 c6) 29)).alloc (.cells #[.string nmZ,.string ⟨#[]⟩,.string ⟨#[]⟩,.int .i64 1,.slice none 0 0,.slice none 0 0] 46)) 6 A6 n6 c6 rows:=hr1.below hb45
  have hown5:(((w4.alloc (.cells (catB A5 n5 c5 A6 n6 c6) 29)).alloc (.cells (catB A5 n5 c5 A6 n6 c6) 29)).alloc (.cells #[.string nmZ,.string ⟨#[]⟩,.string ⟨#[]⟩,.int .i64 1,.slice none 0 0,.slice none 0 0] 46)).ownsRow (w4.heap.size+2) 46 6 (.slice (some ⟨w4.heap.size+2,0,none⟩) 1 1) 1 ([[Value.string nmZ,Value.string ⟨#[]⟩,Value.string ⟨#[]⟩,Value.int .i64 1,Value.slice none 0 0,Value.slice none 0 0]]:List (List Value)).flatten:=by
   have h:=World.ownsRow_lit (base:=w4.heap.size+2) (e:=46) (size:=6) ((w4.alloc (.cells (catB A5 n5 c5 A6 n6 c6) 29)).alloc (.cells (catB A5 n5 c5 A6 n6 c6) 29)) #[.string nmZ,.string ⟨#[]⟩,.string ⟨#[]⟩,.int .i64 1,.slice none 0 0,.slice none 0 0] 1 (by simp) (by unfold maxLen;omega) rfl
   have e:((w4.alloc (.cells (catB A5 n5 c5 A6 n6 c6) 29)).alloc (.cells (catB A5 n5 c5 A6 n6 c6) 29)).heap.size=w4.heap.size+2:=by simp
   rw[e] at h
   exact h
  have hk7:IsBlk (((w4.alloc (.cells (catB A5 n5 c5 A6 n6 c6) 29)).alloc (.cells (catB A5 n5 c5 A6 n6 c6) 29)).alloc (.cells #[.string nmZ,.string ⟨#[]⟩,.string ⟨#[]⟩,.int .i64 1,.slice none 0 0,.slice none 0 0] 46)) w4.heap.size 29 (catB A5 n5 c5 A6 n6 c6):=((IsBlk.laid _ _ _).alloc _).alloc _
  have hk9:IsBlk (((w4.alloc (.cells (catB A5 n5 c5 A6 n6 c6) 29)).alloc (.cells (catB A5 n5 c5 A6 n6 c6) 29)).alloc (.cells #[.string nmZ,.string ⟨#[]⟩,.string ⟨#[]⟩,.int .i64 1,.slice none 0 0,.slice none 0 0] 46)) (w4.heap.size+1) 29 (catB A5 n5 c5 A6 n6 c6):=(laid_at (by simp) _ _).alloc _
  have hs5:(((w4.alloc (.cells (catB A5 n5 c5 A6 n6 c6) 29)).alloc (.cells (catB A5 n5 c5 A6 n6 c6) 29)).alloc (.cells #[.string nmZ,.string ⟨#[]⟩,.string ⟨#[]⟩,.int .i64 1,.slice none 0 0,.slice none 0 0] 46)).heap.size=w4.heap.size+3:=by simp
  have hs6:w4.heap.size+2≤(((w4.alloc (.cells (catB A5 n5 c5 A6 n6 c6) 29)).alloc (.cells (catB A5 n5 c5 A6 n6 c6) 29)).alloc (.cells #[.string nmZ,.string ⟨#[]⟩,.string ⟨#[]⟩,.int .i64 1,.slice none 0 0,.slice none 0 0] 46)).heap.size:=by rw[hs5];omega
  have hs7:w4.heap.size+1<(((w4.alloc (.cells (catB A5 n5 c5 A6 n6 c6) 29)).alloc (.cells (catB A5 n5 c5 A6 n6 c6) 29)).alloc (.cells #[.string nmZ,.string ⟨#[]⟩,.string ⟨#[]⟩,.int .i64 1,.slice none 0 0,.slice none 0 0] 46)).heap.size:=by rw[hs5];omega
  have Hs6:=Lhd hs6
  have Hs7:=Lhd hs7
  clear hs5 hs6 hs7
  have HX5:=Lhd (And.intro hb45 (And.intro hk7 hk9))
  clear hb45 hk7 hk9 hr1 hr3 hr4 hC
  unfold nmZ at hown5
  go_wp2_with (at_builtin;refine wpList_app rfl rfl tyPrc rfl hown5 rfl hnews h6 h1c ?_ ?_ ?_ ?_;(unfold maxLen;omega);omega;(exact Hs6.out);intro A7 c7 w6 hown6 hbut6 hf6;have hk96:=HX5.out.2.2.as_was (hbut6.block _ Hs7.out (by simp));have hfz96:=hk96.frozen;have hz96:=catCells hk96)
  obtain⟨w7,Hw7⟩:∃ w7,Hid (w7=w6.setCell ⟨w4.heap.size+1,4,none⟩ (.slice A7 (1+n6) c7)):=⟨_,rfl⟩
  rw[← Hw7.out]
  have hb6:Below w4.heap.size w4 w6:=HX5.out.1.trans (hbut6.below' (by simp;omega) (fun q hq=>by simp at hq;omega))
  have hb7:Below w4.heap.size w4 w7:=by rw[Hw7.out];exact hb6.setCell (p:=⟨w4.heap.size+1,4,none⟩) (by simp) _
  have hk7w:IsBlk w7 w4.heap.size 29 (catB A5 n5 c5 A6 n6 c6):=by
   rw[Hw7.out]
   exact(HX5.out.2.1.as_was (hbut6.block _ (by simp;omega) (by simp;omega))).elsewhere (p:=⟨w4.heap.size+1,4,none⟩) (by simp) _
  have hk9w:IsBlk w7 (w4.heap.size+1) 29 (catB A5 n5 c5 A7 (1+n6) c7):=by rw[Hw7.out];exact stored_cat hk96
  have hown7:w7.ownsRow (w4.heap.size+2) 46 6 (.slice A7 (1+n6) c7) (1+n6) ([[Value.string nmZ,Value.string ⟨#[]⟩,Value.string ⟨#[]⟩,Value.int .i64 1,Value.slice none 0 0,Value.slice none 0 0]]++rows).flatten:=by
   rw[Hw7.out]
   exact own_but hown6 ((But.refl (fun q=>q=w4.heap.size+1) w6).setCell (p:=⟨w4.heap.size+1,4,none⟩) (.inl rfl) _) (fun g hg e=>by have e':g=w4.heap.size+1:=e;have:=(hown6.lt g hg).1;omega)
  have HCd:Hid (CatAt w7 A5 n5 c5 A7 (1+n6) c7 ss (prZ::l.map prOf)):=Lhd (HC.out.more hn6 hb7 Hr.out.2 Hr.out.1 hown7)
  have HCc:Hid (CatAt w7 A5 n5 c5 A6 n6 c6 ss (l.map prOf)):=Lhd (HC.out.below hb7)
  have hbw7:=hb4.trans (hb7.mono hb4.size)
  have HS7:=Lhd (fun (W:World) (hW:Below w7.heap.size w7 W)=>And.intro (catCells (hk7w.as_was (hW.block _ hk7w.lt))) (catCells (hk9w.as_was (hW.block _ hk9w.lt))))
  clear hown7 hown6 hbut6 hf6 hk96 hfz96 hz96 hk7w hk9w hown5 hnews h6 h1c Hw7
  go_loopw [10] (fun i wr=>∃ k:Nat,k≤n∧i=.int .i64 k∧Hid (∀ x∈l.take k,x.name≠nmZ)∧Below w7.heap.size w7 wr) (fun i _=>n-(intOf i).toNat)
  case atStart=>exact⟨0,Nat.zero_le _,rfl,Lhd (by simp),Below.refl _ _⟩
  case round =>
   obtain⟨k,hk,rfl,Hno,hbr⟩:=hrel
   have hbwr:=hbw7.trans (hbr.mono hbw7.size)
   by_cases hlt:k<n
   ·obtain⟨bN,oN,x,Ae,me,ce,rfl,hbl,hx,okn,oks,x0,x1,x2,x3,hls⟩:=NodsAt.get (HL.out wr hbwr) hlt
    have Hx:=Lhd hx
    clear hx
    by_cases he:x.name=nmZ
    ·have he2:(x.name.toList==[122,122])=true:=by rw[show ([122,122]:List UInt8)=nmZ.toList by decide +kernel,bs_eq];exact decide_eq_true he
     clear he
     go_wp2_with (go_at_call 6;refine(awakeT_any _).mono ?_;rintro e w8 ⟨rfl,hb8⟩)
     go_ret
     exact⟨rfl,hbwr.trans (hb8.mono hbwr.size)⟩
    ·have he2:(x.name.toList==[122,122])=false:=by rw[show ([122,122]:List UInt8)=nmZ.toList by decide +kernel,bs_eq];exact decide_eq_false he
     have He:=Lhd he
     clear he
     go_wp2
     go_roundw
     case rel =>
      refine⟨k+1,by omega,by go_num,Lhd fun y hy=>?_,hbr⟩
      rw[take_succ_of' Hx.out] at hy
      rcases List.mem_append.1 hy with hy|hy
      ·exact Hno.out y hy
      ·simp at hy;subst hy;exact He.out
     case measure=>simp[intOf];omega
   ·have hke:k=n:=by omega
    have hnz:nmZ ∉ (l.map prOf).map Pr.name:=by
     rw[names_pr]
     intro hm
     obtain⟨x,hx,he⟩:=List.mem_map.1 hm
     have h:=Hno.out
     rw[List.take_of_length_le (by rw[Hll.out];omega)] at h
     exact h x hx he
    have Hnet:=Lhd (net_z hnz)
    have HZ:=Lhd (net_no hnz)
    have HND:Hid (((netC (l.map prOf)).map Stp.name).Nodup):=Lhd (netOf_nodup _)
    have HF1:=Lhd ((flowT_any A5 A6 A2 n5 c5 n6 c6 n2 c2 ss (l.map prOf) F ask wr (HCc.out.below hbr) (HA.out wr hbwr)).mono (fun e w' h=>flowIn_of h))
    have HF2:=Lhd (fun (W:World) (hW:Below w7.heap.size w7 W)=>(flowT_any A5 A7 A2 n5 c5 (1+n6) c7 n2 c2 ss (prZ::l.map prOf) F ask W (HCd.out.below hW) (HA.out W (hbw7.trans (hW.mono hbw7.size)))).mono (fun e w' h=>flowIn_of h))
    have HRk:=Lhd (fun (W:World) (hW:Below w7.heap.size w7 W)=>rankT_any A5 A7 n5 c5 (1+n6) c7 ss (prZ::l.map prOf) nmZ W (HCd.out.below hW) (by rw[Hnet.out];simp[noStp]))
    have HB1:=Lhd (fun (W:World) (hW:Below w7.heap.size w7 W)=>bordT_any A5 A6 n5 c5 n6 c6 ss (l.map prOf) W (HCc.out.below hW))
    have HB2:=Lhd (fun (W:World) (hW:Below w7.heap.size w7 W)=>bordT_any A5 A7 n5 c5 (1+n6) c7 ss (prZ::l.map prOf) W (HCd.out.below hW))
    rw[Hnet.out] at HF2 HRk HB2
    clear hnz
    generalize netC (l.map prOf)=M at *
    unfold catV at HF1 HF2 HRk HB1 HB2
    unfold nmZ at HRk
    unfold BordRes at HB1 HB2
    rw[bord_more] at HB2
    obtain⟨⟨z0,z1,z2,z3,z4,zl⟩,⟨y0,y1,y2,y3,y4,yl⟩⟩:=HS7.out wr hbr
    have tok:True:=trivial
    go_upto_region 14 with (first
     | (go_at_call 17;have _t:=tok;go_loud (refine HF1.out.mono ?_;rintro e w8 ⟨A8,c8,r,ev,rfl,hF1,hn8,hb8⟩;replace hb8:=hbr.trans (hb8.mono hbr.size);obtain⟨⟨z80,z81,z82,z83,z84,z8l⟩,⟨y80,y81,y82,y83,y84,y8l⟩⟩:=HS7.out w8 hb8;have Hin:=Lhd hF1;have Hn8:=Lhd hn8;clear tok hF1 hn8))
     | (go_at_call 17;go_loud (refine(HF2.out w8 hb8).mono ?_;rintro e w9 ⟨A9,c9,r',ev',rfl,hF2,hn9,hb9⟩;obtain⟨rfl,rfl⟩:=flowIn_more HZ.out HND.out Hin.out hF2;have hb79:=hb8.trans (hb9.mono hb8.size);obtain⟨⟨z90,z91,z92,z93,z94,z9l⟩,⟨y90,y91,y92,y93,y94,y9l⟩⟩:=HS7.out w9 hb79;have Hn9:=Lhd hn9;clear hF2 hn9))
     | (go_at_call 18;go_loud (refine(HRk.out w9 hb79).mono ?_;rintro e w10 hR;obtain⟨rfl,hb10⟩:=rank_more HZ.out Hin.out hR;clear hR;have hb710:=hb79.trans (hb10.mono hb79.size))))
    have HSS:=Lhd (fun (W:World) (hW:Below w7.heap.size w7 W)=>(let h:=HS7.out W hW;⟨h.1.1,h.1.2.1,h.1.2.2.1,h.1.2.2.2.1,h.1.2.2.2.2.1,h.2.1,h.2.2.1,h.2.2.2.1,h.2.2.2.2.1,h.2.2.2.2.2.1⟩:W.cell? ⟨w4.heap.size,0,none⟩=some (.slice none 0 0)∧W.cell? ⟨w4.heap.size,1,none⟩=some (.slice A5 n5 c5)∧W.cell? ⟨w4.heap.size,2,none⟩=some (.slice none 0 0)∧W.cell? ⟨w4.heap.size,3,none⟩=some (.slice none 0 0)∧W.cell? ⟨w4.heap.size,4,none⟩=some (.slice A6 n6 c6)∧W.cell? ⟨w4.heap.size+1,0,none⟩=some (.slice none 0 0)∧W.cell? ⟨w4.heap.size+1,1,none⟩=some (.slice A5 n5 c5)∧W.cell? ⟨w4.heap.size+1,2,none⟩=some (.slice none 0 0)∧W.cell? ⟨w4.heap.size+1,3,none⟩=some (.slice none 0 0)∧W.cell? ⟨w4.heap.size+1,4,none⟩=some (.slice A7 (1+n6) c7)))
    have hd:=hb710.drew
    have sA:=HSS.out _ hd
    have H11:=Lhd (same_yes (W:=w10.drew) (NamesAt.below (Hn8.out.below (hb9.trans (hb10.mono hb9.size))) (Below.refl _ _).drew) (NamesAt.below (Hn9.out.below hb10) (Below.refl _ _).drew))
    have tok1:True:=trivial
    have tok2:True:=trivial
    go_region_held3 (fun W=>W.cell? ⟨w4.heap.size,0,none⟩=some (.slice none 0 0)∧W.cell? ⟨w4.heap.size,1,none⟩=some (.slice A5 n5 c5)∧W.cell? ⟨w4.heap.size,2,none⟩=some (.slice none 0 0)∧W.cell? ⟨w4.heap.size,3,none⟩=some (.slice none 0 0)∧W.cell? ⟨w4.heap.size,4,none⟩=some (.slice A6 n6 c6)∧W.cell? ⟨w4.heap.size+1,0,none⟩=some (.slice none 0 0)∧W.cell? ⟨w4.heap.size+1,1,none⟩=some (.slice A5 n5 c5)∧W.cell? ⟨w4.heap.size+1,2,none⟩=some (.slice none 0 0)∧W.cell? ⟨w4.heap.size+1,3,none⟩=some (.slice none 0 0)∧W.cell? ⟨w4.heap.size+1,4,none⟩=some (.slice A7 (1+n6) c7)) (first|with_reducible exact sA|with_reducible exact sB|with_reducible exact sC|with_reducible exact sD|with_reducible exact sE|with_reducible exact sF) (first
     | (go_at_call 10;have _t:=tok1;refine H11.out.mono ?_;rintro e w11 ⟨rfl,hb11⟩;have hb711:=hd.trans (hb11.mono hd.size);have sB:=HSS.out _ hb711;clear tok1)
     | (go_at_call 11;have _t:=tok2;refine(HB1.out w11 hb711).mono ?_;rintro e w12 ⟨A12,c12,rfl,hn12,hb12⟩;have hb712:=hb711.trans (hb12.mono hb711.size);have sC:=HSS.out _ hb712;have Hn12:=Lhd hn12;clear tok2 hn12)
     | (go_at_call 11;refine(HB2.out w12 hb712).mono ?_;rintro e w13 ⟨A13,c13,rfl,hn13,hb13⟩;have hb713:=hb712.trans (hb13.mono hb712.size);have sD:=HSS.out _ hb713;have H14:=Lhd (same_yes (W:=w13) (Hn12.out.below hb13) hn13);clear hn13)
     | (go_at_call 10;refine H14.out.mono ?_;rintro e w14 ⟨rfl,hb14⟩;have hb714:=hb713.trans (hb14.mono hb713.size);have sE:=HSS.out _ hb714)
     | (go_at_call 6;refine(awakeT_any _).mono ?_;rintro e w15 ⟨rfl,hb15⟩;have hb715:=hb714.trans (hb15.mono hb714.size);have sF:=HSS.out _ hb715))
    all_goals
     go_wp2
     go_ret
     exact⟨by simp,hbw7.trans (hb715.mono hbw7.size)⟩
end Go.Proofs.YtomfpjgcficlgaaGreat

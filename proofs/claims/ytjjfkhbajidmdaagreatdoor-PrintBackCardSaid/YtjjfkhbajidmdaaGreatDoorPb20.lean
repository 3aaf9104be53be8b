/- Parts of this proof, one behind the other: PrsE, PrsF. -/
import Derived.Test.YtjjfkhbajidmdaaGreatDoorPb19
import Derived.Lib.Repeat
set_option maxRecDepth 1000000
set_option maxHeartbeats 40000000
namespace Go.Proofs.YtjjfkhbajidmdaaGreatDoor
open Go.RowKit Go.Afx
theorem TU (k:Nat):Lib.repeatL [32,32] k=pW k:=by
 induction k with
 | zero=>rfl
 | succ k ih =>
  have e:Lib.repeatL [32,32] (k+1)=[32,32]++Lib.repeatL [32,32] k:=rfl
  rw[e,ih]
  unfold pW
  rw[show 2*(k+1)=2*k+1+1 from by omega,List.replicate_succ,List.replicate_succ]
  rfl
theorem I9 (k:Nat) (hk:k≤1001) (w:World):Calls Tryz.prog 82 #[.string ⟨#[32,32]⟩,.int .i64 k] w fun e w'=>e=.returned (.string ⟨(pW k).toArray⟩)∧Below w.heap.size w w':=by
 have e0:(⟨#[32,32]⟩:ByteArray).size=2:=rfl
 have h:=Tryz.strings_Repeat ⟨#[32,32]⟩ k w (by omega) (by rw[e0];omega)
 have e:(⟨#[32,32]⟩:ByteArray).data.toList=[32,32]:=rfl
 rw[e,TU] at h
 exact h
def FQ (F:Nat→Prop) (d:Nat):Prop:=∀ (x:St) (row:List Value) (g:Nat) (t:List UInt8) (br:Bool) (w:World) (k:Nat),bQ F d w row x→bD d x=true→(∀ j,F j→j<g)→bz g t br w→dZ w→0<g→k+d≤1000→t.length+(dD d k x).length≤1000000000 →
 Calls Tryz.prog 83 #[.pointer (some ⟨g,0,none⟩),.agg row.toArray,.int .i64 k] w fun e' w'=>e'=.returned (.tuple #[])∧bz g (t++dD d k x) (br||Si d x) w'∧Wrote g w w'
theorem ahj {F:Nat→Prop} {d:Nat} {w:World} {row:List Value} {x:St} (h:bQ F d w row x):∃ Ac nc cc Ae ne ce Ab nb cb Al nl cl,row=[.int .i64 x.op,.string x.name,.string x.src,.int .i64 x.n,.slice Ac nc cc,.slice Ae ne ce,.slice Ab nb cb,.slice Al nl cl]:=by
 cases d with
 | zero=>exact h.elim
 | succ d=>obtain⟨_,_,_,_,Ac,nc,cc,Ae,ne,ce,Ab,nb,cb,Al,nl,cl,hr,_⟩:=h.open_;exact⟨Ac,nc,cc,Ae,ne,ce,Ab,nb,cb,Al,nl,cl,hr⟩
theorem bQ.wrote {F:Nat→Prop} {d g:Nat} {w w':World} {row:List Value} {x:St} (h:bQ F d w row x) (hF:∀ k,F k→k<g) (hw:Wrote g w w'):bQ F d w' row x :=
 h.kept ⟨hw.1.size,fun k _ hf=>hw.1.block k (hF k hf)⟩
theorem Xa {F:Nat→Prop} {d n c g:Nat} {w:World} {A:Option Addr} {xs:List St} (h:aP F d w A n c xs) (hF:∀ k,F k→k<g) {k:Nat} (hk:k<n) :
  ∃ b o x Ac nc cc Ae ne ce Ab nb cb Al nl cl,A=some ⟨b,o,none⟩∧xs[k]?=some x∧∀ W,Wrote g w W→(b<W.heap.size∧W.cell? ⟨b,o+k*8,none⟩=some (.int .i64 x.op)∧W.cell? ⟨b,o+k*8+1,none⟩=some (.string x.name)∧W.cell? ⟨b,o+k*8+2,none⟩=some (.string x.src)∧W.cell? ⟨b,o+k*8+3,none⟩=some (.int .i64 x.n)∧W.cell? ⟨b,o+k*8+4,none⟩=some (.slice Ac nc cc)∧W.cell? ⟨b,o+k*8+5,none⟩=some (.slice Ae ne ce)∧W.cell? ⟨b,o+k*8+6,none⟩=some (.slice Ab nb cb)∧W.cell? ⟨b,o+k*8+7,none⟩=some (.slice Al nl cl)) ∧
   bQ F d W [.int .i64 x.op,.string x.name,.string x.src,.int .i64 x.n,.slice Ac nc cc,.slice Ae ne ce,.slice Ab nb cb,.slice Al nl cl] x:=by
 obtain⟨b,o,r,x,hA,hb,FH,hx,hl,hp,hc⟩:=ai.get h hk
 obtain⟨Ac,nc,cc,Ae,ne,ce,Ab,nb,cb,Al,nl,cl,rfl⟩:=ahj hp
 have g2:∀ (W:World),Wrote g w W→∀ j u,([.int .i64 x.op,.string x.name,.string x.src,.int .i64 x.n,.slice Ac nc cc,.slice Ae ne ce,.slice Ab nb cb,.slice Al nl cl]:List Value)[j]?=some u→W.cell? ⟨b,o+k*8+j,none⟩=some u:=fun W hW j u hj=>(hW.1.cell (p:=⟨b,o+k*8+j,none⟩) (hF b FH)).trans (hc j u hj)
 exact⟨b,o,x,Ac,nc,cc,Ae,ne,ce,Ab,nb,cb,Al,nl,cl,hA,hx,fun W hW=>⟨⟨Nat.lt_of_lt_of_le hb hW.1.size,by simpa using g2 W hW 0 _ rfl,g2 W hW 1 _ rfl,g2 W hW 2 _ rfl,g2 W hW 3 _ rfl,g2 W hW 4 _ rfl,g2 W hW 5 _ rfl,g2 W hW 6 _ rfl,g2 W hW 7 _ rfl⟩,bQ.wrote hp hF hW⟩⟩
def linesT (f:Nat→St→List UInt8) (k:Nat) (l:List St):List UInt8:=l.flatMap fun x=>pW (k+1)++f (k+1) x++[10]
theorem Qm {f:Nat→St→List UInt8} {k i:Nat} {l:List St} {x:St} (h:l[i]?=some x):linesT f k (l.take (i+1))=linesT f k (l.take i)++pW (k+1)++f (k+1) x++[10]:=by
 obtain⟨h1,h2⟩:=List.getElem?_eq_some_iff.1 h
 unfold linesT
 rw[List.take_succ_eq_append_getElem h1,List.flatMap_append,h2,List.flatMap_cons,List.flatMap_nil]
 simp
theorem Xb {f:Nat→St→List UInt8} {k i:Nat} {l:List St}:(linesT f k (l.take i)).length≤(linesT f k l).length:=by
 unfold linesT
 conv=>rhs;rw[← List.take_append_drop i l]
 rw[List.flatMap_append,List.length_append]
 omega
theorem uF (k:Nat):(pW k).length=2*k:=by simp[pW]
theorem Xc (F:Nat→Prop) (d:Nat) (hS:FQ F d) (xs:List St) (A:Option Addr) (n c k g:Nat) (t:List UInt8) (br:Bool) (w:World) (hx:aP F d w A n c xs) (hb:∀ x∈xs,bD d x=true) (hF:∀ j,F j→j<g) (h:bz g t br w) (hm:dZ w) (hg:0<g) (hk:k+d≤999) (hlen:t.length+(eU (dD d) k xs).length≤1000000000) :
  Calls Tryz.prog 39 #[.pointer (some ⟨g,0,none⟩),.slice A n c,.int .i64 k] w fun e' w'=>e'=.returned (.tuple #[])∧bz g (t++eU (dD d) k xs) (br||xs.any (Si d)) w'∧Wrote g w w':=by
 have hn:=ai.gu hx
 have hne:=ai.len hx
 rcases Nat.eq_zero_or_pos n with rfl|hp
 ·obtain rfl:xs=[]:=List.eq_nil_of_length_eq_zero hne
  have H:=ae h
  have Hlen:=ae hlen
  clear hx hb hF h hm hg hS hlen
  go_enter Tryz.func39,Tryz.ntmps39
  go_wp2_with (fail)
  refine(aF g 1 _ _ [⟨#[123,125]⟩] _ H.out rfl (by decide) (by have h9:=Hlen.out;have e:(eU (dD d) k []).length=2:=rfl;have e2:(aB [⟨#[123,125]⟩]).length=2:=rfl;omega)).mono ?_
  rintro e' w2 ⟨rfl,bI,hr2⟩
  have H2:=ae (And.intro bI hr2)
  clear bI hr2
  go_wp2
  refine bodyPost_ret (results_none rfl _ _ _) rfl ?_
  exact⟨rfl,by simpa [aB,eU] using H2.out.1,H2.out.2⟩
 ·have hz:((n:Int)==0)=false:=by simp;omega
  have hnil:xs≠[]:=by intro e;rw[e] at hne;simp at hne;omega
  have hbT:eU (dD d) k xs=[123,10]++linesT (dD d) k xs++pW k++[125]:=by unfold eU linesT;rw[if_neg hnil]
  rw[hbT] at hlen ⊢
  have TJ:=ae (fun i (hi:i<n)=>Xa hx hF hi)
  have Hb:=ae hb
  have HS:=ae hS
  have HF:=ae hF
  have Hm:=ae hm
  have Hg:=ae hg
  have H:=ae h
  have Hl:=ae (show t.length+2+(linesT (dD d) k xs).length+2*k+1≤1000000000 from by
   have:=uF k
   simp only[List.length_append,List.length_cons,List.length_nil] at hlen
   omega)
  have Hk:=ae hk
  have iG:=ae (fun W=>(show Calls Tryz.prog 82 #[.string ⟨#[32,32]⟩,.int .i64 ((k:Int)+1)] W fun e w'=>e=.returned (.string ⟨(pW (k+1)).toArray⟩)∧Below W.heap.size W w' from I9 (k+1) (by omega) W))
  have iV:=ae (I9 k (by omega))
  have i3:IntKind.i64.wrap ((k:Int)+1)=(k:Int)+1:=by simp only[IntKind.wrap,IntKind.bits,IntKind.signed];simp;omega
  clear hx hb hF h hm hg hS hlen hnil hbT hk
  go_enter Tryz.func39,Tryz.ntmps39
  go_wp2_with (fail)
  refine(aF g 1 _ _ [⟨#[123,10]⟩] _ H.out rfl (by decide) (by have h9:=Hl.out;have e2:(aB [⟨#[123,10]⟩]).length=2:=rfl;omega)).mono ?_
  rintro e' w2 ⟨rfl,bI,hr2⟩
  have HRb:=ae hr2
  have e2:t++aB [⟨#[123,10]⟩]=t++[123,10]:=rfl
  rw[e2] at bI
  have Hw:=ae bI
  clear bI hr2 e2
  go_wp2
  go_loopw [19] (fun i wr=>∃ j:Nat,j≤n∧i=.int .i64 j∧Hid (bz g (t++[123,10]++linesT (dD d) k (xs.take j)) (br||(xs.take j).any (Si d)) wr)∧Hid (Wrote g w2 wr)) (fun i _=>n-(intOf i).toNat)
  case atStart=>exact⟨0,Nat.zero_le _,rfl,ae (by simpa [linesT] using Hw.out),ae (Wrote.refl _ _)⟩
  case round =>
   obtain⟨j,hj,rfl,HW,HR⟩:=hrel
   rcases Nat.lt_or_ge j n with hlt|hge
   ·obtain⟨b,o,x,Ac,nc,cc,Ae,ne,ce,Ab,nb,cb,Al,nl,cl,rfl,he,hat⟩:=TJ.out j hlt
    have hRw:=HRb.out.trans HR.out
    obtain⟨⟨hbl,z0,z1,z2,z3,z4,z5,z6,z7⟩,_⟩:=hat _ hRw
    have hbe:=Hb.out x (List.mem_of_getElem? he)
    have TK:=ae (I5 (p:=Si d) he)
    have TV:=ae (Qm (f:=dD d) (k:=k) he)
    have hle:=Xb (f:=dD d) (k:=k) (i:=j+1) (l:=xs)
    rw[TV.out] at hle
    have zJ:=ae (show (t++[123,10]++linesT (dD d) k (xs.take j)).length+(2*(k+1)+(dD d (k+1) x).length+1)≤1000000000 from by
     have:=Hl.out
     have:=uF (k+1)
     simp only[List.length_append,List.length_cons,List.length_nil] at hle ⊢
     omega)
    obtain⟨w4,FK⟩:∃ w4,Hid (w4=wr.alloc (.cells #[.int .i64 x.op,.string x.name,.string x.src,.int .i64 x.n,.slice Ac nc cc,.slice Ae ne ce,.slice Ab nb cb,.slice Al nl cl] 49)):=⟨_,rfl⟩
    have hb4:Below wr.heap.size wr w4:=by rw[FK.out];exact(Below.refl _ _).alloc (Nat.le_refl _) _
    have hk4:af w4 wr.heap.size 49 #[.int .i64 x.op,.string x.name,.string x.src,.int .i64 x.n,.slice Ac nc cc,.slice Ae ne ce,.slice Ab nb cb,.slice Al nl cl]:=by rw[FK.out];exact af.laid _ _ _
    have bu:=HW.out.below hb4
    have hr4:Wrote g wr w4:=Wrote.of_below (Nat.le_of_lt HW.out.lt) hb4
    have anf:=ae (hRw.trans hr4)
    have HR4:=ae (HR.out.trans hr4)
    have Hx:=ae (fun W (hW:Wrote g w4 W)=>Dz (hW.2.2 _ _ _ (by decide) (by decide) hk4))
    have J6:=ae (fun W (hW:Wrote g w W) t' br' (hwt:bz g t' br' W) (hl:t'.length+(dD d (k+1) x).length≤1000000000)=>(show Calls Tryz.prog 83 #[.pointer (some ⟨g,0,none⟩),.agg #[.int .i64 x.op,.string x.name,.string x.src,.int .i64 x.n,.slice Ac nc cc,.slice Ae ne ce,.slice Ab nb cb,.slice Al nl cl],.int .i64 ((k:Int)+1)] W fun e' w'=>e'=.returned (.tuple #[])∧bz g (t'++dD d (k+1) x) (br'||Si d x) w'∧Wrote g W w' from HS.out x _ g t' br' W (k+1) (hat W hW).2 hbe HF.out hwt (Hm.out.below Hg.out hW.1) Hg.out (by have:=Hk.out;omega) hl))
    clear hb4 hk4 hr4 hRw hat hbe hle he
    go_upto_region 6 with (fail)
    rw[← FK.out]
    clear z0 z1 z2 z3 z4 z5 z6 z7
    go_wp2_with (go_at_call 82;refine(iG.out _).mono ?_)
    rintro y w5 ⟨rfl,hb5⟩
    have di:=bu.below hb5
    have jf:Wrote g w4 w5:=Wrote.of_below (Nat.le_of_lt bu.lt) hb5
    have HR5:=ae jf
    clear hb5 jf bu
    go_wp2_with (fail)
    refine(aF g 1 _ _ [⟨(pW (k+1)).toArray⟩] _ di rfl (by decide) (by have h9:=zJ.out;have h8:=uF (k+1);simp[aB] at h9 ⊢;omega)).mono ?_
    rintro e' w6 ⟨rfl,eG,lI⟩
    have HR6:=ae (HR5.out.trans lI)
    obtain⟨x0,x1,x2,x3,x4,x5,x6,x7,xl⟩:=Hx.out _ HR6.out
    clear lI di
    go_wp2_with (fail)
    refine(J6.out _ (anf.out.trans HR6.out) _ _ eG (by have h9:=zJ.out;have h8:=uF (k+1);simp[aB] at h9 ⊢;omega)).mono ?_
    rintro e' w7 ⟨rfl,jo,rU⟩
    have HR7:=ae (HR6.out.trans rU)
    clear x0 x1 x2 x3 x4 x5 x6 x7 xl rU eG
    go_wp2_with (go_at_call 37;refine(aF g 1 _ _ [⟨#[10]⟩] _ jo rfl (by decide) (by have h9:=zJ.out;have h8:=uF (k+1);simp[aB] at h9 ⊢;omega)).mono ?_;rintro e' w8 ⟨rfl,IV,VC⟩)
    have H8:=ae (And.intro IV (HR4.out.trans (HR7.out.trans VC)))
    clear IV VC jo
    go_roundw
    case rel =>
     refine⟨j+1,by omega,by go_num,ae ?_,ae H8.out.2⟩
     rw[TV.out,TK.out,← Bool.or_assoc]
     simpa [aB] using H8.out.1
    case measure=>simp[intOf];omega
   ·obtain rfl:j=n:=Nat.le_antisymm hj hge
    have e2:xs.take j=xs:=List.take_of_length_le (by omega)
    rw[e2] at HW
    have hw:=HW.out
    have HRe:=ae (HRb.out.trans HR.out)
    go_wp2_with (go_at_call 82;refine(iV.out _).mono ?_)
    rintro x w5 ⟨rfl,hb5⟩
    have di:=hw.below hb5
    have HR5:=ae (HRe.out.trans (Wrote.of_below (Nat.le_of_lt hw.lt) hb5))
    clear hb5 hw
    go_wp2_with (fail)
    refine(aF g 2 _ _ [⟨(pW k).toArray⟩,⟨#[125]⟩] _ di rfl (by decide) (by have h9:=Hl.out;have h8:=uF k;simp[aB] at h9 ⊢;omega)).mono ?_
    rintro e' w6 ⟨rfl,eG,lI⟩
    have H6:=ae (And.intro eG (HR5.out.trans lI))
    clear eG lI di
    go_wp2
    go_end0
    exact⟨rfl,by simpa [aB] using H6.out.1,H6.out.2⟩
theorem DF {F:Nat→Prop} {d n c:Nat} {w:World} {A:Option Addr} {a:Ex} {r:List Ex} (h:aO F d w A n c (a::r)):∃ b o A1 m1 c1,A=some ⟨b,o,none⟩∧F b∧b<w.heap.size∧Six w b o a A1 m1 c1∧aC F d w (rowOf a A1 m1 c1) a:=by
 have hl:=ai.len h
 obtain⟨b,o,r',e,hA,hb,FH,he,_,hp,hc⟩:=ai.get h (k:=0) (by rw[← hl];simp)
 simp at he
 subst he
 obtain⟨A1,m1,c1,rfl⟩:=wP hp
 exact⟨b,o,A1,m1,c1,hA,FH,hb,⟨by simpa using hc 0 _ rfl,by simpa using hc 1 _ rfl,by simpa using hc 2 _ rfl,by simpa using hc 3 _ rfl,by simpa using hc 4 _ rfl,by simpa using hc 5 _ rfl⟩,hp⟩
theorem Xd {F:Nat→Prop} {d g n c:Nat} {w:World} {A:Option Addr} {es:List Ex} (hx:aO F d w A n c es) (hb:∀ e∈es,aA d e=true) (hF:∀ k,F k→k<g) (hm:dZ w) (hg:0<g) :
  Does g w 142 #[.pointer (some ⟨g,0,none⟩),.slice A n c] (aQ (es.map (aY d))) (es.any (zH d)) :=
 fun W t br hW h hl=>aaO F d es A n c g t br W (aO.kept hx ⟨hW.1.size,fun k _ hf=>hW.1.block k (hF k hf)⟩) hb hF h (hm.below hg hW.1) hg hl
theorem zO {F:Nat→Prop} {d g n c k:Nat} {w:World} {A:Option Addr} {xs:List St} (hS:FQ F d) (hx:aP F d w A n c xs) (hb:∀ x∈xs,bD d x=true) (hF:∀ k,F k→k<g) (hm:dZ w) (hg:0<g) (hk:k+d≤999) :
  Does g w 39 #[.pointer (some ⟨g,0,none⟩),.slice A n c,.int .i64 k] (eU (dD d) k xs) (xs.any (Si d)) :=
 fun W t br hW h hl=>Xc F d hS xs A n c k g t br W (aP.kept hx ⟨hW.1.size,fun k _ hf=>hW.1.block k (hF k hf)⟩) hb hF h (hm.below hg hW.1) hg hk hl
theorem TW {F:Nat→Prop} {d g:Nat} {w:World} {op n:Int} {name src:ByteArray} {cols:List ByteArray} {es:List Ex} {Ac Ae Ab Al:Option Addr} {nc cc ne ce nb cb nl cl nB nL:Nat} (hg1:MG op name src n cols es.length nB nL) (h6:op≠6) (h7:op≠7) (hc:ai F w 1 dL Ac nc cc cols) (hx:aO F d w Ae ne ce es) (hb:∀ e∈es,aA d e=true) (hF:∀ k,F k→k<g) (hm:dZ w) (hg:0<g) :
  Does g w 115 #[.pointer (some ⟨g,0,none⟩),.agg #[.int .i64 op,.string name,.string src,.int .i64 n,.slice Ac nc cc,.slice Ae ne ce,.slice Ab nb cb,.slice Al nl cl]] (EI d op name src cols es) (es.any (zH d)):=by
 intro W t br hW h hl
 have hk:Kept F w W:=⟨hW.1.size,fun k _ hf=>hW.1.block k (hF k hf)⟩
 have hc:=hc.kept hk
 have hx:=aO.kept hx hk
 have hm:=hm.below hg hW.1
 have hld:=Xd hx hb hF hm hg
 have hE:=wQ d F
 have hen:=ai.len hx
 have hcn:=ai.len hc
 unfold EI at hl ⊢
 rcases hg1.ops with rfl|rfl|rfl|rfl|rfl|rfl|rfl|rfl|rfl|rfl
 ·have h:=adR name src n Ac Ab Al nc cc nb cb nl cl Ae ne ce _ _ g t br W h hld (by simpa using hl)
  simpa using h
 ·have h:=adS name src n Ac Ab Al nc cc nb cb nl cl Ae ne ce _ _ g t br W h hld (by simpa using hl)
  simpa using h
 ·have h:=adT name src n Ac Ab Al nc cc nb cb nl cl Ae ne ce _ _ g t br W h hld (by simpa using hl)
  simpa using h
 ·obtain⟨h4,h41⟩:=hg1.four rfl
  rcases es with _|⟨a,r⟩
  ·simp at h4
  ·obtain⟨b,o,A1,m1,c1,rfl,FH,hbl,hS,hxa⟩:=DF hx
   have hba:=hb a (by simp)
   have e1:ne=nc+1:=by omega
   subst e1
   have h8:=hg1.agi
   have h:=adX name src n Ac Ab Al nc cc nb cb nl cl F d cols r b o ce a A1 m1 c1 _ _ g t br W h hc hx (fun e he=>hb e (by simp[he])) hF hm hg (by omega) (hF b FH) hS (uC hE name src hxa hba hF hm hg) (by simpa [rV] using hl)
   simpa [rV] using h
 ·have h1:=hg1.only (by simp)
  obtain⟨a,rfl⟩:=List.length_eq_one_iff.1 h1
  obtain⟨b,o,A1,m1,c1,rfl,FH,hbl,hS,hxa⟩:=DF hx
  have h:=adW name src n Ac Ab Al nc cc nb cb nl cl b o ne ce a A1 m1 c1 _ _ g t br W h (hF b FH) (by simp at hen;omega) hS (uC hE name src hxa (hb a (by simp)) hF hm hg) (by simpa [rV] using hl)
  simpa [rV] using h
 ·exact absurd rfl h6
 ·exact absurd rfl h7
 ·have h:=adU name src n Ac Ab Al nc cc nb cb nl cl Ae ne ce _ _ g t br W h hld (by simpa using hl)
  simpa using h
 ·have h:=adV name src n Ac Ab Al nc cc nb cb nl cl Ae ne ce _ _ g t br W h hld (by simpa using hl)
  simpa using h
 ·have h:=aaP name src n Ac Ab Al nc cc nb cb nl cl Ae ne ce _ _ g t br W h hld (by simpa using hl)
  simpa using h
theorem ahk {d:Nat} {op:Int} {name src:ByteArray} {n:Int} {cols:List ByteArray} {exprs:List Ex} {body els:List St}:Si (d+1) (.mk op name src n cols exprs body els)=(exprs.any (zH d)||body.any (Si d)||els.any (Si d)):=by rw[Si];rfl
theorem aaS:∀ (d:Nat) (F:Nat→Prop),FQ F d:=by
 intro d
 induction d with
 | zero=>intro F x row g t br w k hx;exact hx.elim
 | succ d ih =>
  intro F x row g t br w k hx hb hF h hm hg hk hlen
  obtain⟨op,name,src,n,cols,exprs,body,els⟩:=x
  obtain⟨hs,he,hbo,hel⟩:=Dx hb
  obtain⟨_,_,_,_,Ac,nc,cc,Ae,ne,ce,Ab,nb,cb,Al,nl,cl,rfl,hxc,hxe,hxb,hxl⟩:=hx.open_
  have hxc:ai F w 1 dL Ac nc cc cols:=hxc
  have hxe:aO F d w Ae ne ce exprs:=hxe
  have hxb:aP F d w Ab nb cb body:=hxb
  have hxl:aP F d w Al nl cl els:=hxl
  have hen:=ai.len hxe
  have hbn:=ai.len hxb
  have hln:=ai.len hxl
  have hB:=zO (k:=k) (ih F) hxb hbo hF hm hg (by omega)
  have hB2:=zO (k:=k) (ih F) hxl hel hF hm hg (by omega)
  have hE:=wQ d F
  rw[VH] at hlen ⊢
  rw[ahk]
  by_cases h6:op=6
  ·subst h6
   rw[if_pos rfl] at hlen ⊢
   have h1:=hs.only (by simp)
   obtain⟨a,rfl⟩:=List.length_eq_one_iff.1 h1
   obtain⟨b,o,A1,m1,c1,rfl,FH,hbl,hS,hxa⟩:=DF hxe
   have hl0:els=[]:=List.eq_nil_of_length_eq_zero (hs.els (by decide))
   subst hl0
   have hD:=uC hE name src hxa (he a (by simp)) hF hm hg
   by_cases hn:0<n
   ·rw[if_pos hn] at hlen ⊢
    have h:=adY name src n Ac Ab Al nc cc nb cb nl cl k _ _ b o ne ce a A1 m1 c1 _ _ g t br w h (hF b FH) (by simp at hen;omega) hS hD hB hn hs.n1 (by simpa [rV] using hlen)
    simpa [rV,Bool.or_assoc,St.op,St.name,St.src,St.n] using h
   ·rw[if_neg hn] at hlen ⊢
    have hn0:n=0:=by have:=hs.n0;omega
    have h:=ahf name src n Ac Ab Al nc cc nb cb nl cl k _ _ b o ne ce a A1 m1 c1 _ _ g t br w h (hF b FH) (by simp at hen;omega) hS hD hB hn0 (by simpa [rV] using hlen)
    simpa [rV,Bool.or_assoc,St.op,St.name,St.src,St.n] using h
  ·rw[if_neg h6] at hlen ⊢
   by_cases h7:op=7
   ·subst h7
    rw[if_pos rfl] at hlen ⊢
    have h1:=hs.only (by simp)
    obtain⟨a,rfl⟩:=List.length_eq_one_iff.1 h1
    obtain⟨b,o,A1,m1,c1,rfl,FH,hbl,hS,hxa⟩:=DF hxe
    have hD:=KG hE hxa (he a (by simp)) hF hm hg
    rcases els with _|⟨e0,er⟩
    ·rw[if_pos rfl] at hlen ⊢
     have h:=ahg name src n Ac Ab Al nc cc nb cb nl cl k _ _ b o ne ce a A1 m1 c1 _ _ g t br w h (hF b FH) (by simp at hen;omega) hS hD hB (by simpa using hln.symm) (by simpa [firstT] using hlen)
     simpa [firstT,Bool.or_assoc,St.op,St.name,St.src,St.n] using h
    ·rw[if_neg (by simp)] at hlen ⊢
     have h:=adZ name src n Ac Ab Al nc cc nb cb nl cl k _ _ _ _ b o ne ce a A1 m1 c1 _ _ g t br w h (hF b FH) (by simp at hen;omega) hS hD hB hB2 (by rw[← hln];simp) (by simpa [firstT] using hlen)
     simpa [firstT,Bool.or_assoc,St.op,St.name,St.src,St.n] using h
   ·rw[if_neg h7] at hlen ⊢
    have hb0:body=[]:=List.eq_nil_of_length_eq_zero (hs.body h6 h7)
    have hl0:els=[]:=List.eq_nil_of_length_eq_zero (hs.els h7)
    subst hb0 hl0
    have hD:=TW (Ab:=Ab) (Al:=Al) (nb:=nb) (cb:=cb) (nl:=nl) (cl:=cl) hs h6 h7 hxc hxe he hF hm hg
    have h:=TP name src n Ac Ab Al nc cc nb cb nl cl op k Ae ne ce _ _ g t br w h h6 h7 hD (by simpa using hlen)
    simpa [St.op,St.name,St.src,St.n] using h
end Go.Proofs.YtjjfkhbajidmdaaGreatDoor

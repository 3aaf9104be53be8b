/- Parts of this proof, one behind the other: SynL, SynM, SynN. -/
import Derived.Test.YtjjfkhbajidmdaaGreatDoorPb5
set_option maxRecDepth 1000000
set_option maxHeartbeats 40000000
namespace Go.Proofs.YtjjfkhbajidmdaaGreatDoor
open Go.RowKit Go.Afx
theorem RN (F:Nat→Prop) (d:Nat) (ih:vJ F d) (e:Ex) (row:List Value) (w:World) (h:aC F d w row e) :
  Calls Tryz.prog 110 #[.agg row.toArray] w fun x w'=>x=.returned (.bool (!aA d e))∧Below w.heap.size w w':=by
 cases d with
 | zero=>exact h.elim
 | succ d =>
  have h':=h
  obtain⟨A,m,c,rfl,hl⟩:=h.open_.2.2.2.2.2
  have hb1:Below w.heap.size w (w.alloc (.cells #[.int .i64 e.op,.int .i64 e.n,.string e.s,.string e.name,.string e.src,.slice A m c] 55)):=(Below.refl _ _).alloc (Nat.le_refl _) _
  have Hc:=ae (ih e _ _ (h'.below hb1))
  generalize aA (d+1) e=r at *
  go_enter Tryz.func110,Tryz.ntmps110
  go_wp2_with (go_at_call 61;refine Hc.out.mono ?_;rintro x w1 ⟨rfl,hb⟩)
  go_ret
  exact⟨aI (by simp),hb1.trans (hb.mono hb1.size)⟩
theorem Ic (F:Nat→Prop) (d:Nat) (ih:vJ F d) (A:Option Addr) (n c:Nat) (es:List Ex) (w:World) (h:aO F d w A n c es) :
  Calls Tryz.prog 128 #[.slice A n c,.func (.func 110) #[] #[]] w fun x w'=>x=.returned (.int .i64 (su (fun e=>!aA d e) es))∧Below w.heap.size w w':=by
 have hn:=ai.gu h
 have Hl:=ae (ai.len h)
 go_enter Tryz.func128,Tryz.ntmps128
 go_wp2
 go_loopw [8] (fun i wr=>∃ k:Nat,k≤n∧i=.int .i64 k∧(∀ y∈es.take k,(!aA d y)=false)∧Below w.heap.size w wr) (fun i _=>n-(intOf i).toNat)
 case atStart=>exact⟨0,Nat.zero_le _,rfl,by simp,Below.refl _ _⟩
 case round =>
  obtain⟨k,hk,rfl,hall,hb⟩:=hrel
  have lZ:=ae hall;clear hall
  by_cases hlt:k<n
  ·cases d with
   | zero =>
    obtain⟨b,o,r,e,hA,hbl,_,he,hl,hp,hc⟩:=ai.get (h.below hb) hlt
    exact hp.elim
   | succ d =>
    obtain⟨b,o,e,A2,m2,c2,rfl,hbl,hx,hc0,hc1,hc2,hc3,hc4,hc5,hp,_⟩:=aO.get (h.below hb) hlt
    have hc:=RN F (d+1) ih e _ wr hp
    obtain⟨q,hq⟩:∃ q,(!aA (d+1) e)=q:=⟨_,rfl⟩
    rw[hq] at hc
    have Hc:=ae hc
    have Hq:=ae hq
    have Hx:=ae hx
    clear hc hq hx
    cases q
    ·have KU:=ae (gU Hx.out lZ.out Hq.out)
     go_wp2_with (go_at_call 110;refine Hc.out.mono ?_;rintro y w1 ⟨rfl,hb1⟩)
     go_roundw
     case rel=>exact⟨k+1,by omega,by go_num,KU.out,hb.trans (hb1.mono hb.size)⟩
     case measure=>simp[intOf];omega
    ·have Hf:=ae (xq (p:=fun e=>!aA (d+1) e) Hx.out Hq.out lZ.out)
     go_wp2_with (go_at_call 110;refine Hc.out.mono ?_;rintro y w1 ⟨rfl,hb1⟩)
     go_ret
     exact⟨by rw[Hf.out];rfl,hb.trans (hb1.mono hb.size)⟩
  ·go_wp2
   go_ret
   have h1:=lZ.out
   rw[List.take_of_length_le (by rw[Hl.out];omega)] at h1
   exact⟨by rw[DZ h1];rfl,hb⟩
theorem Ag (F:Nat→Prop) (d:Nat) (ih:vJ F d) (A:Option Addr) (n c:Nat) (es:List Ex) (w:World) (h:aO F d w A n c es) :
  Calls Tryz.prog 97 #[.slice A n c,.func (.func 110) #[] #[]] w fun x w'=>x=.returned (.bool (!es.all (aA d)))∧Below w.heap.size w w':=by
 have hi:=Ic F d ih A n c es w h
 have hp:=xm (fun e=>!aA d e) es
 have hq:(es.any fun e=>!aA d e) = !es.all (aA d):=by
  induction es with
  | nil=>rfl
  | cons a r _=>simp[List.any_eq_not_all_not]
 rw[hq] at hp
 generalize es.all (aA d)=r at *
 generalize su (fun e=>!aA d e) es=i at *
 have Hp:=ae hp
 have Hi:=ae hi
 clear hp hi hq
 go_enter Tryz.func97,Tryz.ntmps97
 go_wp2_with (go_at_call 128;refine Hi.out.mono ?_;rintro x w' ⟨rfl,hb⟩)
 go_ret
 exact⟨aI Hp.out,hb⟩
def Ey (F:Nat→Prop) (d:Nat):Prop:=∀ (e:St) (row:List Value) (w:World),bQ F d w row e →
 Calls Tryz.prog 79 #[.agg row.toArray] w fun x w'=>x=.returned (.bool (bD d e))∧Below w.heap.size w w'
theorem RP (F:Nat→Prop) (d:Nat) (ih:Ey F d) (e:St) (row:List Value) (w:World) (h:bQ F d w row e) :
  Calls Tryz.prog 78 #[.agg row.toArray] w fun x w'=>x=.returned (.bool (!bD d e))∧Below w.heap.size w w':=by
 cases d with
 | zero=>exact h.elim
 | succ d =>
  have h':=h
  obtain⟨Ac,nc,cc,Ae,ne,ce,Ab,nb,cb,Al,nl,cl,rfl,_⟩:=h.open_.2.2.2.2
  have hb1:Below w.heap.size w (w.alloc (.cells #[.int .i64 e.op,.string e.name,.string e.src,.int .i64 e.n,.slice Ac nc cc,.slice Ae ne ce,.slice Ab nb cb,.slice Al nl cl] 49)):=(Below.refl _ _).alloc (Nat.le_refl _) _
  have Hc:=ae (ih e _ _ (h'.below hb1))
  generalize bD (d+1) e=r at *
  go_enter Tryz.func78,Tryz.ntmps78
  go_wp2_with (go_at_call 79;refine Hc.out.mono ?_;rintro x w1 ⟨rfl,hb⟩)
  go_ret
  exact⟨aI (by simp),hb1.trans (hb.mono hb1.size)⟩
theorem Ie (F:Nat→Prop) (d:Nat) (ih:Ey F d) (A:Option Addr) (n c:Nat) (es:List St) (w:World) (h:aP F d w A n c es) :
  Calls Tryz.prog 108 #[.slice A n c,.func (.func 78) #[] #[]] w fun x w'=>x=.returned (.int .i64 (su (fun e=>!bD d e) es))∧Below w.heap.size w w':=by
 have hn:=ai.gu h
 have Hl:=ae (ai.len h)
 go_enter Tryz.func108,Tryz.ntmps108
 go_wp2
 go_loopw [8] (fun i wr=>∃ k:Nat,k≤n∧i=.int .i64 k∧(∀ y∈es.take k,(!bD d y)=false)∧Below w.heap.size w wr) (fun i _=>n-(intOf i).toNat)
 case atStart=>exact⟨0,Nat.zero_le _,rfl,by simp,Below.refl _ _⟩
 case round =>
  obtain⟨k,hk,rfl,hall,hb⟩:=hrel
  have lZ:=ae hall;clear hall
  by_cases hlt:k<n
  ·cases d with
   | zero =>
    obtain⟨b,o,r,e,hA,hbl,_,he,hl,hp,hc⟩:=ai.get (h.below hb) hlt
    exact hp.elim
   | succ d =>
    obtain⟨b,o,e,Ac,nc,cc,Ae,ne,ce,Ab,nb,cb,Al,nl,cl,rfl,hbl,hx,hc0,hc1,hc2,hc3,hc4,hc5,hc6,hc7,hp,_⟩:=aP.get (h.below hb) hlt
    have hc:=RP F (d+1) ih e _ wr hp
    obtain⟨q,hq⟩:∃ q,(!bD (d+1) e)=q:=⟨_,rfl⟩
    rw[hq] at hc
    have Hc:=ae hc
    have Hq:=ae hq
    have Hx:=ae hx
    clear hc hq hx
    cases q
    ·have KU:=ae (gU Hx.out lZ.out Hq.out)
     go_wp2_with (go_at_call 78;refine Hc.out.mono ?_;rintro y w1 ⟨rfl,hb1⟩)
     go_roundw
     case rel=>exact⟨k+1,by omega,by go_num,KU.out,hb.trans (hb1.mono hb.size)⟩
     case measure=>simp[intOf];omega
    ·have Hf:=ae (xq (p:=fun e=>!bD (d+1) e) Hx.out Hq.out lZ.out)
     go_wp2_with (go_at_call 78;refine Hc.out.mono ?_;rintro y w1 ⟨rfl,hb1⟩)
     go_ret
     exact⟨by rw[Hf.out];rfl,hb.trans (hb1.mono hb.size)⟩
  ·go_wp2
   go_ret
   have h1:=lZ.out
   rw[List.take_of_length_le (by rw[Hl.out];omega)] at h1
   exact⟨by rw[DZ h1];rfl,hb⟩
theorem Ah (F:Nat→Prop) (d:Nat) (ih:Ey F d) (A:Option Addr) (n c:Nat) (es:List St) (w:World) (h:aP F d w A n c es) :
  Calls Tryz.prog 77 #[.slice A n c,.func (.func 78) #[] #[]] w fun x w'=>x=.returned (.bool (!es.all (bD d)))∧Below w.heap.size w w':=by
 have hi:=Ie F d ih A n c es w h
 have hp:=xm (fun e=>!bD d e) es
 have hq:(es.any fun e=>!bD d e) = !es.all (bD d):=by
  induction es with
  | nil=>rfl
  | cons a r _=>simp[List.any_eq_not_all_not]
 rw[hq] at hp
 generalize es.all (bD d)=r at *
 generalize su (fun e=>!bD d e) es=i at *
 have Hp:=ae hp
 have Hi:=ae hi
 clear hp hi hq
 go_enter Tryz.func77,Tryz.ntmps77
 go_wp2_with (go_at_call 108;refine Hi.out.mono ?_;rintro x w' ⟨rfl,hb⟩)
 go_ret
 exact⟨aI Hp.out,hb⟩
theorem Fe (F:Nat→Prop) (d:Nat) (ih:Ey F d) (A:Option Addr) (n c:Nat) (es:List St) (w:World) (h:aP F d w A n c es) :
  Calls Tryz.prog 36 #[.slice A n c] w fun x w'=>x=.returned (.bool (es.all (bD d)))∧Below w.heap.size w w':=by
 have Hc:=ae (Ah F d ih A n c es w h)
 generalize es.all (bD d)=r at *
 go_enter Tryz.func36,Tryz.ntmps36
 go_wp2_with (go_at_call 77;refine Hc.out.mono ?_;rintro x w1 ⟨rfl,hb⟩)
 go_ret
 exact⟨aI (by simp),hb⟩
theorem U7 (F:Nat→Prop) (d:Nat):Ey F d:=by
 induction d with
 | zero=>intro e row w h;exact h.elim
 | succ d ih =>
  intro e row w h
  obtain⟨ho,hn,hnm,hsr,Ac,nc,cc,Ae,ne,ce,Ab,nb,cb,Al,nl,cl,rfl,hcl,hel,hbl,hll⟩:=h.open_
  have hx1:af (w.alloc (.cells #[.int .i64 e.op,.string e.name,.string e.src,.int .i64 e.n,.slice Ac nc cc,.slice Ae ne ce,.slice Ab nb cb,.slice Al nl cl] 49)) w.heap.size 49 #[.int .i64 e.op,.string e.name,.string e.src,.int .i64 e.n,.slice Ac nc cc,.slice Ae ne ce,.slice Ab nb cb,.slice Al nl cl]:=af.laid _ _ _
  have hX:Below (w.heap.size+1) (w.alloc (.cells #[.int .i64 e.op,.string e.name,.string e.src,.int .i64 e.n,.slice Ac nc cc,.slice Ae ne ce,.slice Ab nb cb,.slice Al nl cl] 49)) (w.alloc (.cells #[.int .i64 e.op,.string e.name,.string e.src,.int .i64 e.n,.slice Ac nc cc,.slice Ae ne ce,.slice Ab nb cb,.slice Al nl cl] 49)):=Below.refl _ _
  have hb1:Below w.heap.size w (w.alloc (.cells #[.int .i64 e.op,.string e.name,.string e.src,.int .i64 e.n,.slice Ac nc cc,.slice Ae ne ce,.slice Ab nb cb,.slice Al nl cl] 49)):=(Below.refl _ _).alloc (Nat.le_refl _) _
  have Hx:=ae (fun W (hW:Below (w.heap.size+1) (w.alloc (.cells #[.int .i64 e.op,.string e.name,.string e.src,.int .i64 e.n,.slice Ac nc cc,.slice Ae ne ce,.slice Ab nb cb,.slice Al nl cl] 49)) W)=>agG (hx1.ag (hW.block _ (Nat.lt_succ_self _))))
  have HB:=ae (fun W (hW:Below (w.heap.size+1) (w.alloc (.cells #[.int .i64 e.op,.string e.name,.string e.src,.int .i64 e.n,.slice Ac nc cc,.slice Ae ne ce,.slice Ab nb cb,.slice Al nl cl] 49)) W)=>hb1.trans (hW.mono (by simp)))
  have Hs:=ae (fun W (hW:Below w.heap.size w W)=>Yq F e.name e.src e.n Ac Ae Ab Al nc cc ne ce nb cb nl cl e.cols W e.op (hcl.below hW) hnm hsr)
  have He:=ae (fun W (hW:Below w.heap.size w W)=>Ag F d (IW F d) Ae ne ce e.exprs W (hel.below hW))
  have Hb:=ae (fun W (hW:Below w.heap.size w W)=>Fe F d ih Ab nb cb e.body W (hbl.below hW))
  have Hl:=ae (fun W (hW:Below w.heap.size w W)=>Fe F d ih Al nl cl e.els W (hll.below hW))
  have hfin:bD (d+1) e=(dm e.op e.name e.src e.n e.cols ne nb nl&&e.exprs.all (aA d)&&e.body.all (bD d)&&e.els.all (bD d)):=by
   rw[bD,TR,ai.len hel,ai.len hbl,ai.len hll]
  generalize dm e.op e.name e.src e.n e.cols ne nb nl=qs at *
  generalize e.exprs.all (aA d)=qe at *
  generalize e.body.all (bD d)=qb at *
  generalize e.els.all (bD d)=ql at *
  generalize bD (d+1) e=fin at *
  have bn:=ae hfin
  clear hfin hx1 hcl hel hbl hll ih
  cases qs<;>cases qe<;>cases qb
  all_goals
   go_enter Tryz.func79,Tryz.ntmps79
   go_wp2_with (first|(go_at_call 109;refine(Hs.out _ (HB.out _ hX)).mono ?_;rintro x w2 ⟨rfl,hb2⟩;replace hX:=hX.trans (hb2.mono (by first|(simp;done)|(have:=hX.size;simp at this;omega)));obtain⟨x1,x2,x3,x4,x5,x6,x7,xl⟩:=Hx.out _ hX)|(go_at_call 97;refine(He.out _ (HB.out _ hX)).mono ?_;rintro x w3 ⟨rfl,hb3⟩;replace hX:=hX.trans (hb3.mono (by first|(simp;done)|(have:=hX.size;simp at this;omega)));obtain⟨x1,x2,x3,x4,x5,x6,x7,xl⟩:=Hx.out _ hX)|(go_at_call 36;with_reducible refine(Hb.out _ (HB.out _ hX)).mono ?_;rintro x w4 ⟨rfl,hb4⟩;replace hX:=hX.trans (hb4.mono (by first|(simp;done)|(have:=hX.size;simp at this;omega)));obtain⟨x1,x2,x3,x4,x5,x6,x7,xl⟩:=Hx.out _ hX)|(go_at_call 36;with_reducible refine(Hl.out _ (HB.out _ hX)).mono ?_;rintro x w5 ⟨rfl,hb5⟩;replace hX:=hX.trans (hb5.mono (by first|(simp;done)|(have:=hX.size;simp at this;omega)));obtain⟨x1,x2,x3,x4,x5,x6,x7,xl⟩:=Hx.out _ hX))
   go_ret
   exact⟨aI (by rw[bn.out];simp),HB.out _ hX⟩
theorem U8 (F:Nat→Prop) (d:Nat) (A:Option Addr) (n c:Nat) (es:List St) (w:World) (h:aP F d w A n c es) :
  Calls Tryz.prog 36 #[.slice A n c] w fun x w'=>x=.returned (.bool (es.all (bD d)))∧Below w.heap.size w w':=Fe F d (U7 F d) A n c es w h
def rO (r:List Value) (c:Co):Prop:=r=[.string c.name,.int .i64 c.kind]∧okS c.name∧okI c.kind
def lH (F:Nat→Prop) (d:Nat) (w:World) (r:List Value) (p:Pr):Prop:=okS p.name∧okS p.src∧okS p.part∧okI p.fuel ∧
 ∃ Ap np cp Ab nb cb,r=[.string p.name,.string p.src,.string p.part,.int .i64 p.fuel,.slice Ap np cp,.slice Ab nb cb]∧ai F w 2 rO Ap np cp p.params∧aP F d w Ab nb cb p.body
theorem lH.conv {F F':Nat→Prop} (hF:∀ k,F k→F' k) {w w':World} (hk:Kept F w w') {d d':Nat} (hd:d≤d') {r:List Value} {p:Pr} (h:lH F d w r p):lH F' d' w' r p:=by
 obtain⟨h1,h2,h3,h4,Ap,np,cp,Ab,nb,cb,hr,k1,k2⟩:=h
 exact⟨h1,h2,h3,h4,Ap,np,cp,Ab,nb,cb,hr,k1.conv hk (fun _ _ _ h=>hF _ h) (fun _ _ _ h=>h),aP.conv hF hk hd k2⟩
theorem lH.below {F:Nat→Prop} {w w':World} {d:Nat} {r:List Value} {p:Pr} (h:lH F d w r p) (hb:Below w.heap.size w w'):lH F d w' r p:=lH.conv (fun _ h=>h) (Kept.of_below hb) (Nat.le_refl _) h
theorem aag {F:Nat→Prop} {w:World} {A:Option Addr} {n c:Nat} {xs:List Co} (h:ai F w 2 rO A n c xs) {k:Nat} (hk:k<n) :
  ∃ b o x,A=some ⟨b,o,none⟩∧b<w.heap.size∧xs[k]?=some x∧okS x.name∧okI x.kind∧w.cell? ⟨b,o+k*2,none⟩=some (.string x.name)∧w.cell? ⟨b,o+k*2+1,none⟩=some (.int .i64 x.kind):=by
 obtain⟨b,o,r,x,hA,hb,_,hx,hl,⟨rfl,h1,h2⟩,hc⟩:=h.get hk
 exact⟨b,o,x,hA,hb,hx,h1,h2,by simpa using hc 0 _ rfl,hc 1 _ rfl⟩
theorem Wq {w:World} {g:Nat} {T:TypeId} {fuel:Int} {name src part:ByteArray} {Ap Ab:Option Addr} {np cp nb cb:Nat} (h:af w g T #[.string name,.string src,.string part,.int .i64 fuel,.slice Ap np cp,.slice Ab nb cb]) :
  w.cell? ⟨g,0,none⟩=some (.string name)∧w.cell? ⟨g,1,none⟩=some (.string src)∧w.cell? ⟨g,2,none⟩=some (.string part)∧w.cell? ⟨g,3,none⟩=some (.int .i64 fuel)∧w.cell? ⟨g,4,none⟩=some (.slice Ap np cp)∧w.cell? ⟨g,5,none⟩=some (.slice Ab nb cb)∧g<w.heap.size:=by
 have h0:=h.cell 0;have h1:=h.cell 1;have h2:=h.cell 2;have h3:=h.cell 3;have h4:=h.cell 4;have h5:=h.cell 5
 simp at h0 h1 h2 h3 h4 h5
 exact⟨h0,h1,h2,h3,h4,h5,h.lt⟩
def RQ (s:ByteArray):List Value:=[.string s]
theorem JW:∀ {xs:List ByteArray} (r:List Value),r∈xs.map RQ→r.length=1:=by
 intro xs r hr;obtain⟨p,_,rfl⟩:=List.mem_map.1 hr;rfl
theorem acW:∀ {xs:List ByteArray} (r:List Value),r∈xs.map RQ→∀ u∈r,u.oneCell'=true:=by
 intro xs r hr u hu
 obtain⟨p,_,rfl⟩:=List.mem_map.1 hr
 simp only[RQ,List.mem_singleton] at hu
 subst hu;rfl
theorem ai.kS {w:World} {base:Nat} {T:TypeId} {A:Option Addr} {n c:Nat} {xs:List ByteArray} (h:w.ownsRow base T 1 (.slice A n c) n (xs.map RQ).flatten) (hn:xs.length=n) (hok:∀ x∈xs,okS x):ai (fun _=>True) w 1 dL A n c xs :=
 ⟨xs.map RQ,az.kS h JW (by simpa using hn),fun _ _ _=>trivial,by simp,fun k r x hr hx=>by
  rw[List.getElem?_map,hx] at hr
  simp at hr
  subst hr
  exact⟨rfl,rfl,hok x (List.mem_of_getElem? hx)⟩⟩
theorem Yr {name src part:ByteArray} {fuel:Int} {params:List Co} (h:∃ c∈params,FP c=false):rW name src part fuel params=false:=by
 have:params.all FP=false:=by
  rw[List.all_eq_false]
  obtain⟨c,hc,hk⟩:=h
  exact⟨c,hc,by simp[hk]⟩
 simp[rW,this]
theorem Yt (F:Nat→Prop) (name src part:ByteArray) (fuel:Int) (Ap Ab:Option Addr) (np cp nb cb:Nat) (params:List Co) (w:World) (hp:ai F w 2 rO Ap np cp params) (uU:okS name) (oks:okS src) (hbig:np≤1000000) :
  Calls Tryz.prog 34 #[.agg #[.string name,.string src,.string part,.int .i64 fuel,.slice Ap np cp,.slice Ab nb cb]] w fun x w'=>x=.returned (.bool (rW name src part fuel params))∧Below w.heap.size w w':=by
 have hlen:=hp.len
 obtain⟨w1,Hw1⟩:∃ w1,Hid (w1=w.alloc (.cells #[.string name,.string src,.string part,.int .i64 fuel,.slice Ap np cp,.slice Ab nb cb] 30)):=⟨_,rfl⟩
 have hx1:af w1 w.heap.size 30 #[.string name,.string src,.string part,.int .i64 fuel,.slice Ap np cp,.slice Ab nb cb]:=by rw[Hw1.out];exact af.laid _ _ _
 have hb1:Below w.heap.size w w1:=by rw[Hw1.out];exact(Below.refl _ _).alloc (Nat.le_refl _) _
 have hz1:w1.heap.size=w.heap.size+1:=by rw[Hw1.out];simp
 have Hx1:=ae hx1
 have Sr:=ae hz1
 have hx4:=hx1.cell 4
 simp at hx4
 have hxl:=hx1.lt
 clear hz1 hx1
 go_enter Tryz.func34,Tryz.ntmps34
 go_upto_region 2 with (fail)
 rw[← Hw1.out]
 go_wp2_with (fail)
 have Hlen:=ae hlen
 clear hlen
 go_loopw [3,9] (fun v i wr=>∃ (k:Nat) (A2:Option Addr) (c2:Nat),k≤np∧i=.int .i64 k∧v=.slice A2 k c2∧(∀ y∈params.take k,FP y=true)∧wr.ownsRow w1.heap.size 9 1 (.slice A2 k c2) k (((params.take k).map Co.name).map RQ).flatten∧Below w1.heap.size w1 wr) (fun _ i _=>np-(intOf i).toNat)
 case atStart=>exact⟨0,none,0,Nat.zero_le _,rfl,rfl,by simp,World.ownsRow_nil _ _ _ _,Below.refl _ _⟩
 case round =>
  obtain⟨k,A2,c2,hk,rfl,rfl,hall,hown,hb⟩:=hrel
  have lZ:=ae hall;clear hall
  have hzw:=hb.size
  have hb0:=hb1.trans (hb.mono hb1.size)
  by_cases hlt:k<np
  ·obtain⟨b,o,x,rfl,hbl,hx,hxn,hxk,hc0,hc1⟩:=aag (hp.below hb0) hlt
   have Hx:=ae hx
   have hq:=fun W=>fC x.kind 1 3 W
   obtain⟨q,Hq⟩:∃ q,Hid (FP x=q):=⟨_,rfl⟩
   have hq2:(decide (1≤x.kind)&&decide (x.kind≤3))=q:=Hq.out
   rw[hq2] at hq
   have HQ:=ae hq
   clear hq hq2 hx
   cases q
   ·go_wp2_with (go_at_call 73;refine(HQ.out _).mono ?_;rintro y w' ⟨rfl,rfl⟩)
    go_ret
    exact⟨aI (Yr ⟨x,List.mem_of_getElem? Hx.out,Hq.out⟩).symm,hb0.alloc hb0.size _⟩
   ·have KU:=ae (gU Hx.out lZ.out Hq.out)
    have hown2:((wr.alloc (.cells #[.string x.name,.int .i64 x.kind] 67)).alloc (.cells #[.string x.name] 9)).ownsRow w1.heap.size 9 1 (.slice A2 k c2) k (((params.take k).map Co.name).map RQ).flatten:=(hown.alloc _).alloc _
    have hnew:az ((wr.alloc (.cells #[.string x.name,.int .i64 x.kind] 67)).alloc (.cells #[.string x.name] 9)) 1 (some ⟨wr.heap.size+1,0,none⟩) 1 1 ([x.name].map RQ):=az.nG _ _ 1 (by simp) rfl JW rfl (by unfold maxLen;omega)
    have hb2:Below wr.heap.size wr ((wr.alloc (.cells #[.string x.name,.int .i64 x.kind] 67)).alloc (.cells #[.string x.name] 9)):=((Below.refl _ _).alloc (Nat.le_refl _) _).alloc (by simp) _
    go_wp2_with (first|(go_at_call 73;refine(HQ.out _).mono ?_;rintro y w' ⟨rfl,rfl⟩)|(at_builtin;refine gy rfl rfl agF rfl hown2 rfl hnew JW acW ?_ ?_ ?_ ?_;(unfold maxLen;omega);omega;(simp;omega);intro A3 c3 w3 hown3 dB hf3))
    go_roundw
    case rel =>
     rw[← List.map_append] at hown3
     refine⟨k+1,A3,c3,by omega,by go_num,rfl,KU.out,by rw[zu Hx.out,List.map_append];exact hown3,?_⟩
     exact hb.trans ((hb2.mono hzw).trans (dB.below' (by simp;omega) (fun i hi=>by
      cases A2 with
      | none=>cases hi
      | some a2=>have h:=hown2.lt a2.block rfl;simp at hi;omega)))
    case measure=>simp[intOf];omega
  ·obtain rfl:k=np:=by omega
   have aiO:params.take k=params:=List.take_of_length_le (by rw[Hlen.out];omega)
   have agI:params.all FP=true:=by rw[List.all_eq_true];have h:=lZ.out;rw[aiO] at h;exact h
   rw[aiO] at hown
   have XM:∀ y∈params.map Co.name,okS y:=by
    intro y hy
    obtain⟨c,hc,rfl⟩:=List.mem_map.1 hy
    obtain⟨i,hi⟩:=List.mem_iff_getElem?.1 hc
    have hik:i<k:=by have:=(List.getElem?_eq_some_iff.1 hi).1;rw[Hlen.out] at this;exact this
    obtain⟨b,o,x,_,_,hx,hxn,_⟩:=aag (hp.below hb0) hik
    rw[hi] at hx
    cases hx
    exact hxn
   have hnl:(params.map Co.name).length=k:=by rw[List.length_map,Hlen.out]
   have HN:=ae (fun W (hW:Below wr.heap.size wr W)=>ai.kS (own_below hown hW) hnl XM)
   have hfin:rW name src part fuel params=(aJ name&&decide (k≤8)&&lN (params.map Co.name)&&decide (params.map Co.name).Nodup&&(decide (1≤fuel)&&decide (fuel≤2000)) &&
     (if noS src then noS part||(params.map Co.name).any fun x=>decide (x=part) else aJ src&&decide (k=0)&&noS part)):=by
    rw[rW,agI,Hlen.out,Bool.true_and]
   have hcon:((params.map Co.name).any fun y=>part.toList==y.toList)=(params.map Co.name).any fun x=>decide (x=part):=by
    congr 1;funext x;rw[aks,decide_eq_decide];exact eq_comm
   have Dh:=ae (fun (W:World) A m c (h:ai (fun _=>True) W 1 dL A m c [name])=>fJ _ A m c _ W h)
   have HF2:=ae (fun (W:World) (hW:Below wr.heap.size wr W)=>fJ _ _ _ _ _ W (HN.out W hW))
   have HF3:=ae (fun (W:World) (hW:Below wr.heap.size wr W)=>JI _ _ _ _ _ W (HN.out W hW) hbig)
   have Su:=ae (fun (W:World) A m c (h:ai (fun _=>True) W 1 dL A m c [src])=>fJ _ A m c _ W h)
   have Yu:=ae (fun (W:World) (hW:Below wr.heap.size wr W)=>zo _ _ _ _ _ part W (HN.out W hW))
   have HW:=ae (fun W=>fC fuel 1 2000 W)
   rw[gZ] at Dh Su
   rw[hcon] at Yu
   obtain⟨q1,SK⟩:∃ q,Hid (aJ name=q):=⟨_,rfl⟩
   obtain⟨q2,Hq2⟩:∃ q,Hid (lN (params.map Co.name)=q):=⟨_,rfl⟩
   obtain⟨q3,Hq3⟩:∃ q,Hid (decide (params.map Co.name).Nodup=q):=⟨_,rfl⟩
   obtain⟨q4,Hq4⟩:∃ q,Hid (aJ src=q):=⟨_,rfl⟩
   obtain⟨q5,Hq5⟩:∃ q,Hid (((params.map Co.name).any fun x=>decide (x=part))=q):=⟨_,rfl⟩
   obtain⟨q6,Hq6⟩:∃ q,Hid ((decide (1≤fuel)&&decide (fuel≤2000))=q):=⟨_,rfl⟩
   rw[SK.out] at Dh hfin
   rw[Hq2.out] at HF2 hfin
   rw[Hq3.out] at HF3 hfin
   rw[Hq4.out] at Su hfin
   rw[Hq5.out] at Yu hfin
   rw[Hq6.out] at HW hfin
   have bn:=ae hfin
   have Hp:=ae (fun W (hW:Below wr.heap.size wr W)=>Wq (Hx1.out.ag ((hb.trans (hW.mono hzw)).block _ hxl)))
   have HB:=ae (fun W (hW:Below wr.heap.size wr W)=>hb0.trans (hW.mono hb0.size))
   have hR:Below wr.heap.size wr wr:=Below.refl _ _
   have hnk:k≤9223372036854775807:=by omega
   obtain⟨x0,x1,x2,x3,x4,x5,xl⟩:=Hp.out _ hR
   clear hfin hcon hnl XM agI aiO hp hown Hlen
   cases q1
   ·go_wp2_with (first|(go_at_call 74;with_reducible refine(Dh.out _ _ _ _ (dC 9 name rfl uU)).mono ?_;rintro x w2 ⟨rfl,hb2⟩;replace hR:=(hR.alloc hR.size _).trans (hb2.mono (by first|(simp;done)|(have:=hR.size;simp;omega)));obtain⟨x0,x1,x2,x3,x4,x5,xl⟩:=Hp.out _ hR)|(go_at_call 74;with_reducible refine(Su.out _ _ _ _ (dC 9 src rfl oks)).mono ?_;rintro x w3 ⟨rfl,hb3⟩;replace hR:=(hR.alloc hR.size _).trans (hb3.mono (by first|(simp;done)|(have:=hR.size;simp;omega)));obtain⟨x0,x1,x2,x3,x4,x5,xl⟩:=Hp.out _ hR)|(go_at_call 74;with_reducible refine(HF2.out _ hR).mono ?_;rintro x w4 ⟨rfl,hb4⟩;replace hR:=hR.trans (hb4.mono hR.size);obtain⟨x0,x1,x2,x3,x4,x5,xl⟩:=Hp.out _ hR)|(go_at_call 75;with_reducible refine(HF3.out _ hR).mono ?_;rintro x w5 ⟨rfl,hb5⟩;replace hR:=hR.trans (hb5.mono hR.size);obtain⟨x0,x1,x2,x3,x4,x5,xl⟩:=Hp.out _ hR)|(go_at_call 73;with_reducible refine(HW.out _).mono ?_;rintro x w' ⟨rfl,rfl⟩)|(go_at_call 76;with_reducible refine(Yu.out _ hR).mono ?_;rintro x w' ⟨rfl,rfl⟩))
    go_ret
    exact⟨aI (by rw[bn.out];simp),HB.out _ hR⟩
   by_cases h8:k≤8
   rotate_left
   ·have h8':(8:Int)<(k:Int):=by omega
    go_wp2_with (first|(go_at_call 74;with_reducible refine(Dh.out _ _ _ _ (dC 9 name rfl uU)).mono ?_;rintro x w2 ⟨rfl,hb2⟩;replace hR:=(hR.alloc hR.size _).trans (hb2.mono (by first|(simp;done)|(have:=hR.size;simp;omega)));obtain⟨x0,x1,x2,x3,x4,x5,xl⟩:=Hp.out _ hR)|(go_at_call 74;with_reducible refine(Su.out _ _ _ _ (dC 9 src rfl oks)).mono ?_;rintro x w3 ⟨rfl,hb3⟩;replace hR:=(hR.alloc hR.size _).trans (hb3.mono (by first|(simp;done)|(have:=hR.size;simp;omega)));obtain⟨x0,x1,x2,x3,x4,x5,xl⟩:=Hp.out _ hR)|(go_at_call 74;with_reducible refine(HF2.out _ hR).mono ?_;rintro x w4 ⟨rfl,hb4⟩;replace hR:=hR.trans (hb4.mono hR.size);obtain⟨x0,x1,x2,x3,x4,x5,xl⟩:=Hp.out _ hR)|(go_at_call 75;with_reducible refine(HF3.out _ hR).mono ?_;rintro x w5 ⟨rfl,hb5⟩;replace hR:=hR.trans (hb5.mono hR.size);obtain⟨x0,x1,x2,x3,x4,x5,xl⟩:=Hp.out _ hR)|(go_at_call 73;with_reducible refine(HW.out _).mono ?_;rintro x w' ⟨rfl,rfl⟩)|(go_at_call 76;with_reducible refine(Yu.out _ hR).mono ?_;rintro x w' ⟨rfl,rfl⟩))
    go_ret
    exact⟨aI (by rw[bn.out];simp[h8]),HB.out _ hR⟩
   have h8':(k:Int)≤8:=by omega
   cases q2
   ·go_wp2_with (first|(go_at_call 74;with_reducible refine(Dh.out _ _ _ _ (dC 9 name rfl uU)).mono ?_;rintro x w2 ⟨rfl,hb2⟩;replace hR:=(hR.alloc hR.size _).trans (hb2.mono (by first|(simp;done)|(have:=hR.size;simp;omega)));obtain⟨x0,x1,x2,x3,x4,x5,xl⟩:=Hp.out _ hR)|(go_at_call 74;with_reducible refine(Su.out _ _ _ _ (dC 9 src rfl oks)).mono ?_;rintro x w3 ⟨rfl,hb3⟩;replace hR:=(hR.alloc hR.size _).trans (hb3.mono (by first|(simp;done)|(have:=hR.size;simp;omega)));obtain⟨x0,x1,x2,x3,x4,x5,xl⟩:=Hp.out _ hR)|(go_at_call 74;with_reducible refine(HF2.out _ hR).mono ?_;rintro x w4 ⟨rfl,hb4⟩;replace hR:=hR.trans (hb4.mono hR.size);obtain⟨x0,x1,x2,x3,x4,x5,xl⟩:=Hp.out _ hR)|(go_at_call 75;with_reducible refine(HF3.out _ hR).mono ?_;rintro x w5 ⟨rfl,hb5⟩;replace hR:=hR.trans (hb5.mono hR.size);obtain⟨x0,x1,x2,x3,x4,x5,xl⟩:=Hp.out _ hR)|(go_at_call 73;with_reducible refine(HW.out _).mono ?_;rintro x w' ⟨rfl,rfl⟩)|(go_at_call 76;with_reducible refine(Yu.out _ hR).mono ?_;rintro x w' ⟨rfl,rfl⟩))
    go_ret
    exact⟨aI (by rw[bn.out];simp),HB.out _ hR⟩
   cases q3
   ·go_wp2_with (first|(go_at_call 74;with_reducible refine(Dh.out _ _ _ _ (dC 9 name rfl uU)).mono ?_;rintro x w2 ⟨rfl,hb2⟩;replace hR:=(hR.alloc hR.size _).trans (hb2.mono (by first|(simp;done)|(have:=hR.size;simp;omega)));obtain⟨x0,x1,x2,x3,x4,x5,xl⟩:=Hp.out _ hR)|(go_at_call 74;with_reducible refine(Su.out _ _ _ _ (dC 9 src rfl oks)).mono ?_;rintro x w3 ⟨rfl,hb3⟩;replace hR:=(hR.alloc hR.size _).trans (hb3.mono (by first|(simp;done)|(have:=hR.size;simp;omega)));obtain⟨x0,x1,x2,x3,x4,x5,xl⟩:=Hp.out _ hR)|(go_at_call 74;with_reducible refine(HF2.out _ hR).mono ?_;rintro x w4 ⟨rfl,hb4⟩;replace hR:=hR.trans (hb4.mono hR.size);obtain⟨x0,x1,x2,x3,x4,x5,xl⟩:=Hp.out _ hR)|(go_at_call 75;with_reducible refine(HF3.out _ hR).mono ?_;rintro x w5 ⟨rfl,hb5⟩;replace hR:=hR.trans (hb5.mono hR.size);obtain⟨x0,x1,x2,x3,x4,x5,xl⟩:=Hp.out _ hR)|(go_at_call 73;with_reducible refine(HW.out _).mono ?_;rintro x w' ⟨rfl,rfl⟩)|(go_at_call 76;with_reducible refine(Yu.out _ hR).mono ?_;rintro x w' ⟨rfl,rfl⟩))
    go_ret
    exact⟨aI (by rw[bn.out];simp),HB.out _ hR⟩
   cases q6
   ·go_wp2_with (first|(go_at_call 74;with_reducible refine(Dh.out _ _ _ _ (dC 9 name rfl uU)).mono ?_;rintro x w2 ⟨rfl,hb2⟩;replace hR:=(hR.alloc hR.size _).trans (hb2.mono (by first|(simp;done)|(have:=hR.size;simp;omega)));obtain⟨x0,x1,x2,x3,x4,x5,xl⟩:=Hp.out _ hR)|(go_at_call 74;with_reducible refine(Su.out _ _ _ _ (dC 9 src rfl oks)).mono ?_;rintro x w3 ⟨rfl,hb3⟩;replace hR:=(hR.alloc hR.size _).trans (hb3.mono (by first|(simp;done)|(have:=hR.size;simp;omega)));obtain⟨x0,x1,x2,x3,x4,x5,xl⟩:=Hp.out _ hR)|(go_at_call 74;with_reducible refine(HF2.out _ hR).mono ?_;rintro x w4 ⟨rfl,hb4⟩;replace hR:=hR.trans (hb4.mono hR.size);obtain⟨x0,x1,x2,x3,x4,x5,xl⟩:=Hp.out _ hR)|(go_at_call 75;with_reducible refine(HF3.out _ hR).mono ?_;rintro x w5 ⟨rfl,hb5⟩;replace hR:=hR.trans (hb5.mono hR.size);obtain⟨x0,x1,x2,x3,x4,x5,xl⟩:=Hp.out _ hR)|(go_at_call 73;with_reducible refine(HW.out _).mono ?_;rintro x w' ⟨rfl,rfl⟩)|(go_at_call 76;with_reducible refine(Yu.out _ hR).mono ?_;rintro x w' ⟨rfl,rfl⟩))
    go_ret
    exact⟨aI (by rw[bn.out];simp),HB.out _ hR⟩
   cases hsrc:noS src
   ·have hsrc':=str_some hsrc
    have U9:=ae hsrc
    clear hsrc
    cases q4
    ·go_wp2_with (first|(go_at_call 74;with_reducible refine(Dh.out _ _ _ _ (dC 9 name rfl uU)).mono ?_;rintro x w2 ⟨rfl,hb2⟩;replace hR:=(hR.alloc hR.size _).trans (hb2.mono (by first|(simp;done)|(have:=hR.size;simp;omega)));obtain⟨x0,x1,x2,x3,x4,x5,xl⟩:=Hp.out _ hR)|(go_at_call 74;with_reducible refine(Su.out _ _ _ _ (dC 9 src rfl oks)).mono ?_;rintro x w3 ⟨rfl,hb3⟩;replace hR:=(hR.alloc hR.size _).trans (hb3.mono (by first|(simp;done)|(have:=hR.size;simp;omega)));obtain⟨x0,x1,x2,x3,x4,x5,xl⟩:=Hp.out _ hR)|(go_at_call 74;with_reducible refine(HF2.out _ hR).mono ?_;rintro x w4 ⟨rfl,hb4⟩;replace hR:=hR.trans (hb4.mono hR.size);obtain⟨x0,x1,x2,x3,x4,x5,xl⟩:=Hp.out _ hR)|(go_at_call 75;with_reducible refine(HF3.out _ hR).mono ?_;rintro x w5 ⟨rfl,hb5⟩;replace hR:=hR.trans (hb5.mono hR.size);obtain⟨x0,x1,x2,x3,x4,x5,xl⟩:=Hp.out _ hR)|(go_at_call 73;with_reducible refine(HW.out _).mono ?_;rintro x w' ⟨rfl,rfl⟩)|(go_at_call 76;with_reducible refine(Yu.out _ hR).mono ?_;rintro x w' ⟨rfl,rfl⟩))
     go_ret
     exact⟨aI (by rw[bn.out];simp[U9.out]),HB.out _ hR⟩
    by_cases hk0:k=0
    ·have hk0':((k:Int)==0)=true:=by simp;omega
     have SC:=ae hk0
     clear hk0
     cases hpt:noS part
     ·have aiP:=str_some hpt
      have Hpt:=ae hpt
      clear hpt
      go_wp2_with (first|(go_at_call 74;with_reducible refine(Dh.out _ _ _ _ (dC 9 name rfl uU)).mono ?_;rintro x w2 ⟨rfl,hb2⟩;replace hR:=(hR.alloc hR.size _).trans (hb2.mono (by first|(simp;done)|(have:=hR.size;simp;omega)));obtain⟨x0,x1,x2,x3,x4,x5,xl⟩:=Hp.out _ hR)|(go_at_call 74;with_reducible refine(Su.out _ _ _ _ (dC 9 src rfl oks)).mono ?_;rintro x w3 ⟨rfl,hb3⟩;replace hR:=(hR.alloc hR.size _).trans (hb3.mono (by first|(simp;done)|(have:=hR.size;simp;omega)));obtain⟨x0,x1,x2,x3,x4,x5,xl⟩:=Hp.out _ hR)|(go_at_call 74;with_reducible refine(HF2.out _ hR).mono ?_;rintro x w4 ⟨rfl,hb4⟩;replace hR:=hR.trans (hb4.mono hR.size);obtain⟨x0,x1,x2,x3,x4,x5,xl⟩:=Hp.out _ hR)|(go_at_call 75;with_reducible refine(HF3.out _ hR).mono ?_;rintro x w5 ⟨rfl,hb5⟩;replace hR:=hR.trans (hb5.mono hR.size);obtain⟨x0,x1,x2,x3,x4,x5,xl⟩:=Hp.out _ hR)|(go_at_call 73;with_reducible refine(HW.out _).mono ?_;rintro x w' ⟨rfl,rfl⟩)|(go_at_call 76;with_reducible refine(Yu.out _ hR).mono ?_;rintro x w' ⟨rfl,rfl⟩))
      go_ret
      exact⟨aI (by rw[bn.out];simp[SC.out,Hpt.out,U9.out]),HB.out _ hR⟩
     ·have aiP:=dA hpt
      have Hpt:=ae hpt
      clear hpt
      go_wp2_with (first|(go_at_call 74;with_reducible refine(Dh.out _ _ _ _ (dC 9 name rfl uU)).mono ?_;rintro x w2 ⟨rfl,hb2⟩;replace hR:=(hR.alloc hR.size _).trans (hb2.mono (by first|(simp;done)|(have:=hR.size;simp;omega)));obtain⟨x0,x1,x2,x3,x4,x5,xl⟩:=Hp.out _ hR)|(go_at_call 74;with_reducible refine(Su.out _ _ _ _ (dC 9 src rfl oks)).mono ?_;rintro x w3 ⟨rfl,hb3⟩;replace hR:=(hR.alloc hR.size _).trans (hb3.mono (by first|(simp;done)|(have:=hR.size;simp;omega)));obtain⟨x0,x1,x2,x3,x4,x5,xl⟩:=Hp.out _ hR)|(go_at_call 74;with_reducible refine(HF2.out _ hR).mono ?_;rintro x w4 ⟨rfl,hb4⟩;replace hR:=hR.trans (hb4.mono hR.size);obtain⟨x0,x1,x2,x3,x4,x5,xl⟩:=Hp.out _ hR)|(go_at_call 75;with_reducible refine(HF3.out _ hR).mono ?_;rintro x w5 ⟨rfl,hb5⟩;replace hR:=hR.trans (hb5.mono hR.size);obtain⟨x0,x1,x2,x3,x4,x5,xl⟩:=Hp.out _ hR)|(go_at_call 73;with_reducible refine(HW.out _).mono ?_;rintro x w' ⟨rfl,rfl⟩)|(go_at_call 76;with_reducible refine(Yu.out _ hR).mono ?_;rintro x w' ⟨rfl,rfl⟩))
      go_ret
      exact⟨aI (by rw[bn.out];simp[SC.out,Hpt.out,U9.out]),HB.out _ hR⟩
    ·have hk0':((k:Int)==0)=false:=by simp;omega
     have SC:=ae hk0
     clear hk0
     go_wp2_with (first|(go_at_call 74;with_reducible refine(Dh.out _ _ _ _ (dC 9 name rfl uU)).mono ?_;rintro x w2 ⟨rfl,hb2⟩;replace hR:=(hR.alloc hR.size _).trans (hb2.mono (by first|(simp;done)|(have:=hR.size;simp;omega)));obtain⟨x0,x1,x2,x3,x4,x5,xl⟩:=Hp.out _ hR)|(go_at_call 74;with_reducible refine(Su.out _ _ _ _ (dC 9 src rfl oks)).mono ?_;rintro x w3 ⟨rfl,hb3⟩;replace hR:=(hR.alloc hR.size _).trans (hb3.mono (by first|(simp;done)|(have:=hR.size;simp;omega)));obtain⟨x0,x1,x2,x3,x4,x5,xl⟩:=Hp.out _ hR)|(go_at_call 74;with_reducible refine(HF2.out _ hR).mono ?_;rintro x w4 ⟨rfl,hb4⟩;replace hR:=hR.trans (hb4.mono hR.size);obtain⟨x0,x1,x2,x3,x4,x5,xl⟩:=Hp.out _ hR)|(go_at_call 75;with_reducible refine(HF3.out _ hR).mono ?_;rintro x w5 ⟨rfl,hb5⟩;replace hR:=hR.trans (hb5.mono hR.size);obtain⟨x0,x1,x2,x3,x4,x5,xl⟩:=Hp.out _ hR)|(go_at_call 73;with_reducible refine(HW.out _).mono ?_;rintro x w' ⟨rfl,rfl⟩)|(go_at_call 76;with_reducible refine(Yu.out _ hR).mono ?_;rintro x w' ⟨rfl,rfl⟩))
     go_ret
     exact⟨aI (by rw[bn.out];simp[SC.out,U9.out,h8]),HB.out _ hR⟩
   ·have hsrc':=dA hsrc
    have U9:=ae hsrc
    clear hsrc
    cases hpt:noS part
    ·have aiP:=str_some hpt
     have Hpt:=ae hpt
     clear hpt
     go_wp2_with (first|(go_at_call 74;with_reducible refine(Dh.out _ _ _ _ (dC 9 name rfl uU)).mono ?_;rintro x w2 ⟨rfl,hb2⟩;replace hR:=(hR.alloc hR.size _).trans (hb2.mono (by first|(simp;done)|(have:=hR.size;simp;omega)));obtain⟨x0,x1,x2,x3,x4,x5,xl⟩:=Hp.out _ hR)|(go_at_call 74;with_reducible refine(Su.out _ _ _ _ (dC 9 src rfl oks)).mono ?_;rintro x w3 ⟨rfl,hb3⟩;replace hR:=(hR.alloc hR.size _).trans (hb3.mono (by first|(simp;done)|(have:=hR.size;simp;omega)));obtain⟨x0,x1,x2,x3,x4,x5,xl⟩:=Hp.out _ hR)|(go_at_call 74;with_reducible refine(HF2.out _ hR).mono ?_;rintro x w4 ⟨rfl,hb4⟩;replace hR:=hR.trans (hb4.mono hR.size);obtain⟨x0,x1,x2,x3,x4,x5,xl⟩:=Hp.out _ hR)|(go_at_call 75;with_reducible refine(HF3.out _ hR).mono ?_;rintro x w5 ⟨rfl,hb5⟩;replace hR:=hR.trans (hb5.mono hR.size);obtain⟨x0,x1,x2,x3,x4,x5,xl⟩:=Hp.out _ hR)|(go_at_call 73;with_reducible refine(HW.out _).mono ?_;rintro x w' ⟨rfl,rfl⟩)|(go_at_call 76;with_reducible refine(Yu.out _ hR).mono ?_;rintro x w' ⟨rfl,rfl⟩))
     go_ret
     exact⟨aI (by rw[bn.out];simp[Hpt.out,U9.out,h8]),HB.out _ hR⟩
    ·have aiP:=dA hpt
     have Hpt:=ae hpt
     clear hpt
     go_wp2_with (first|(go_at_call 74;with_reducible refine(Dh.out _ _ _ _ (dC 9 name rfl uU)).mono ?_;rintro x w2 ⟨rfl,hb2⟩;replace hR:=(hR.alloc hR.size _).trans (hb2.mono (by first|(simp;done)|(have:=hR.size;simp;omega)));obtain⟨x0,x1,x2,x3,x4,x5,xl⟩:=Hp.out _ hR)|(go_at_call 74;with_reducible refine(Su.out _ _ _ _ (dC 9 src rfl oks)).mono ?_;rintro x w3 ⟨rfl,hb3⟩;replace hR:=(hR.alloc hR.size _).trans (hb3.mono (by first|(simp;done)|(have:=hR.size;simp;omega)));obtain⟨x0,x1,x2,x3,x4,x5,xl⟩:=Hp.out _ hR)|(go_at_call 74;with_reducible refine(HF2.out _ hR).mono ?_;rintro x w4 ⟨rfl,hb4⟩;replace hR:=hR.trans (hb4.mono hR.size);obtain⟨x0,x1,x2,x3,x4,x5,xl⟩:=Hp.out _ hR)|(go_at_call 75;with_reducible refine(HF3.out _ hR).mono ?_;rintro x w5 ⟨rfl,hb5⟩;replace hR:=hR.trans (hb5.mono hR.size);obtain⟨x0,x1,x2,x3,x4,x5,xl⟩:=Hp.out _ hR)|(go_at_call 73;with_reducible refine(HW.out _).mono ?_;rintro x w' ⟨rfl,rfl⟩)|(go_at_call 76;with_reducible refine(Yu.out _ hR).mono ?_;rintro x w' ⟨rfl,rfl⟩))
     go_ret
     exact⟨aI (by rw[bn.out];simp[Hpt.out,U9.out,h8]),HB.out _ hR⟩
theorem Yv (d:Nat) (p:Pr):cZ d p=(rW p.name p.src p.part p.fuel p.params&&mO (jh 0 (iL d 0) (0,0) p.body)&&p.body.all (bD d)):=rfl
theorem KO (F:Nat→Prop) (d:Nat) (p:Pr) (row:List Value) (w:World) (h:lH F d w row p) (hd:d≤10000) (hbig:p.params.length≤1000000) :
  Calls Tryz.prog 16 #[.agg row.toArray] w fun x w'=>x=.returned (.bool (cZ d p))∧Below w.heap.size w w':=by
 obtain⟨uU,oks,okp,_,Ap,np,cp,Ab,nb,cb,rfl,hpl,hbl⟩:=h
 rw[hpl.len] at hbig
 have hb1:Below w.heap.size w (w.alloc (.cells #[.string p.name,.string p.src,.string p.part,.int .i64 p.fuel,.slice Ap np cp,.slice Ab nb cb] 30)):=(Below.refl _ _).alloc (Nat.le_refl _) _
 have hx1:af (w.alloc (.cells #[.string p.name,.string p.src,.string p.part,.int .i64 p.fuel,.slice Ap np cp,.slice Ab nb cb] 30)) w.heap.size 30 #[.string p.name,.string p.src,.string p.part,.int .i64 p.fuel,.slice Ap np cp,.slice Ab nb cb]:=af.laid _ _ _
 have Hx1:=ae hx1
 have Ha:=ae (Jk F d (Xx F d) Ab nb cb p.body 0 _ (hbl.below hb1) (by omega) (by omega))
 have Hh:=ae (fun W (hW:Below w.heap.size w W)=>Yt F p.name p.src p.part p.fuel Ap Ab np cp nb cb p.params W (hpl.below hW) uU oks hbig)
 have Hb:=ae (fun W (hW:Below w.heap.size w W)=>U8 F d Ab nb cb p.body W (hbl.below hW))
 have hfin:=Yv d p
 generalize jh 0 (iL d 0) (0,0) p.body=s at *
 generalize rW p.name p.src p.part p.fuel p.params=qh at *
 generalize p.body.all (bD d)=qb at *
 generalize cZ d p=fin at *
 have bn:=ae hfin
 clear hfin hx1
 obtain⟨s1,s2⟩:=s
 go_enter Tryz.func16,Tryz.ntmps16
 go_upto_region 2 with (go_at_call 32;refine Ha.out.mono ?_;rintro x w1 ⟨rfl,hb⟩;have hx2:=Hx1.out.ag (hb.block _ Hx1.out.lt))
 have hz:=hb.size
 simp at hz
 have hk:af (w1.alloc (.cells #[.int .i64 s1,.int .i64 s2] 87)) w1.heap.size 87 #[.int .i64 s1,.int .i64 s2]:=af.laid _ _ _
 have hx3:=hx2.alloc (.cells #[.int .i64 s1,.int .i64 s2] 87)
 have hb2:=(hb1.trans (hb.mono hb1.size)).alloc (by omega) (.cells #[.int .i64 s1,.int .i64 s2] 87)
 have Hk:=ae hk
 have tX:=ae hx3
 have Hs:=ae (fun W (h:af W w1.heap.size 87 #[.int .i64 s1,.int .i64 s2])=>KI _ s1 s2 W h)
 obtain⟨z0,z1,z2,z3,z4,z5,zl⟩:=Wq hx2
 clear hk hx2 hx3
 generalize mO (s1,s2)=qs at *
 cases qh<;>cases qs
 all_goals
  go_wp2_with (first|(go_at_call 34;refine(Hh.out _ hb2).mono ?_;rintro x w3 ⟨rfl,hb3⟩;have hk3:=Hk.out.ag (hb3.block _ Hk.out.lt);have hx4:=tX.out.ag (hb3.block _ tX.out.lt);have yZ:=hb2.trans (hb3.mono hb2.size);obtain⟨y0,y1,y2,y3,y4,y5,yl⟩:=Wq hx4)|(go_at_call 35;refine(Hs.out _ hk3).mono ?_;rintro x w' ⟨rfl,rfl⟩)|(go_at_call 36;refine(Hb.out _ yZ).mono ?_;rintro x w4 ⟨rfl,hb4⟩))
  go_ret
  first|exact⟨aI (by rw[bn.out];simp),yZ.trans (hb4.mono yZ.size)⟩|exact⟨aI (by rw[bn.out];simp),yZ⟩
end Go.Proofs.YtjjfkhbajidmdaaGreatDoor

/- Parts of this proof, one behind the other: SynC, SynD, SynE. -/
import Derived.Test.YtjjfkhbajidmdaaGreatDoorPb2
import Derived.Lib.ConvBytes
import Derived.Deep.RegionLaw
import Derived.Deep.RegionWith
set_option maxRecDepth 1000000
set_option maxHeartbeats 40000000
namespace Go.Proofs.YtjjfkhbajidmdaaGreatDoor
open Go.RowKit Go.Afx
def abj (F:Nat→Prop) (d:Nat):Prop:=∀ (e:St) (row:List Value) (lv:Int) (w:World),bQ F d w row e→0≤lv→lv+d≤100000 →
 Calls Tryz.prog 33 #[.agg row.toArray,.int .i64 lv] w fun x w'=>x=.returned (.agg #[.int .i64 (iL d lv e).1,.int .i64 (iL d lv e).2])∧Below w.heap.size w w'
theorem Jk (F:Nat→Prop) (d:Nat) (ih:abj F d) (A:Option Addr) (n c:Nat) (es:List St) (lv:Int) (w:World) (h:aP F d w A n c es) (h0:0≤lv) (h1:lv+d≤100000) :
  Calls Tryz.prog 32 #[.slice A n c,.int .i64 lv,.func (.func 33) #[] #[]] w fun x w'=>x=.returned (.agg #[.int .i64 (jh lv (iL d lv) (0,0) es).1,.int .i64 (jh lv (iL d lv) (0,0) es).2])∧Below w.heap.size w w':=by
 have hn:=h.gu
 have Hlen:=ae h.len
 obtain⟨w2,Hw2⟩:∃ w2,Hid (w2=(w.alloc (.cells #[.int .i64 0,.int .i64 0] 87)).alloc (.cells #[.int .i64 0,.int .i64 0] 87)):=⟨_,rfl⟩
 have hb2:Below w.heap.size w w2:=by rw[Hw2.out];exact((Below.refl _ _).alloc (Nat.le_refl _) _).alloc (by simp) _
 have hr2:af w2 w.heap.size 87 #[.int .i64 0,.int .i64 0]:=by rw[Hw2.out];exact(af.laid _ _ _).alloc _
 have hs2:af w2 (w.heap.size+1) 87 #[.int .i64 0,.int .i64 0]:=by
  have:=af.laid (w.alloc (.cells #[.int .i64 0,.int .i64 0] 87)) 87 #[.int .i64 0,.int .i64 0]
  rw[Hw2.out];simpa using this
 go_enter Tryz.func32,Tryz.ntmps32
 go_wp2
 rw[← Hw2.out]
 go_loopw [12] (fun i wr=>∃ (k:Nat) (s:Int×Int),k≤n∧i=.int .i64 k∧af wr (w.heap.size+1) 87 #[.int .i64 s.1,.int .i64 s.2]∧af wr w.heap.size 87 #[.int .i64 0,.int .i64 0]∧tV s ∧
  jh lv (iL d lv) (0,0) es=jh lv (iL d lv) s (es.drop k)∧Below w.heap.size w wr) (fun i _=>n-(intOf i).toNat)
 case atStart=>exact⟨0,(0,0),Nat.zero_le _,rfl,hs2,hr2,tV.nought,rfl,hb2⟩
 case round =>
  obtain⟨k,⟨s1,s2⟩,hk,rfl,hs,hr,hz,heq,hb⟩:=hrel
  have Heq:=ae heq
  clear heq hs2 hr2 hb2 Hw2
  have hlt:=hr.lt
  have hlts:=hs.lt
  obtain⟨z1,z2,z3,z4⟩:=hz
  simp only at z1 z2 z3 z4
  have hr0:=hr.cell 0
  have hr1:=hr.cell 1
  have hs0:=hs.cell 0
  have hs1:=hs.cell 1
  simp at hr0 hr1 hs0 hs1
  have hrf:=hr.frozen
  by_cases hlt':k<n
  ·cases d with
   | zero =>
    obtain⟨b,o,r,e,hA,hbl,_,he,hl,hp,hc⟩:=ai.get (h.below hb) hlt'
    exact hp.elim
   | succ d =>
    obtain⟨b,o,e,Ac,nc,cc,Ae,ne,ce,Ab,nb,cb,Al,nl,cl,rfl,hbl,hek,hc0,hc1,hc2,hc3,hc4,hc5,hc6,hc7,hp,_⟩:=aP.get (h.below hb) hlt'
    have Hd:=ae (drop_cons hek)
    clear hek
    have hf:=fun W (hk:af W (w.heap.size+1) 87 #[.int .i64 s1,.int .i64 s2])=>Qj (w.heap.size+1) s1 s2 W hk
    obtain⟨fl,Hfl⟩:∃ fl,Hid (vP (s1,s2)=fl):=⟨_,rfl⟩
    rw[Hfl.out] at hf
    have Hf:=ae hf
    clear hf
    have hsn:=hs.alloc (.cells #[.int .i64 e.op,.string e.name,.string e.src,.int .i64 e.n,.slice Ac nc cc,.slice Ae ne ce,.slice Ab nb cb,.slice Al nl cl] 49)
    have hrn:=hr.alloc (.cells #[.int .i64 e.op,.string e.name,.string e.src,.int .i64 e.n,.slice Ac nc cc,.slice Ae ne ce,.slice Ab nb cb,.slice Al nl cl] 49)
    have hbn:=hb.alloc hb.size (.cells #[.int .i64 e.op,.string e.name,.string e.src,.int .i64 e.n,.slice Ac nc cc,.slice Ae ne ce,.slice Ab nb cb,.slice Al nl cl] 49)
    have hpn:=hp.below ((Below.refl wr.heap.size wr).alloc (Nat.le_refl _) (.cells #[.int .i64 e.op,.string e.name,.string e.src,.int .i64 e.n,.slice Ac nc cc,.slice Ae ne ce,.slice Ab nb cb,.slice Al nl cl] 49))
    cases fl
    ·by_cases hlv:lv<1000
     ·go_wp2_with (first|(go_at_call 69;refine(Hf.out _ hsn).mono ?_;rintro x w' ⟨rfl,rfl⟩))
      have hz2:=I7 (d+1) lv e
      obtain⟨y1,y2,y3,y4⟩:=hz2
      have Hih:=ae (ih e _ lv _ hpn h0 (by omega))
      refine Hih.out.mono ?_
      rintro x w3 ⟨rfl,hb3⟩
      have hs3:=hsn.ag (hb3.block _ hsn.lt)
      have hr3:=hrn.ag (hb3.block _ hrn.lt)
      have yZ:=hbn.trans (hb3.mono hbn.size)
      go_wp2_with fail
      refine(add_any (w.heap.size+1) s1 s2 _ _ w3 hs3 z1 z2 y1 y2).mono ?_
      rintro x w4 ⟨rfl,hs4,Ql⟩
      have hr4:=hr3.ag (Ql.block _ hr3.lt (by omega))
      have zN:=yZ.trans (Ql.below' yZ.size (fun i hi=>by omega))
      go_wp2
      go_roundw
      case rel=>exact⟨k+1,uk (s1,s2) (iL (d+1) lv e),by omega,by go_num,hs4,hr4,tV.add ⟨z1,z2,z3,z4⟩ ⟨y1,y2,y3,y4⟩,by rw[Heq.out,Hd.out,jh,Hfl.out];simp;intro hh;omega,zN⟩
      case measure=>simp[intOf];omega
     ·go_wp2_with (first|(go_at_call 69;refine(Hf.out _ hsn).mono ?_;rintro x w' ⟨rfl,rfl⟩))
      refine bodyPost_ret (v:=.agg #[.int .i64 1000,.int .i64 1000]) (by simp[results,Tryz.results32,go_sem,hr0,hr1,hlt]) rfl ⟨?_,((hb.setCell (p:=⟨w.heap.size,0,none⟩) (Nat.le_refl _) _).setCell (p:=⟨w.heap.size,1,none⟩) (Nat.le_refl _) _).alloc (by simpa using hb.size) _⟩
      rw[Heq.out,Hd.out,jh,Hfl.out,if_pos (by simp;omega)]
    ·go_wp2_with (first|(go_at_call 69;refine(Hf.out _ hsn).mono ?_;rintro x w' ⟨rfl,rfl⟩))
     refine bodyPost_ret (v:=.agg #[.int .i64 1000,.int .i64 1000]) (by simp[results,Tryz.results32,go_sem,hr0,hr1,hlt]) rfl ⟨?_,((hb.setCell (p:=⟨w.heap.size,0,none⟩) (Nat.le_refl _) _).setCell (p:=⟨w.heap.size,1,none⟩) (Nat.le_refl _) _).alloc (by simpa using hb.size) _⟩
     rw[Heq.out,Hd.out,jh,Hfl.out,if_pos (by simp)]
  ·go_wp2
   refine bodyPost_ret (v:=.agg #[.int .i64 s1,.int .i64 s2]) (by simp[results,Tryz.results32,go_sem,hr0,hr1]) rfl ⟨?_,(hb.setCell (p:=⟨w.heap.size,0,none⟩) (Nat.le_refl _) _).setCell (p:=⟨w.heap.size,1,none⟩) (Nat.le_refl _) _⟩
   rw[Heq.out,List.drop_of_length_le (by rw[Hlen.out];omega)]
   rfl
theorem Xx (F:Nat→Prop) (d:Nat):abj F d:=by
 induction d with
 | zero=>intro e row lv w h;exact h.elim
 | succ d ih =>
  intro e row lv w h h0 h1
  obtain⟨Ac,nc,cc,Ae,ne,ce,Ab,nb,cb,Al,nl,cl,rfl,hcl,hel,hbl,hll⟩:=h.open_.2.2.2.2
  have hb1:Below w.heap.size w (w.alloc (.cells #[.int .i64 e.op,.string e.name,.string e.src,.int .i64 e.n,.slice Ac nc cc,.slice Ae ne ce,.slice Ab nb cb,.slice Al nl cl] 49)):=(Below.refl _ _).alloc (Nat.le_refl _) _
  have hb2:=hb1.alloc hb1.size (.cells #[.int .i64 0,.int .i64 0] 87)
  have hr2:af ((w.alloc (.cells #[.int .i64 e.op,.string e.name,.string e.src,.int .i64 e.n,.slice Ac nc cc,.slice Ae ne ce,.slice Ab nb cb,.slice Al nl cl] 49)).alloc (.cells #[.int .i64 0,.int .i64 0] 87)) (w.heap.size+1) 87 #[.int .i64 0,.int .i64 0]:=fZ (by simp) _ _
  have hx2:af ((w.alloc (.cells #[.int .i64 e.op,.string e.name,.string e.src,.int .i64 e.n,.slice Ac nc cc,.slice Ae ne ce,.slice Ab nb cb,.slice Al nl cl] 49)).alloc (.cells #[.int .i64 0,.int .i64 0] 87)) w.heap.size 49 #[.int .i64 e.op,.string e.name,.string e.src,.int .i64 e.n,.slice Ac nc cc,.slice Ae ne ce,.slice Ab nb cb,.slice Al nl cl]:=(af.laid _ _ _).alloc _
  have lZ:=ae (Qk F d (KH F d) Ae ne ce e.exprs (lv+1) _ (hel.below hb2) (by omega) (by omega))
  have akU:=ae (fun W (hW:Below w.heap.size w W)=>Jk F d ih Ab nb cb e.body (lv+1) W (hbl.below hW) (by omega) (by omega))
  have akV:=ae (fun W (hW:Below w.heap.size w W)=>Jk F d ih Al nl cl e.els (lv+1) W (hll.below hW) (by omega) (by omega))
  have ze:=tV.all (lv:=lv+1) (l:=e.exprs) (DC d (lv+1)) tV.nought
  have zb:=tV.all (lv:=lv+1) (l:=e.body) (I7 d (lv+1)) tV.nought
  have zl:=tV.all (lv:=lv+1) (l:=e.els) (I7 d (lv+1)) tV.nought
  have hfin:pM (uk (uk (jh (lv+1) (iZ d (lv+1)) (0,0) e.exprs) (jh (lv+1) (iL d (lv+1)) (0,0) e.body)) (jh (lv+1) (iL d (lv+1)) (0,0) e.els))=iL (d+1) lv e:=rfl
  have gm:=ae hr2
  have KD:=ae hx2
  generalize jh (lv+1) (iZ d (lv+1)) (0,0) e.exprs=sE at *
  generalize jh (lv+1) (iL d (lv+1)) (0,0) e.body=sB at *
  generalize jh (lv+1) (iL d (lv+1)) (0,0) e.els=sL at *
  generalize iL (d+1) lv e=fin at *
  have z1:=ze.add zb
  have z2:=z1.add zl
  have bn:=ae hfin
  clear hfin hr2 hx2 ih
  obtain⟨e1,e2⟩:=sE
  obtain⟨b1,b2⟩:=sB
  obtain⟨l1,l2⟩:=sL
  go_enter Tryz.func33,Tryz.ntmps33
  go_wp2_with fail
  refine lZ.out.mono ?_
  rintro x w3 ⟨rfl,hb3⟩
  have hr3:=gm.out.ag (hb3.block _ gm.out.lt)
  have hx3:=KD.out.ag (hb3.block _ KD.out.lt)
  have yZ:=hb2.trans (hb3.mono hb2.size)
  have hx6:=hx3.cell 6
  simp at hx6
  have hs4:af (w3.alloc (.cells #[.int .i64 e1,.int .i64 e2] 87)) w3.heap.size 87 #[.int .i64 e1,.int .i64 e2]:=fZ rfl _ _
  have zN:=yZ.alloc yZ.size (.cells #[.int .i64 e1,.int .i64 e2] 87)
  have hr4:=hr3.alloc (.cells #[.int .i64 e1,.int .i64 e2] 87)
  have hx4:=hx3.alloc (.cells #[.int .i64 e1,.int .i64 e2] 87)
  have hlt3:=hx3.lt
  have ao0:=hr3.lt
  go_wp2_with fail
  refine(akU.out _ zN).mono ?_
  rintro x w5 ⟨rfl,hb5⟩
  have hs5:=hs4.ag (hb5.block _ hs4.lt)
  have jf:=hr4.ag (hb5.block _ hr4.lt)
  have hx5:=hx4.ag (hb5.block _ hx4.lt)
  have akW:=zN.trans (hb5.mono zN.size)
  go_wp2_with fail
  refine(add_any _ e1 e2 b1 b2 w5 hs5 ze.1 ze.2.1 zb.1 zb.2.1).mono ?_
  rintro x w6 ⟨rfl,hs6,dS⟩
  have lI:=jf.ag (dS.block _ jf.lt (fun h=>by have h:w.heap.size+1=w3.heap.size:=h;omega))
  have anH:=hx5.ag (dS.block _ hx5.lt (fun h=>by have h:w.heap.size=w3.heap.size:=h;omega))
  have ahS:=akW.trans (dS.below' akW.size (fun i hi=>by omega))
  have anI:=anH.cell 7
  simp at anI
  generalize uk (e1,e2) (b1,b2)=sq at *
  obtain⟨q1,q2⟩:=sq
  go_wp2_with fail
  refine(akV.out _ ahS).mono ?_
  rintro x w7 ⟨rfl,hb7⟩
  have hs7:=hs6.ag (hb7.block _ hs6.lt)
  have rU:=lI.ag (hb7.block _ lI.lt)
  have akX:=ahS.trans (hb7.mono ahS.size)
  go_wp2_with fail
  refine(add_any _ q1 q2 l1 l2 w7 hs7 z1.1 z1.2.1 zl.1 zl.2.1).mono ?_
  rintro x w8 ⟨rfl,hs8,agz⟩
  have VC:=rU.ag (agz.block _ rU.lt (fun h=>by have h:w.heap.size+1=w3.heap.size:=h;omega))
  have akY:=akX.trans (agz.below' akX.size (fun i hi=>by omega))
  generalize uk (q1,q2) (l1,l2)=sr at *
  obtain⟨r1,r2⟩:=sr
  have anJ:=hs8.cell 0
  have anK:=hs8.cell 1
  simp at anJ anK
  go_wp2_with fail
  refine(Qi r1 r2 w8 z2.1 z2.2.2.1 z2.2.1 z2.2.2.2).mono ?_
  rintro x w9 ⟨rfl,SS⟩
  have YD:=VC.ag (SS.block _ VC.lt)
  have g0:=YD.cell 0
  have g1:=YD.cell 1
  simp at g0 g1
  have qf:=YD.frozen
  have ql:=YD.lt
  have anL:=akY.trans (SS.mono akY.size)
  rw[bn.out]
  obtain⟨f1,f2⟩:=fin
  go_wp2_with fail
  refine bodyPost_ret (v:=.agg #[.int .i64 f1,.int .i64 f2]) (by simp[results,Tryz.results33,go_sem,g0,g1]) rfl ⟨rfl,(anL.setCell (p:=⟨w.heap.size+1,0,none⟩) (by simp) _).setCell (p:=⟨w.heap.size+1,1,none⟩) (by simp) _⟩
def su {α:Type} (p:α→Bool):List α→Int
 | []=>-1
 | x::r=>if p x then 0 else if su p r = -1 then -1 else su p r+1
theorem Uk {α:Type} (p:α→Bool) (l:List α):su p l = -1∨(0≤su p l∧su p l<l.length):=by
 induction l with
 | nil=>exact .inl rfl
 | cons x r ih =>
  unfold su
  split
  ·right;simp
  ·split
   ·exact .inl rfl
   ·right;simp only[List.length_cons];omega
theorem xm {α:Type} (p:α→Bool) (l:List α):decide (0≤su p l)=l.any p:=by
 induction l with
 | nil=>rfl
 | cons x r ih =>
  have hr:=Uk p r
  unfold su
  rw[List.any_cons,← ih]
  cases hp:p x with
  | true=>simp
  | false =>
   simp only[Bool.false_eq_true,if_false,Bool.false_or]
   split<;>simp<;>omega
theorem xq {α:Type} {p:α→Bool} {l:List α} {k:Nat} {x:α} (hk:l[k]?=some x) (he:p x=true) (hp:∀ y∈l.take k,p y=false):su p l=k:=by
 induction l generalizing k with
 | nil=>simp at hk
 | cons y r ih =>
  cases k with
  | zero=>simp at hk;subst hk;simp[su,he]
  | succ k =>
   have h1:=ih (k:=k) (by simpa using hk) (fun z hz=>hp z (by simp[hz]))
   rw[su,hp y (by simp),h1]
   simp
theorem DZ {α:Type} {p:α→Bool} {l:List α} (hp:∀ y∈l,p y=false):su p l = -1:=by
 induction l with
 | nil=>rfl
 | cons y r ih=>rw[su,hp y (by simp),ih fun z hz=>hp z (by simp[hz])];simp
theorem gU {α:Type} {l:List α} {k:Nat} {x:α} (h:l[k]?=some x) {P:α→Prop} (h1:∀ y∈l.take k,P y) (h2:P x):∀ y∈l.take (k+1),P y:=by
 obtain⟨hk,rfl⟩:=List.getElem?_eq_some_iff.1 h
 intro y hy
 rw[List.take_succ_eq_append_getElem hk,List.mem_append] at hy
 rcases hy with hy|hy
 ·exact h1 y hy
 ·rw[List.mem_singleton.1 hy];exact h2
theorem Vr {F:Nat→Prop} {w:World} {A:Option Addr} {n c:Nat} {xs:List ByteArray} (h:ai F w 1 dL A n c xs) {k:Nat} (hk:k<n):∃ b o x,A=some ⟨b,o,none⟩∧b<w.heap.size∧xs[k]?=some x∧okS x∧w.cell? ⟨b,o+k,none⟩=some (.string x):=by
 obtain⟨b,o,r,x,hA,hb,_,hx,hl,⟨rfl,hs⟩,hc⟩:=h.get hk
 exact⟨b,o,x,hA,hb,hx,hs,by simpa using hc 0 _ rfl⟩
theorem Ul (F:Nat→Prop) (A:Option Addr) (n c:Nat) (xs:List ByteArray) (s:ByteArray) (w:World) (h:ai F w 1 dL A n c xs) :
  Calls Tryz.prog 107 #[.slice A n c,.string s] w fun x w'=>x=.returned (.int .i64 (su (fun y=>s.toList==y.toList) xs))∧w=w':=by
 have hn:=h.gu
 have Hl:=ae h.len
 go_enter Tryz.func107,Tryz.ntmps107
 go_wp2
 go_loop [8] (fun i=>∃ k:Nat,k≤n∧i=.int .i64 k∧∀ y∈xs.take k,(s.toList==y.toList)=false) (fun i=>n-(intOf i).toNat)
 case atStart=>exact⟨0,Nat.zero_le _,rfl,by simp⟩
 case round =>
  obtain⟨k,hk,rfl,hno⟩:=hrel
  have Hno:=ae hno;clear hno
  by_cases hlt:k<n
  ·obtain⟨b,o,x,rfl,hbl,hx,hs,hc0⟩:=Vr h hlt
   have Hx:=ae hx;clear hx
   by_cases he:(s.toList==x.toList)=true
   ·have Hf:=ae (xq (p:=fun y=>s.toList==y.toList) Hx.out he Hno.out)
    go_wp2
    go_ret
    exact⟨by rw[Hf.out];rfl,rfl⟩
   ·have he:(s.toList==x.toList)=false:=by simpa using he
    have JZ:=ae (gU Hx.out Hno.out he)
    go_wp2
    go_round
    case rel=>exact⟨k+1,by omega,by go_num,JZ.out⟩
    case measure=>simp[intOf];omega
  ·go_wp2
   go_ret
   have h1:=Hno.out
   rw[List.take_of_length_le (by rw[Hl.out];omega)] at h1
   exact⟨by rw[DZ h1];rfl,rfl⟩
theorem zo (F:Nat→Prop) (A:Option Addr) (n c:Nat) (xs:List ByteArray) (s:ByteArray) (w:World) (h:ai F w 1 dL A n c xs) :
  Calls Tryz.prog 76 #[.slice A n c,.string s] w fun x w'=>x=.returned (.bool (xs.any fun y=>s.toList==y.toList))∧w=w':=by
 have hi:=Ul F A n c xs s w h
 have hp:=xm (fun y=>s.toList==y.toList) xs
 generalize xs.any (fun y=>s.toList==y.toList)=r at *
 generalize su (fun y=>s.toList==y.toList) xs=i at *
 have Hp:=ae hp
 have Hi:=ae hi
 clear hp hi
 go_enter Tryz.func76,Tryz.ntmps76
 go_wp2_with (go_at_call 107;refine Hi.out.mono ?_;rintro x w' ⟨rfl,rfl⟩)
 go_ret
 exact⟨aI Hp.out,rfl⟩
theorem Xy (w:World):Calls Tryz.prog 121 #[] w fun x w'=>x=.returned (.slice (some ⟨w.heap.size,0,none⟩) 43 43)∧ai (fun b=>b=w.heap.size) w' 1 dL (some ⟨w.heap.size,0,none⟩) 43 43 ug∧Below w.heap.size w w':=by
 go_enter Tryz.func121,Tryz.ntmps121
 go_wp2
 go_ret
 refine⟨rfl,⟨ug.map fun s=>[.string s],az.lit _ _ 43 rfl (by simp) rfl (by unfold maxLen;omega),fun a ha _=>?_,rfl,fun k r x hr hx=>?_⟩,(Below.refl _ _).alloc (Nat.le_refl _) _⟩
 ·injection ha with ha;subst ha;rfl
 ·rw[List.getElem?_map,hx] at hr
  simp at hr
  subst hr
  refine⟨rfl,rfl,?_⟩
  have:∀ y∈ug,okS y:=by unfold okS;decide +kernel
  exact this x (List.mem_of_getElem? hx)
theorem DN (s:ByteArray) (w:World):Calls Tryz.prog 90 #[.string s] w fun x w'=>x=.returned (.bool (tu s))∧Below w.heap.size w w':=by
 have hr:(ug.any fun y=>s.toList==y.toList)=tu s:=by
  unfold tu
  congr 1
  funext x
  exact BEq.comm
 go_enter Tryz.func90,Tryz.ntmps90
 have Hr:=ae hr
 clear hr
 go_wp2_with (first|(go_at_call 121;refine(Xy _).mono ?_;rintro x w1 ⟨rfl,hl,hb1⟩)|(go_at_call 76;refine(zo _ _ _ _ _ _ _ hl).mono ?_;rw[Hr.out];rintro x w' ⟨rfl,rfl⟩))
 go_ret
 exact⟨rfl,hb1⟩
theorem zT (c:UInt8) (w:World):Calls Tryz.prog 156 #[.int .u8 (c.toNat:Int)] w fun x w'=>x=.returned (.bool (ni c))∧w=w':=by
 go_enter Tryz.func156,Tryz.ntmps156
 go_wp2
 all_goals
  go_ret
  refine⟨aI ?_,rfl⟩
  rw[Bool.eq_iff_iff]
  simp[ni]
  omega
theorem abk (c:UInt8) (w:World):Calls Tryz.prog 157 #[.int .u8 (c.toNat:Int)] w fun x w'=>x=.returned (.bool (uD c))∧w=w':=by
 cases hl:ni c with
 | true =>
  have h:=zT c w
  rw[hl] at h
  have H:=ae h
  have Hl:=ae hl
  clear h hl
  go_enter Tryz.func157,Tryz.ntmps157
  go_wp2_with (go_at_call 156;refine H.out.mono ?_;rintro x w' ⟨rfl,rfl⟩)
  all_goals
   go_ret
   refine⟨aI ?_,rfl⟩
   simp[uD,Hl.out]
 | false =>
  have h:=zT c w
  rw[hl] at h
  have H:=ae h
  have Hl:=ae hl
  clear h hl
  go_enter Tryz.func157,Tryz.ntmps157
  go_wp2_with (go_at_call 156;refine H.out.mono ?_;rintro x w' ⟨rfl,rfl⟩)
  all_goals
   go_ret
   refine⟨aI ?_,rfl⟩
   rw[Bool.eq_iff_iff]
   simp[uD,Hl.out]
   omega
theorem Jl (w:World) (e:TypeId) (s:ByteArray):Below w.heap.size w (Lib.bytesWorld w e s):=by
 refine⟨?_,?_,?_,by rw[Lib.bytesWorld_size];omega,fun k hk=>Lib.bytesWorld_at_old w e s k hk⟩
 ·simp[Lib.bytesWorld,World.freeze];rfl
 ·simp[Lib.bytesWorld,World.freeze]
 ·simp[Lib.bytesWorld,World.freeze];rfl
theorem VW (s:ByteArray) (h:0<s.size):∃ c r,s.data.toList=c::r∧s[0]=c∧r.length+1=s.size:=by
 have hl:s.data.toList.length=s.size:=by simp
 have h2:s.data.toList[0]?=some s[0]:=by
  rw[List.getElem?_eq_getElem (by rw[hl];exact h)];rfl
 match hs:s.data.toList,hl with
 | [],hl=>simp at hl;omega
 | c::r,hl =>
  refine⟨c,r,rfl,?_,by simpa using hl⟩
  rw[hs] at h2
  exact(Option.some.inj h2).symm
theorem QA {c:UInt8} (h:ni c=true):uD c=true:=by simp[uD,h]
theorem EM (s:ByteArray):s.toList=[] ↔ s.size=0:=by
 rw[ByteArray.toList_eq,← List.length_eq_zero_iff]
 simp
theorem Xz (s:ByteArray) (w:World):Calls Tryz.prog 132 #[.string s] w fun x w'=>x=.returned (.bool (dV s))∧Below w.heap.size w w':=by
 by_cases h0:s.size=0
 ·have hn:dV s=false:=by
   unfold dV
   have:s.data.toList=[]:=List.eq_nil_of_length_eq_zero (by simpa using h0)
   rw[this]
  have Hn:=ae hn
  have he:s.toList=[]:=(EM s).2 h0
  clear h0 hn
  go_enter Tryz.func132,Tryz.ntmps132
  go_wp2
  go_ret
  exact⟨by rw[Hn.out];rfl,Below.refl _ _⟩
 ·have he:s.toList.isEmpty=false:=by
   cases hx:s.toList with
   | nil=>exact absurd ((EM s).1 hx) h0
   | cons a l=>rfl
  have hpos:0<s.size:=by omega
  obtain⟨c,r,hs,hc,hl⟩:=VW s hpos
  have Hs:=ae hs
  clear hs
  by_cases h16:16<s.size
  ·have hn:dV s=false:=by
    unfold dV
    rw[Hs.out]
    simp;omega
   have Hn:=ae hn
   have h17:(16:Int)<(s.size:Int):=by omega
   clear hn hc hl h0
   go_enter Tryz.func132,Tryz.ntmps132
   go_wp2
   go_ret
   exact⟨by rw[Hn.out];rfl,Below.refl _ _⟩
  ·have hL:=zT s[0] w
   rw[hc] at hL
   have hn:dV s=(ni c&&r.all uD):=by
    unfold dV
    rw[Hs.out]
    have h3:decide (r.length+1≤16)=true:=by simp;omega
    simp only[h3,Bool.true_and]
   obtain⟨q,hq⟩:∃ q,ni c=q:=⟨_,rfl⟩
   rw[hq] at hL hn
   have Hl:=ae hL
   have Hq:=ae hq
   have Hc:=ae hc
   have Hlen:=ae hl
   have Hn:=ae hn
   clear hL hq hc hl hn h0
   have hle:(s.size:Int)≤16:=by omega
   cases q
   ·go_enter Tryz.func132,Tryz.ntmps132
    go_wp2_with (go_at_call 156;rw[Hc.out];refine Hl.out.mono ?_;rintro x w' ⟨rfl,rfl⟩)
    go_ret
    exact⟨by rw[Hn.out];rfl,Below.refl _ _⟩
   ·have hcv:=fun (W:World)=>Lib.run_convert_string_bytes (P:=Tryz.prog) W 9 79 5 s Tryz.underlying9 Tryz.underlying79 Tryz.underlying5
    have hcell:=Lib.bytesWorld_cell w 5 s
    have abl:=ae hcell
    clear hcell
    have hbel:=Jl w 5 s
    go_enter Tryz.func132,Tryz.ntmps132
    go_wp2_with (go_at_call 156;rw[Hc.out];refine Hl.out.mono ?_;rintro x w' ⟨rfl,rfl⟩)
    generalize Lib.bytesWorld w 5 s=wb at *
    go_loop [21] (fun i=>∃ k:Nat,k≤s.size∧i=.int .i64 k∧∀ y∈s.data.toList.take k,uD y=true) (fun i=>s.size-(intOf i).toNat)
    case atStart=>exact⟨0,Nat.zero_le _,rfl,by simp⟩
    case round =>
     obtain⟨k,hk,rfl,hall⟩:=hrel
     have lZ:=ae hall
     clear hall hcv
     by_cases hlt:k<s.size
     ·have hc1:=abl.out k hlt
      obtain⟨y,hy⟩:∃ y,s.data.toList[k]?=some y:=⟨_,List.getElem?_eq_getElem (by simpa using hlt)⟩
      rw[List.getD_eq_getElem?_getD,hy,Option.getD_some] at hc1
      have Hy:=ae hy
      have hp:=abk y wb
      obtain⟨z,hz⟩:∃ z,uD y=z:=⟨_,rfl⟩
      rw[hz] at hp
      have Hp:=ae hp
      have Hz:=ae hz
      clear hp hz hy
      cases z
      ·go_wp2_with (go_at_call 157;refine Hp.out.mono ?_;rintro x w' ⟨rfl,rfl⟩)
       go_ret
       refine⟨?_,hbel⟩
       rw[Hn.out]
       have hm:=List.mem_of_getElem? Hy.out
       rw[Hs.out] at hm
       refine aI ?_
       rw[Bool.true_and,eq_comm,List.all_eq_false]
       rcases List.mem_cons.1 hm with rfl|hm
       ·have:=QA Hq.out
        rw[Hz.out] at this;cases this
       ·exact⟨y,hm,by rw[Hz.out];simp⟩
      ·have KU:=ae (gU Hy.out lZ.out Hz.out)
       go_wp2_with (go_at_call 157;refine Hp.out.mono ?_;rintro x w' ⟨rfl,rfl⟩)
       go_round
       case rel=>exact⟨k+1,by omega,by go_num,KU.out⟩
       case measure=>simp[intOf];omega
     ·go_wp2
      go_ret
      refine⟨?_,hbel⟩
      have h1:=lZ.out
      rw[List.take_of_length_le (by simp;omega),Hs.out] at h1
      rw[Hn.out]
      refine aI ?_
      rw[Bool.true_and,eq_comm,List.all_eq_true]
      exact fun z hz=>h1 z (by simp[hz])
theorem zU (F:Nat→Prop) (A:Option Addr) (n c:Nat) (xs:List ByteArray) (w:World) (h:ai F w 1 dL A n c xs) :
  Calls Tryz.prog 103 #[.slice A n c] w fun x w'=>x=.returned (.bool (xs.all dV))∧Below w.heap.size w w':=by
 have hn:=h.gu
 have Hl:=ae h.len
 go_enter Tryz.func103,Tryz.ntmps103
 go_wp2
 go_loopw [7] (fun i wr=>∃ k:Nat,k≤n∧i=.int .i64 k∧(∀ y∈xs.take k,dV y=true)∧Below w.heap.size w wr) (fun i _=>n-(intOf i).toNat)
 case atStart=>exact⟨0,Nat.zero_le _,rfl,by simp,Below.refl _ _⟩
 case round =>
  obtain⟨k,hk,rfl,hall,hb⟩:=hrel
  have lZ:=ae hall;clear hall
  by_cases hlt:k<n
  ·obtain⟨b,o,x,rfl,hbl,hx,hs,hc0⟩:=Vr (h.below hb) hlt
   have hc:=Xz x wr
   obtain⟨q,hq⟩:∃ q,dV x=q:=⟨_,rfl⟩
   rw[hq] at hc
   have Hc:=ae hc
   have Hq:=ae hq
   have Hx:=ae hx
   clear hc hq hx
   cases q
   ·go_wp2_with (go_at_call 132;refine Hc.out.mono ?_;rintro y w1 ⟨rfl,hb1⟩)
    go_ret
    refine⟨aI ?_,hb.trans (hb1.mono hb.size)⟩
    rw[eq_comm,List.all_eq_false]
    exact⟨x,List.mem_of_getElem? Hx.out,by rw[Hq.out];simp⟩
   ·have KU:=ae (gU Hx.out lZ.out Hq.out)
    go_wp2_with (go_at_call 132;refine Hc.out.mono ?_;rintro y w1 ⟨rfl,hb1⟩)
    go_roundw
    case rel=>exact⟨k+1,by omega,by go_num,KU.out,hb.trans (hb1.mono hb.size)⟩
    case measure=>simp[intOf];omega
  ·go_wp2
   go_ret
   refine⟨aI ?_,hb⟩
   have h1:=lZ.out
   rw[List.take_of_length_le (by rw[Hl.out];omega)] at h1
   rw[eq_comm,List.all_eq_true]
   exact h1
theorem Na (F:Nat→Prop) (A:Option Addr) (n c:Nat) (xs:List ByteArray) (w:World) (h:ai F w 1 dL A n c xs) :
  Calls Tryz.prog 122 #[.slice A n c,.func (.func 90) #[] #[]] w fun x w'=>x=.returned (.int .i64 (su tu xs))∧Below w.heap.size w w':=by
 have hn:=h.gu
 have Hl:=ae h.len
 go_enter Tryz.func122,Tryz.ntmps122
 go_wp2
 go_loopw [8] (fun i wr=>∃ k:Nat,k≤n∧i=.int .i64 k∧(∀ y∈xs.take k,tu y=false)∧Below w.heap.size w wr) (fun i _=>n-(intOf i).toNat)
 case atStart=>exact⟨0,Nat.zero_le _,rfl,by simp,Below.refl _ _⟩
 case round =>
  obtain⟨k,hk,rfl,hall,hb⟩:=hrel
  have lZ:=ae hall;clear hall
  by_cases hlt:k<n
  ·obtain⟨b,o,x,rfl,hbl,hx,hs,hc0⟩:=Vr (h.below hb) hlt
   have hc:=DN x wr
   obtain⟨q,hq⟩:∃ q,tu x=q:=⟨_,rfl⟩
   rw[hq] at hc
   have Hc:=ae hc
   have Hq:=ae hq
   have Hx:=ae hx
   clear hc hq hx
   cases q
   ·have KU:=ae (gU Hx.out lZ.out Hq.out)
    go_wp2_with (go_at_call 90;refine Hc.out.mono ?_;rintro y w1 ⟨rfl,hb1⟩)
    go_roundw
    case rel=>exact⟨k+1,by omega,by go_num,KU.out,hb.trans (hb1.mono hb.size)⟩
    case measure=>simp[intOf];omega
   ·have Hf:=ae (xq Hx.out Hq.out lZ.out)
    go_wp2_with (go_at_call 90;refine Hc.out.mono ?_;rintro y w1 ⟨rfl,hb1⟩)
    go_ret
    exact⟨by rw[Hf.out];rfl,hb.trans (hb1.mono hb.size)⟩
  ·go_wp2
   go_ret
   have h1:=lZ.out
   rw[List.take_of_length_le (by rw[Hl.out];omega)] at h1
   exact⟨by rw[DZ h1];rfl,hb⟩
theorem Ia (F:Nat→Prop) (A:Option Addr) (n c:Nat) (xs:List ByteArray) (w:World) (h:ai F w 1 dL A n c xs) :
  Calls Tryz.prog 92 #[.slice A n c,.func (.func 90) #[] #[]] w fun x w'=>x=.returned (.bool (xs.any tu))∧Below w.heap.size w w':=by
 have hi:=Na F A n c xs w h
 have hp:=xm tu xs
 generalize xs.any tu=r at *
 generalize su tu xs=i at *
 have Hp:=ae hp
 have Hi:=ae hi
 clear hp hi
 go_enter Tryz.func92,Tryz.ntmps92
 go_wp2_with (go_at_call 122;refine Hi.out.mono ?_;rintro x w' ⟨rfl,hb⟩)
 go_ret
 exact⟨aI Hp.out,hb⟩
theorem fJ (F:Nat→Prop) (A:Option Addr) (n c:Nat) (xs:List ByteArray) (w:World) (h:ai F w 1 dL A n c xs) :
  Calls Tryz.prog 74 #[.slice A n c] w fun x w'=>x=.returned (.bool (lN xs))∧Below w.heap.size w w':=by
 have h1:=zU F A n c xs w h
 have h2:=fun W (hW:Below w.heap.size w W)=>Ia F A n c xs W (h.below hW)
 have hf:lN xs=(xs.all dV&&!xs.any tu):=rfl
 generalize xs.any tu=r at *
 generalize xs.all dV=q at *
 have Hf:=ae hf
 have H1:=ae h1
 have H2:=ae h2
 clear h1 h2 hf
 cases q
 ·go_enter Tryz.func74,Tryz.ntmps74
  go_wp2_with (go_at_call 103;refine H1.out.mono ?_;rintro x w1 ⟨rfl,hb1⟩)
  go_ret
  exact⟨aI (by rw[Hf.out];rfl),hb1⟩
 ·go_enter Tryz.func74,Tryz.ntmps74
  go_wp2_with (first|(go_at_call 103;refine H1.out.mono ?_;rintro x w1 ⟨rfl,hb1⟩)|(go_at_call 92;refine(H2.out _ hb1).mono ?_;rintro x w2 ⟨rfl,hb2⟩))
  go_ret
  exact⟨aI (by rw[Hf.out];rfl),hb1.trans (hb2.mono hb1.size)⟩
theorem lS (s:ByteArray):noS s=s.toList.isEmpty:=by
 unfold noS
 rw[Bool.eq_iff_iff,decide_eq_true_iff,List.isEmpty_iff]
 have h0:ByteArray.empty.toList=[]:=by rw[ByteArray.toList_eq];rfl
 constructor
 ·rintro rfl;exact h0
 ·intro h
  exact TQ (h.trans h0.symm)
theorem dC {w:World} {g:Nat} (T:TypeId) (a:ByteArray) (hg:g=w.heap.size) (ha:okS a):ai (fun _=>True) (w.alloc (.cells #[.string a] T)) 1 dL (some ⟨g,0,none⟩) 1 1 [a] :=
 ⟨[[.string a]],az.nG _ _ 1 hg rfl (by simp) rfl (by unfold maxLen;omega),fun _ _ _=>trivial,rfl,fun k r x hr hx=>by
  cases k with
  | zero=>simp at hr hx;subst hr hx;exact⟨rfl,rfl,ha⟩
  | succ k=>simp at hr⟩
theorem QB {w:World} {g:Nat} (T:TypeId) (a b:ByteArray) (hg:g=w.heap.size) (ha:okS a) (hb:okS b):ai (fun _=>True) (w.alloc (.cells #[.string a,.string b] T)) 1 dL (some ⟨g,0,none⟩) 2 2 [a,b] :=
 ⟨[[.string a],[.string b]],az.nG _ _ 2 hg rfl (by simp) rfl (by unfold maxLen;omega),fun _ _ _=>trivial,rfl,fun k r x hr hx=>by
  match k with
  | 0=>simp at hr hx;subst hr hx;exact⟨rfl,rfl,ha⟩
  | 1=>simp at hr hx;subst hr hx;exact⟨rfl,rfl,hb⟩
  | k+2=>simp at hr⟩
theorem ai.drew {α:Type} {F:Nat→Prop} {w:World} {sz:Nat} {P:List Value→α→Prop} {A:Option Addr} {n c:Nat} {xs:List α} (h:ai F w sz P A n c xs):ai F w.drew sz P A n c xs:=h.below (Below.refl _ _).drew
section
variable (n:Int) (s name src:ByteArray) (A:Option Addr) (m c:Nat) (w:World)
theorem abm:Calls Tryz.prog 96 #[.agg #[.int .i64 1,.int .i64 n,.string s,.string name,.string src,.slice A m c]] w fun x w'=>x=.returned (.bool (bT 1 n s name src))∧Below w.heap.size w w':=by
 have ha:=fun W=>oL 1 W
 have hr:lM 1=false:=rfl
 rw[hr] at ha
 have Ha:=ae ha
 clear ha
 by_cases hn:0≤n
 ·go_enter Tryz.func96,Tryz.ntmps96
  go_wp2_with (go_at_call 95;refine(Ha.out _).mono ?_;rintro x w' ⟨rfl,rfl⟩)
  go_region
  all_goals go_wp2
  all_goals
   go_ret
   refine⟨aI ?_,?_⟩
   ·simp_all [bT,lS]
    try omega
   ·repeat (first|exact Below.refl _ _|refine Below.drew ?_|refine Below.alloc ?_ (by simp) _|refine Below.setCell ?_ (by simp) _)
 ·have hd:decide (0≤n)=false:=by simpa using hn
  go_enter Tryz.func96,Tryz.ntmps96
  go_wp2_with (go_at_call 95;refine(Ha.out _).mono ?_;rintro x w' ⟨rfl,rfl⟩)
  go_region
  all_goals go_wp2
  all_goals
   go_ret
   refine⟨aI ?_,?_⟩
   ·simp_all [bT,lS]
    try omega
   ·repeat (first|exact Below.refl _ _|refine Below.drew ?_|refine Below.alloc ?_ (by simp) _|refine Below.setCell ?_ (by simp) _)
theorem abn:Calls Tryz.prog 96 #[.agg #[.int .i64 2,.int .i64 n,.string s,.string name,.string src,.slice A m c]] w fun x w'=>x=.returned (.bool (bT 2 n s name src))∧Below w.heap.size w w':=by
 have ha:=fun W=>oL 2 W
 have hr:lM 2=false:=rfl
 rw[hr] at ha
 have Ha:=ae ha
 clear ha
 by_cases hs:s.size≤200
 ·go_enter Tryz.func96,Tryz.ntmps96
  go_wp2_with (go_at_call 95;refine(Ha.out _).mono ?_;rintro x w' ⟨rfl,rfl⟩)
  go_region
  all_goals go_wp2
  all_goals
   go_ret
   refine⟨aI ?_,?_⟩
   ·simp_all [bT,lS]
    try omega
   ·repeat (first|exact Below.refl _ _|refine Below.drew ?_|refine Below.alloc ?_ (by simp) _|refine Below.setCell ?_ (by simp) _)
 ·have hd:decide (s.size≤200)=false:=by simpa using hs
  go_enter Tryz.func96,Tryz.ntmps96
  go_wp2_with (go_at_call 95;refine(Ha.out _).mono ?_;rintro x w' ⟨rfl,rfl⟩)
  go_region
  all_goals go_wp2
  all_goals
   go_ret
   refine⟨aI ?_,?_⟩
   ·simp_all [bT,lS]
    try omega
   ·repeat (first|exact Below.refl _ _|refine Below.drew ?_|refine Below.alloc ?_ (by simp) _|refine Below.setCell ?_ (by simp) _)
theorem abo:Calls Tryz.prog 96 #[.agg #[.int .i64 3,.int .i64 n,.string s,.string name,.string src,.slice A m c]] w fun x w'=>x=.returned (.bool (bT 3 n s name src))∧Below w.heap.size w w':=by
 have ha:=fun W=>oL 3 W
 have hr:lM 3=false:=rfl
 rw[hr] at ha
 have Ha:=ae ha
 clear ha
 go_enter Tryz.func96,Tryz.ntmps96
 go_wp2_with (go_at_call 95;refine(Ha.out _).mono ?_;rintro x w' ⟨rfl,rfl⟩)
 go_region
 all_goals go_wp2
 all_goals
  go_ret
  refine⟨aI ?_,?_⟩
  ·simp_all [bT,lS]
   try omega
  ·repeat (first|exact Below.refl _ _|refine Below.drew ?_|refine Below.alloc ?_ (by simp) _|refine Below.setCell ?_ (by simp) _)
theorem Nb (op:Int) (ho:op<1∨5<op) (hr0:op<21∨24<op):Calls Tryz.prog 96 #[.agg #[.int .i64 op,.int .i64 n,.string s,.string name,.string src,.slice A m c]] w fun x w'=>x=.returned (.bool (bT op n s name src))∧Below w.heap.size w w':=by
 have ha:=fun W=>oL op W
 have hr:lM op=false:=by simp[lM];omega
 rw[hr] at ha
 have Ha:=ae ha
 clear ha
 have e1:(op==1)=false:=by simp;omega
 have e2:(op==2)=false:=by simp;omega
 have e3:(op==3)=false:=by simp;omega
 have e4:(op==4)=false:=by simp;omega
 have e5:(op==5)=false:=by simp;omega
 have Hr:=ae hr
 clear hr
 go_enter Tryz.func96,Tryz.ntmps96
 go_wp2_with (go_at_call 95;refine(Ha.out _).mono ?_;rintro x w' ⟨rfl,rfl⟩)
 all_goals
  go_ret
  refine⟨aI ?_,?_⟩
  ·simp_all [bT,lS,Hr.out]
   try omega
  ·repeat (first|exact Below.refl _ _|refine Below.drew ?_|refine Below.alloc ?_ (by simp) _|refine Below.setCell ?_ (by simp) _)
end
end Go.Proofs.YtjjfkhbajidmdaaGreatDoor

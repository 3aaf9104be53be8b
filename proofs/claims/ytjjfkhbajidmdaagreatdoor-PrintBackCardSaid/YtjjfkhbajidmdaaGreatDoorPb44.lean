/- Parts of this proof, one behind the other: RtL, RtM, ParRe, ParZ8, ParZ9, RtN, RtO. -/
import Derived.Test.YtjjfkhbajidmdaaGreatDoorPb43
import Derived.Test.YtjjfkhbajidmdaaGreatDoorPb26
import Derived.Test.YtjjfkhbajidmdaaGreatDoorPb30
import Derived.Test.YtjjfkhbajidmdaaGreatDoorPb4
import Derived.Deep.Cut
import Derived.Test.YtjjfkhbajidmdaaGreatDoorPb41
set_option maxRecDepth 1000000
set_option maxHeartbeats 40000000
namespace Go.Proofs.YtjjfkhbajidmdaaGreatDoor
open Go.RowKit Go.Afx
def Lx (T:List UInt8) (K:List Key):Prop:=∀ R ks,Bd R→kZ R ks→kZ (T++R) (K++ks)
def acB:Nat→Ex→Prop
 | 0,_=>True
 | d+1,e=>e.n≤9223372036854775807∧∀ x∈e.args,acB d x
theorem gI {b:ByteArray} (h:aJ b=true):dV b=true:=by
 unfold aJ at h
 simp only[Bool.and_eq_true] at h
 exact h.1
theorem Lx.name {b:ByteArray} (h:aJ b=true):Lx b.data.toList [kP b]:=fun _ _ hR hl=>iT (gI h) hR hl
theorem Lx.kw {t:List UInt8} (h:dV (str t)=true):Lx t [dY t]:=fun _ _ hR hl=>jL h hR hl
theorem Lx.sign {t:List UInt8} (h:t∈iK):Lx t [bK t]:=fun _ _ hR hl=>NI h (ae3 hR) hl
theorem ae5 {op:Int} (h1:6≤op) (h2:op≤18):Lx (jQ op) [gV op]:=by
 obtain rfl|rfl|rfl|rfl|rfl|rfl|rfl|rfl|rfl|rfl|rfl|rfl|rfl:op=6∨op=7∨op=8∨op=9∨op=10∨op=11∨op=12∨op=13∨op=14∨op=15∨op=16∨op=17∨op=18:=by omega
 ·exact Lx.sign (t:=[43]) (by decide)
 ·exact Lx.sign (t:=[45]) (by decide)
 ·exact Lx.sign (t:=[42]) (by decide)
 ·exact Lx.sign (t:=[47]) (by decide)
 ·exact Lx.sign (t:=[37]) (by decide)
 ·exact Lx.sign (t:=[61]) (by decide)
 ·exact Lx.sign (t:=[33,61]) (by decide)
 ·exact Lx.sign (t:=[60]) (by decide)
 ·exact Lx.sign (t:=[60,61]) (by decide)
 ·exact Lx.sign (t:=[62,61]) (by decide)
 ·exact Lx.sign (t:=[62]) (by decide)
 ·exact Lx.kw (t:=[97,110,100]) (by decide +kernel)
 ·exact Lx.kw (t:=[111,114]) (by decide +kernel)
theorem Wj {op:Int} (h1:21≤op) (h2:op≤24):Lx (jQ op) [gV op]:=by
 obtain rfl|rfl|rfl|rfl:op=21∨op=22∨op=23∨op=24:=by omega
 ·exact Lx.kw (t:=[99,111,117,110,116]) (by decide +kernel)
 ·exact Lx.kw (t:=[115,117,109]) (by decide +kernel)
 ·exact Lx.kw (t:=[109,105,110]) (by decide +kernel)
 ·exact Lx.kw (t:=[109,97,120]) (by decide +kernel)
theorem LH {c:UInt8} (hc:[c]∈iK∧c≠47∧c≠60∧c≠61∧c≠62) {R:List UInt8} {ks:List Key} (h:kZ R ks):kZ (c::R) (bK [c]::ks):=by
 obtain⟨hg,h1,h2,h3,h4⟩:=hc
 have hb:∃ c' r,[c]++R=c'::r∧QW c'=false∧¬ (c'.toNat=47∧r.head?=some 47):=by
  refine⟨c,R,rfl,?_,fun h=>h1 (UInt8.toNat_inj.1 h.1)⟩
  simp only[iK,List.mem_cons,List.not_mem_nil,or_false,List.cons.injEq,and_true] at hg
  simp at hg
  rcases hg with rfl|rfl|rfl|rfl|rfl|rfl|rfl|rfl|rfl|rfl|rfl|rfl|rfl|rfl|rfl|rfl|rfl|rfl
  all_goals decide
 have e:jZ ([c]++R)=some ⟨0,[c],0,1⟩:=by
  simp only[iK,List.mem_cons,List.not_mem_nil,or_false,List.cons.injEq,and_true] at hg
  simp at hg
  rcases hg with rfl|rfl|rfl|rfl|rfl|rfl|rfl|rfl|rfl|rfl|rfl|rfl|rfl|rfl|rfl|rfl|rfl|rfl
  all_goals first|exact absurd rfl h1|exact absurd rfl h2|exact absurd rfl h3|exact absurd rfl h4|(simp[jZ,lexB,F7,iK,List.isPrefixOf])
 exact Ep e rfl hb h
theorem IB {op:Int} (h1:1≤op) (h2:op≤24) (L:Nat) {T:List UInt8} {K:List Key} (h:Lx T K):Lx (tq (L:Int) op T) (eX L op K):=by
 intro R ks hR hl
 have e:=Iy h1 h2
 unfold tq
 by_cases hc:df op<L
 ·rw[if_pos (by omega),Em hc]
  have e1:[40]++T++[41]++R=40::(T++(41::R)):=by simp
  have e2:[bK [40]]++K++[bK [41]]++ks=bK [40]::(K++(bK [41]::ks)):=by simp
  rw[e1,e2]
  exact LH (by decide) (h _ _ (aU (by decide) _) (LH (by decide) hl))
 ·rw[if_neg (by omega),je hc]
  exact h R ks hR hl
theorem acC {op n:Int} {T:List UInt8} {K:List Key} (h:Lx T K):Lx (pF op n T) (lW op n K):=by
 intro R ks hR hl
 unfold pF lW
 by_cases hc:op=3∧n=1
 ·rw[if_pos hc,if_pos hc];exact hl
 ·rw[if_neg hc,if_neg hc]
  have e1:[32,119,104,101,114,101,32]++T++R=32::([119,104,101,114,101]++(32::(T++R))):=by simp
  rw[e1]
  exact bg (by decide) (jL (by decide +kernel) (aU (by decide) _) (bg (by decide) (h _ _ hR hl)))
theorem Et {name src:ByteArray} {op n:Int} {T:List UInt8} {K:List Key} (h1:aJ name=true) (h2:aJ src=true) (h:Lx T K):Lx (kJ name src op n T) (ig name src op n K):=by
 intro R ks hR hl
 have e1:kJ name src op n T++R=name.data.toList++(32::([105,110]++(32::(src.data.toList++(pF op n T++R))))):=by unfold kJ;simp
 have e2:ig name src op n K++ks=kP name::dY [105,110]::kP src::(lW op n K++ks):=by unfold ig;simp
 rw[e1,e2]
 have hb:Bd (pF op n T++R):=by
  unfold pF
  split
  ·exact hR
  ·exact aU (by decide) _
 exact iT (gI h1) (aU (by decide) _) (bg (by decide) (jL (by decide +kernel) (aU (by decide) _) (bg (by decide) (iT (gI h2) hb (acC h _ _ hR hl)))))
/- how texts are laid -/
section
variable {d:Nat} {op n:Int} {s name src:ByteArray} {a b:Ex}
theorem Wl (h1:6≤op) (h2:op≤18):aY (d+1) (.mk op n s name src [a,b])=tq ((df op+if df op=4 then 1 else 0:Nat):Int) a.op (aY d a)++([32]++jQ op++[32])++tq ((df op+1:Nat):Int) b.op (aY d b):=by
 have g1:¬ op=1:=by omega
 have g2:¬ op=2:=by omega
 have g3:¬ op=3:=by omega
 have g4:¬ op=4:=by omega
 have g5:¬ op=5:=by omega
 have g6:¬ (op=19∨op=20):=by omega
 have g7:¬ 21≤op:=by omega
 have e:((df op+if df op=4 then 1 else 0:Nat):Int)=iM op+if iM op=4 then 1 else 0:=by
  rw[Iy (by omega) (by omega)]
  by_cases h:df op=4
  ·rw[if_pos h,if_pos (by omega)];omega
  ·rw[if_neg h,if_neg (by omega)];omega
 have e2:((df op+1:Nat):Int)=iM op+1:=by rw[Iy (by omega) (by omega)];omega
 rw[e,e2]
 simp only[aY,Ex.op,Ex.args,g1,g2,g3,g4,g5,g6,g7,if_false]
 rfl
theorem Wn (h:op=19∨op=20):aY (d+1) (.mk op n s name src [a])=jQ op++tq ((df op:Nat):Int) a.op (aY d a):=by
 have g1:¬ op=1:=by omega
 have g2:¬ op=2:=by omega
 have g3:¬ op=3:=by omega
 have g4:¬ op=4:=by omega
 have g5:¬ op=5:=by omega
 rw[← Iy (by omega) (by omega)]
 simp only[aY,Ex.op,Ex.args,g1,g2,g3,g4,g5,h,if_false,if_true]
theorem Yf:aY (d+1) (.mk 21 n s name src [a])=jQ 21++[40]++kJ name src a.op a.n (aY d a)++[]++[41]:=rfl
theorem Rx (h1:22≤op):aY (d+1) (.mk op n s name src [a,b])=jQ op++[40]++kJ name src a.op a.n (aY d a)++([58,32]++aY d b)++[41]:=by
 have g1:¬ op=1:=by omega
 have g2:¬ op=2:=by omega
 have g3:¬ op=3:=by omega
 have g4:¬ op=4:=by omega
 have g5:¬ op=5:=by omega
 have g6:¬ (op=19∨op=20):=by omega
 have g7:21≤op:=by omega
 have g8:¬ op=21:=by omega
 simp only[aY,Ex.op,Ex.args,Ex.name,Ex.src,g1,g2,g3,g4,g5,g6,g7,g8,if_false,if_true]
end
def Fst (T:List UInt8):Prop:=∃ c r,T=c::r∧c≠61∧c≠47
theorem Ry {c:UInt8} (h:lexB c=true):c≠61∧c≠47:=⟨fun e=>by subst e;revert h;decide,fun e=>by subst e;revert h;decide⟩
theorem Rz {b:ByteArray} (h:aJ b=true):Fst b.data.toList:=by
 have hn:=gI h
 unfold dV at hn
 cases hd:b.data.toList with
 | nil=>rw[hd] at hn;cases hn
 | cons c r =>
  rw[hd] at hn
  simp only[Bool.and_eq_true] at hn
  exact⟨c,r,rfl,Ry (JS (by unfold uD;rw[hn.1.2];rfl))⟩
theorem qc {T R:List UInt8} (h:Fst T):Fst (T++R):=by
 obtain⟨c,r,rfl,h1⟩:=h
 exact⟨c,r++R,rfl,h1⟩
theorem RD {L op:Int} {T:List UInt8} (h:Fst T):Fst (tq L op T):=by
 unfold tq
 split
 ·exact⟨40,_,rfl,by decide,by decide⟩
 ·exact h
theorem acD:∀ (d:Nat) (e:Ex),aA d e=true→acB d e→Fst (aY d e):=by
 intro d
 induction d with
 | zero=>intro e h;cases h
 | succ d ih =>
  intro e h hn
  obtain⟨n1,n2⟩:=hn
  rcases pg h with ⟨n,h0,rfl⟩|⟨s,_,rfl⟩|⟨n,hn,rfl⟩|⟨name,hf,rfl⟩|⟨s,name,hf,_,rfl⟩|⟨op,a,b,h1,h2,ha,_,rfl⟩|⟨op,a,h1,ha,rfl⟩|⟨name,src,a,_,_,_,rfl⟩|⟨op,name,src,a,b,h1,h2,_,_,_,_,rfl⟩
  ·obtain⟨g1,⟨c,r,hr⟩,_⟩:=Rw h0 n1
   exact⟨c,r,hr,Ry (JU (g1 c (by rw[hr];simp)))⟩
  ·exact⟨39,_,rfl,by decide,by decide⟩
  ·rcases hn with rfl|rfl
   ·exact⟨102,_,rfl,by decide,by decide⟩
   ·exact⟨116,_,rfl,by decide,by decide⟩
  ·exact Rz hf
  ·have e:aY (d+1) (.mk 5 0 s name nil0 [])=name.data.toList++[46]++s.data.toList:=rfl
   rw[e]
   exact qc (qc (Rz hf))
  ·unfold cO
   rw[Wl h1 h2]
   exact qc (qc (RD (ih a ha (n2 a (by simp[cO,Ex.args])))))
  ·unfold tC
   rw[Wn h1]
   rcases h1 with rfl|rfl
   ·exact⟨110,_,rfl,by decide,by decide⟩
   ·exact⟨45,_,rfl,by decide,by decide⟩
  ·exact⟨99,_,rfl,by decide,by decide⟩
  ·rw[Rx h1]
   refine qc (qc (qc (qc ?_)))
   obtain rfl|rfl|rfl:op=22∨op=23∨op=24:=by omega
   ·exact⟨115,_,rfl,by decide,by decide⟩
   ·exact⟨109,_,rfl,by decide,by decide⟩
   ·exact⟨109,_,rfl,by decide,by decide⟩
theorem ae6:∀ (d:Nat) (e:Ex),aA d e=true→zH d e=false→acB d e→Lx (aY d e) (tokE d e):=by
 intro d
 induction d with
 | zero=>intro e h;cases h
 | succ d ih =>
  intro e h hnl hn
  obtain⟨n1,n2⟩:=hn
  rw[zH] at hnl
  simp only[Bool.or_eq_false_iff] at hnl
  obtain⟨l1,l2⟩:=hnl
  have l2:=List.any_eq_false.1 l2
  have sub:∀ x∈e.args,aA d x=true→Lx (aY d x) (tokE d x):=fun x hx hb=>ih x hb (by simpa using l2 x hx) (n2 x hx)
  rcases pg h with ⟨n,h0,rfl⟩|⟨s,hs,rfl⟩|⟨n,hn,rfl⟩|⟨name,hf,rfl⟩|⟨s,name,hf,hs,rfl⟩|⟨op,a,b,h1,h2,ha,hb,rfl⟩|⟨op,a,h1,ha,rfl⟩|⟨name,src,a,h1,h2,ha,rfl⟩|⟨op,name,src,a,b,g1,g2,h1,h2,ha,hb,rfl⟩
  ·exact fun R ks hR hl=>U0 h0 n1 hR hl
  ·exact fun R ks hR hl=>acA hs (by simpa [Ex.op,Ex.s] using l1) hR hl
  ·rcases hn with rfl|rfl
   ·exact fun R ks hR hl=>jL (t:=gz) (by decide +kernel) hR hl
   ·exact fun R ks hR hl=>jL (t:=jR) (by decide +kernel) hR hl
  ·exact fun R ks hR hl=>iT (gI hf) hR hl
  ·intro R ks hR hl
   have e1:aY (d+1) (.mk 5 0 s name nil0 [])++R=name.data.toList++(46::(s.data.toList++R)):=by
    have:aY (d+1) (.mk 5 0 s name nil0 [])=name.data.toList++[46]++s.data.toList:=rfl
    rw[this];simp
   rw[e1]
   exact iT (gI hf) (aU (by decide) _) (LH (by decide) (iT (gI hs) hR hl))
  ·intro R ks hR hl
   have sa:=sub a (by simp[cO,Ex.args]) ha
   have sb:=sub b (by simp[cO,Ex.args]) hb
   have oa:=rQ ha
   have ob:=rQ hb
   unfold cO
   rw[Wl h1 h2,NF h1 h2]
   have e1:∀ X Y:List UInt8,X++([32]++jQ op++[32])++Y++R=X++(32::(jQ op++(32::(Y++R)))):=fun X Y=>by simp
   have e2:∀ X Y:List Key,X++(gV op::Y)++ks=X++(gV op::(Y++ks)):=fun X Y=>by simp
   rw[e1,e2]
   exact IB oa.1 oa.2 _ sa _ _ (aU (by decide) _) (bg (by decide) (ae5 h1 h2 _ _ (aU (by decide) _) (bg (by decide) (IB ob.1 ob.2 _ sb _ _ hR hl))))
  ·intro R ks hR hl
   have sa:=sub a (by simp[tC,Ex.args]) ha
   have oa:=rQ ha
   have fa:Fst (aY d a):=acD d a ha (n2 a (by simp[tC,Ex.args]))
   unfold tC
   rw[Wn h1,Iz h1]
   rcases h1 with rfl|rfl
   ·have e1:∀ X:List UInt8,jQ 19++X++R=[110,111,116]++(32::(X++R)):=fun X=>by
     have:jQ 19=[110,111,116,32]:=rfl
     rw[this];simp
    rw[e1]
    exact jL (t:=[110,111,116]) (by decide +kernel) (aU (by decide) _) (bg (by decide) (IB oa.1 oa.2 _ sa _ _ hR hl))
   ·have e1:∀ X:List UInt8,jQ 20++X++R=[45]++(X++R):=fun X=>by
     have:jQ 20=[45]:=rfl
     rw[this];simp
    rw[e1]
    refine NI (g:=[45]) (by decide) (fun c hc=>?_) (IB oa.1 oa.2 _ sa _ _ hR hl)
    obtain⟨c2,r,hr,h2⟩:=qc (R:=R) (RD (L:=((df 20:Nat):Int)) (op:=a.op) fa)
    rw[hr] at hc
    cases hc
    exact h2
  ·intro R ks hR hl
   have sa:=sub a (by simp[Ex.args]) ha
   rw[Yf,EY]
   have e1:∀ X:List UInt8,jQ 21++[40]++X++[]++[41]++R=jQ 21++(40::(X++(41::R))):=fun X=>by simp
   have e2:∀ X:List Key,[gV 21,bK [40]]++(X++[bK [41]])++ks=gV 21::(bK [40]::(X++(bK [41]::ks))):=fun X=>by simp
   rw[e1,e2]
   exact Wj (by omega) (by omega) _ _ (aU (by decide) _) (LH (by decide) (Et h1 h2 sa _ _ (aU (by decide) _) (LH (by decide) hl)))
  ·intro R ks hR hl
   have sa:=sub a (by simp[Ex.args]) ha
   have sb:=sub b (by simp[Ex.args]) hb
   rw[Rx g1,JL g1]
   have e1:∀ X Y:List UInt8,jQ op++[40]++X++([58,32]++Y)++[41]++R=jQ op++(40::(X++(58::(32::(Y++(41::R)))))):=fun X Y=>by simp
   have e2:∀ X Y:List Key,[gV op,bK [40]]++(X++(bK [58]::(Y++[bK [41]])))++ks=gV op::(bK [40]::(X++(bK [58]::(Y++(bK [41]::ks))))):=fun X Y=>by simp
   rw[e1,e2]
   exact Wj (by omega) g2 _ _ (aU (by decide) _) (LH (by decide) (Et h1 h2 sa _ _ (aU (by decide) _) (LH (by decide) (bg (by decide) (sb _ _ (aU (by decide) _) (LH (by decide) hl))))))
open Go.RowKit Go.Afx
def acE:Nat→St→Prop
 | 0,_=>True
 | d+1,x=>(∀ e∈x.exprs,acB d e)∧(∀ b∈x.body,acE d b)∧∀ b∈x.els,acE d b
theorem ae7 {α:Type} {T:α→List UInt8} {K:α→List Key}:∀ (xs:List α),(∀ x∈xs,Lx (T x) (K x))→Lx (oJ (xs.map T)) (lF (xs.map K)):=by
 intro xs
 induction xs with
 | nil=>exact fun _ R ks _ hl=>hl
 | cons x xs ih =>
  intro h R ks hR hl
  have e1:oJ ((x::xs).map T)++R=44::(32::(T x++(oJ (xs.map T)++R))):=by simp[oJ]
  have e2:lF ((x::xs).map K)++ks=bK [44]::(K x++(lF (xs.map K)++ks)):=by simp[lF]
  rw[e1,e2]
  have hb:Bd (oJ (xs.map T)++R):=by
   cases xs with
   | nil=>exact hR
   | cons y ys=>exact aU (by decide) _
  exact LH (by decide) (bg (by decide) (h x (by simp) _ _ hb (ih (fun y hy=>h y (by simp[hy])) R ks hR hl)))
theorem IC {α:Type} {T:α→List UInt8} {K:α→List Key} (xs:List α) (h:∀ x∈xs,Lx (T x) (K x)):Lx (aQ (xs.map T)) (ku (xs.map K)):=by
 intro R ks hR hl
 cases xs with
 | nil=>exact hl
 | cons x xs =>
  have e1:aQ ((x::xs).map T)++R=T x++(oJ (xs.map T)++R):=by simp[aQ]
  have e2:ku ((x::xs).map K)++ks=K x++(lF (xs.map K)++ks):=by simp[ku]
  rw[e1,e2]
  have hb:Bd (oJ (xs.map T)++R):=by
   cases xs with
   | nil=>exact hR
   | cons y ys=>exact aU (by decide) _
  exact h x (by simp) _ _ hb (ae7 xs (fun y hy=>h y (by simp[hy])) R ks hR hl)
def LJ (d:Nat) (x:ByteArray×Ex):List UInt8:=x.1.data.toList++[32,61,32]++aY d x.2
theorem Yg (d:Nat):∀ (cs:List ByteArray) (es:List Ex),jA d cs es=(cs.zip es).map (LJ d):=by
 intro cs
 induction cs with
 | nil=>intro es;cases es<;>rfl
 | cons c cs ih =>
  intro es
  cases es with
  | nil=>rfl
  | cons e es =>
   rw[List.zip_cons_cons,List.map_cons,← ih]
   rfl
theorem acF {R:List UInt8} {ks:List Key} (h:kZ R ks):kZ (32::([61]++(32::R))) (bK [61]::ks) :=
 bg (by decide) (NI (g:=[61]) (by decide) (fun c hc=>by cases hc;decide) (bg (by decide) h))
theorem aiL {d:Nat} {x:ByteArray×Ex} (h1:aJ x.1=true) (h2:Lx (aY d x.2) (tokE d x.2)):Lx (LJ d x) (E5 d x):=by
 intro R ks hR hl
 have e1:LJ d x++R=x.1.data.toList++(32::([61]++(32::(aY d x.2++R)))):=by unfold LJ;simp
 have e2:E5 d x++ks=kP x.1::(bK [61]::(tokE d x.2++ks)):=rfl
 rw[e1,e2]
 exact iT (gI h1) (aU (by decide) _) (acF (h2 _ _ hR hl))
def Fb (n:Int):List UInt8:=if 0<n then [32,108,105,109,105,116,32]++dU n else []
theorem acG {n:Int} (h0:0≤n) (h1:n≤1000):Lx (Fb n) (lg n):=by
 intro R ks hR hl
 unfold Fb lg
 by_cases h:0<n
 ·rw[if_pos h,if_pos h]
  have e1:[32,108,105,109,105,116,32]++dU n++R=32::([108,105,109,105,116]++(32::(dU n++R))):=by simp
  rw[e1]
  exact bg (by decide) (jL (by decide +kernel) (aU (by decide) _) (bg (by decide) (U0 h0 (by omega) hR hl)))
 ·rw[if_neg h,if_neg h];exact hl
theorem acH {n:Int} {R:List UInt8} (hR:Bd R):Bd (Fb n++R):=by
 unfold Fb
 split
 ·exact aU (by decide) _
 ·exact hR
theorem acI {d k:Nat}:∀ (xs:List St),(∀ x∈xs,Lx (dD d (k+1) x) (dh d x))→∀ R ks,kZ R ks→kZ ((xs.flatMap fun x=>pW (k+1)++dD d (k+1) x++[10])++R) (xs.flatMap (dh d)++ks):=by
 intro xs
 induction xs with
 | nil=>exact fun _ R ks hl=>hl
 | cons x xs ih =>
  intro h R ks hl
  have e1:((x::xs).flatMap fun x=>pW (k+1)++dD d (k+1) x++[10])++R=pW (k+1)++(dD d (k+1) x++(10::((xs.flatMap fun x=>pW (k+1)++dD d (k+1) x++[10])++R))):=by simp
  have e2:(x::xs).flatMap (dh d)++ks=dh d x++(xs.flatMap (dh d)++ks):=by simp
  rw[e1,e2]
  exact LG (h x (by simp) _ _ (aU (by decide) _) (bg (by decide) (ih (fun y hy=>h y (by simp[hy])) R ks hl)))
theorem Eu {d k:Nat} {xs:List St} (h:∀ x∈xs,Lx (dD d (k+1) x) (dh d x)) {R:List UInt8} {ks:List Key} (hl:kZ R ks):kZ (eU (dD d) k xs++R) (eu (dh d) xs++ks):=by
 unfold eU eu
 by_cases hx:xs=[]
 ·subst hx
  rw[if_pos rfl]
  exact LH (c:=123) (by decide) (LH (c:=125) (by decide) hl)
 ·rw[if_neg hx]
  have e1:[123,10]++(xs.flatMap fun x=>pW (k+1)++dD d (k+1) x++[10])++pW k++[125]++R=123::(10::((xs.flatMap fun x=>pW (k+1)++dD d (k+1) x++[10])++(pW k++(125::R)))):=by simp
  have e2:bK [123]::(xs.flatMap (dh d)++[bK [125]])++ks=bK [123]::(xs.flatMap (dh d)++(bK [125]::ks)):=by simp
  rw[e1,e2]
  exact LH (by decide) (bg (by decide) (acI xs h _ _ (LG (LH (by decide) hl))))
theorem ae8:∀ (d:Nat) (x:St),bD d x=true→Si d x=false→acE d x→∀ k,Lx (dD d k x) (dh d x):=by
 intro d
 induction d with
 | zero=>intro x h;cases h
 | succ d ih =>
  intro x h hnl hn k R ks hR hl
  obtain⟨n1,n2,n3⟩:=hn
  rw[Si] at hnl
  simp only[Bool.or_eq_false_iff] at hnl
  obtain⟨⟨l1,l2⟩,l3⟩:=hnl
  have l1:=List.any_eq_false.1 l1
  have l2:=List.any_eq_false.1 l2
  have l3:=List.any_eq_false.1 l3
  have sub:∀ e∈x.exprs,aA d e=true→Lx (aY d e) (tokE d e):=fun e he hb=>ae6 d e hb (by simpa using l1 e he) (n1 e he)
  have alC:∀ b∈x.body,bD d b=true→∀ k,Lx (dD d k b) (dh d b):=fun b hm hb=>ih b hb (by simpa using l2 b hm) (n2 b hm)
  have aod:∀ b∈x.els,bD d b=true→∀ k,Lx (dD d k b) (dh d b):=fun b hm hb=>ih b hb (by simpa using l3 b hm) (n3 b hm)
  have RF:kZ (59::R) (bK [59]::ks):=LH (by decide) hl
  have LK:Bd (59::R):=aU (by decide) _
  rcases Ad h with ⟨op,name,e,ho,hf,hb,rfl⟩|⟨op,src,es,ho,hf,hne,hb,rfl⟩|⟨name,src,cols,a,es,h1,h2,hne,hlen,hc,ha,hb,rfl⟩|⟨name,src,a,h1,h2,ha,rfl⟩|⟨name,src,n,a,body,h1,h2,h3,h4,ha,hb,rfl⟩|⟨a,body,els,ha,hb,hel,rfl⟩|⟨a,ha,rfl⟩|⟨es,hne,hb,rfl⟩
  ·have se:=sub e (by simp[St.exprs]) hb
   rcases ho with rfl|rfl
   ·have e1:dD (d+1) k (.mk 1 name nil0 0 [] [e] [] [])++R=[108,101,116]++(32::(name.data.toList++(32::([61]++(32::(aY d e++(59::R))))))):=by
     have:dD (d+1) k (.mk 1 name nil0 0 [] [e] [] [])=[108,101,116,32]++name.data.toList++[32,61,32]++aQ ([e].map (aY d))++[59]:=rfl
     rw[this];simp[aQ,oJ]
    have e2:dh (d+1) (.mk 1 name nil0 0 [] [e] [] [])++ks=dY [108,101,116]::(kP name::(bK [61]::(tokE d e++(bK [59]::ks)))):=by
     have:dh (d+1) (.mk 1 name nil0 0 [] [e] [] [])=(dY [108,101,116]::kP name::bK [61]::dF d [e])++[bK [59]]:=rfl
     rw[this,mZ];simp
    rw[e1,e2]
    exact jL (by decide +kernel) (aU (by decide) _) (bg (by decide) (iT (gI hf) (aU (by decide) _) (acF (se _ _ LK RF))))
   ·have e1:dD (d+1) k (.mk 2 name nil0 0 [] [e] [] [])++R=[115,101,116]++(32::(name.data.toList++(32::([61]++(32::(aY d e++(59::R))))))):=by
     have:dD (d+1) k (.mk 2 name nil0 0 [] [e] [] [])=[115,101,116,32]++name.data.toList++[32,61,32]++aQ ([e].map (aY d))++[59]:=rfl
     rw[this];simp[aQ,oJ]
    have e2:dh (d+1) (.mk 2 name nil0 0 [] [e] [] [])++ks=dY [115,101,116]::(kP name::(bK [61]::(tokE d e++(bK [59]::ks)))):=by
     have:dh (d+1) (.mk 2 name nil0 0 [] [e] [] [])=(dY [115,101,116]::kP name::bK [61]::dF d [e])++[bK [59]]:=rfl
     rw[this,mZ];simp
    rw[e1,e2]
    exact jL (by decide +kernel) (aU (by decide) _) (bg (by decide) (iT (gI hf) (aU (by decide) _) (acF (se _ _ LK RF))))
  ·have sj:Lx (aQ (es.map (aY d))) (dF d es):=IC es (fun e he=>sub e he (hb e he))
   rcases ho with rfl|rfl
   ·have e1:dD (d+1) k (.mk 3 nil0 src 0 [] es [] [])++R=[105,110,115,101,114,116]++(32::(src.data.toList++(40::(aQ (es.map (aY d))++(41::(59::R)))))):=by
     have:dD (d+1) k (.mk 3 nil0 src 0 [] es [] [])=[105,110,115,101,114,116,32]++src.data.toList++[40]++aQ (es.map (aY d))++[41]++[59]:=rfl
     rw[this];simp
    have e2:dh (d+1) (.mk 3 nil0 src 0 [] es [] [])++ks=dY [105,110,115,101,114,116]::(kP src::(bK [40]::(dF d es++(bK [41]::(bK [59]::ks))))):=by
     have:dh (d+1) (.mk 3 nil0 src 0 [] es [] [])=(dY [105,110,115,101,114,116]::kP src::bK [40]::(dF d es++[bK [41]]))++[bK [59]]:=rfl
     rw[this];simp
    rw[e1,e2]
    exact jL (by decide +kernel) (aU (by decide) _) (bg (by decide) (iT (gI hf) (aU (by decide) _) (LH (by decide) (sj _ _ (aU (by decide) _) (LH (by decide) RF)))))
   ·have e1:dD (d+1) k (.mk 8 nil0 src 0 [] es [] [])++R=[101,109,105,116]++(32::(src.data.toList++(40::(aQ (es.map (aY d))++(41::(59::R)))))):=by
     have:dD (d+1) k (.mk 8 nil0 src 0 [] es [] [])=[101,109,105,116,32]++src.data.toList++[40]++aQ (es.map (aY d))++[41]++[59]:=rfl
     rw[this];simp
    have e2:dh (d+1) (.mk 8 nil0 src 0 [] es [] [])++ks=dY [101,109,105,116]::(kP src::(bK [40]::(dF d es++(bK [41]::(bK [59]::ks))))):=by
     have:dh (d+1) (.mk 8 nil0 src 0 [] es [] [])=(dY [101,109,105,116]::kP src::bK [40]::(dF d es++[bK [41]]))++[bK [59]]:=rfl
     rw[this];simp
    rw[e1,e2]
    exact jL (by decide +kernel) (aU (by decide) _) (bg (by decide) (iT (gI hf) (aU (by decide) _) (LH (by decide) (sj _ _ (aU (by decide) _) (LH (by decide) RF)))))
  ·have sa:=sub a (by simp[St.exprs]) ha
   have sj:Lx (aQ ((cols.zip es).map (LJ d))) (ku ((cols.zip es).map (E5 d))):=IC _ (fun x hx=>aiL (hc _ (List.of_mem_zip hx).1) (sub x.2 (by simp[St.exprs,(List.of_mem_zip hx).2]) (hb _ (List.of_mem_zip hx).2)))
   have e1:dD (d+1) k (.mk 4 name src 0 cols (a::es) [] [])++R=[117,112,100,97,116,101]++(32::(kJ name src a.op a.n (aY d a)++(32::([115,101,116]++(32::(aQ ((cols.zip es).map (LJ d))++(59::R))))))):=by
    have:dD (d+1) k (.mk 4 name src 0 cols (a::es) [] [])=[117,112,100,97,116,101,32]++kJ name src a.op a.n (aY d a)++[32,115,101,116,32]++aQ (jA d cols es)++[59]:=rfl
    rw[this,Yg];simp
   have e2:dh (d+1) (.mk 4 name src 0 cols (a::es) [] [])++ks=dY [117,112,100,97,116,101]::(ig name src a.op a.n (tokE d a)++(dY [115,101,116]::(ku ((cols.zip es).map (E5 d))++(bK [59]::ks)))):=by
    have:dh (d+1) (.mk 4 name src 0 cols (a::es) [] [])=(dY [117,112,100,97,116,101]::(ig name src a.op a.n (tokE d a)++(dY [115,101,116]::ku ((cols.zip es).map (E5 d)))))++[bK [59]]:=rfl
    rw[this];simp
   rw[e1,e2]
   exact jL (by decide +kernel) (aU (by decide) _) (bg (by decide) (Et h1 h2 sa _ _ (aU (by decide) _) (bg (by decide) (jL (by decide +kernel) (aU (by decide) _) (bg (by decide) (sj _ _ LK RF))))))
  ·have sa:=sub a (by simp[St.exprs]) ha
   have e1:dD (d+1) k (.mk 5 name src 0 [] [a] [] [])++R=[100,101,108,101,116,101]++(32::(kJ name src a.op a.n (aY d a)++(59::R))):=by
    have:dD (d+1) k (.mk 5 name src 0 [] [a] [] [])=[100,101,108,101,116,101,32]++kJ name src a.op a.n (aY d a)++[59]:=rfl
    rw[this];simp
   have e2:dh (d+1) (.mk 5 name src 0 [] [a] [] [])++ks=dY [100,101,108,101,116,101]::(ig name src a.op a.n (tokE d a)++(bK [59]::ks)):=by
    have:dh (d+1) (.mk 5 name src 0 [] [a] [] [])=(dY [100,101,108,101,116,101]::ig name src a.op a.n (tokE d a))++[bK [59]]:=rfl
    rw[this];simp
   rw[e1,e2]
   exact jL (by decide +kernel) (aU (by decide) _) (bg (by decide) (Et h1 h2 sa _ _ LK RF))
  ·have sa:=sub a (by simp[St.exprs]) ha
   have e1:dD (d+1) k (.mk 6 name src n [] [a] body [])++R=[102,111,114]++(32::(kJ name src a.op a.n (aY d a)++(Fb n++(32::(eU (dD d) k body++R))))):=by
    have:dD (d+1) k (.mk 6 name src n [] [a] body [])=[102,111,114,32]++kJ name src a.op a.n (aY d a)++Fb n++[32]++eU (dD d) k body:=rfl
    rw[this];simp
   have e2:dh (d+1) (.mk 6 name src n [] [a] body [])++ks=dY [102,111,114]::(ig name src a.op a.n (tokE d a)++(lg n++(eu (dh d) body++ks))):=by
    have:dh (d+1) (.mk 6 name src n [] [a] body [])=dY [102,111,114]::(ig name src a.op a.n (tokE d a)++(lg n++eu (dh d) body)):=rfl
    rw[this];simp
   rw[e1,e2]
   exact jL (by decide +kernel) (aU (by decide) _) (bg (by decide) (Et h1 h2 sa _ _ (acH (aU (by decide) _)) (acG h3 h4 _ _ (aU (by decide) _) (bg (by decide) (Eu (fun x hx=>alC x hx (hb x hx) _) hl)))))
  ·have sa:=sub a (by simp[St.exprs]) ha
   have e1:dD (d+1) k (.mk 7 nil0 nil0 0 [] [a] body els)++R=[105,102]++(32::(aY d a++(32::(eU (dD d) k body++((if els=[] then [] else [32,101,108,115,101,32]++eU (dD d) k els)++R))))):=by
    have:dD (d+1) k (.mk 7 nil0 nil0 0 [] [a] body els)=[105,102,32]++aY d a++[32]++eU (dD d) k body++(if els=[] then [] else [32,101,108,115,101,32]++eU (dD d) k els):=rfl
    rw[this];simp only[List.append_assoc,List.cons_append,List.nil_append]
   have e2:dh (d+1) (.mk 7 nil0 nil0 0 [] [a] body els)++ks=dY [105,102]::(tokE d a++(eu (dh d) body++((if els=[] then [] else dY [101,108,115,101]::eu (dh d) els)++ks))):=by
    have:dh (d+1) (.mk 7 nil0 nil0 0 [] [a] body els)=dY [105,102]::(tokE d a++(eu (dh d) body++(if els=[] then [] else dY [101,108,115,101]::eu (dh d) els))):=rfl
    rw[this];simp only[List.append_assoc,List.cons_append]
   rw[e1,e2]
   refine jL (by decide +kernel) (aU (by decide) _) (bg (by decide) (sa _ _ (aU (by decide) _) (bg (by decide) (Eu (fun x hx=>alC x hx (hb x hx) _) ?_))))
   by_cases hz:els=[]
   ·rw[if_pos hz,if_pos hz];exact hl
   ·rw[if_neg hz,if_neg hz]
    have e3:[32,101,108,115,101,32]++eU (dD d) k els++R=32::([101,108,115,101]++(32::(eU (dD d) k els++R))):=by simp
    rw[e3]
    exact bg (by decide) (jL (by decide +kernel) (aU (by decide) _) (bg (by decide) (Eu (fun x hx=>aod x hx (hel x hx) _) hl)))
  ·have se:=sub a (by simp[St.exprs]) ha
   have e1:dD (d+1) k (.mk 9 nil0 nil0 0 [] [a] [] [])++R=[97,98,111,114,116]++(32::(aY d a++(59::R))):=by
    have:dD (d+1) k (.mk 9 nil0 nil0 0 [] [a] [] [])=[97,98,111,114,116,32]++aQ ([a].map (aY d))++[59]:=rfl
    rw[this];simp[aQ,oJ]
   have e2:dh (d+1) (.mk 9 nil0 nil0 0 [] [a] [] [])++ks=dY [97,98,111,114,116]::(tokE d a++(bK [59]::ks)):=by
    have:dh (d+1) (.mk 9 nil0 nil0 0 [] [a] [] [])=(dY [97,98,111,114,116]::dF d [a])++[bK [59]]:=rfl
    rw[this,mZ];simp
   rw[e1,e2]
   exact jL (by decide +kernel) (aU (by decide) _) (bg (by decide) (se _ _ LK RF))
  ·have sj:Lx (aQ (es.map (aY d))) (dF d es):=IC es (fun e he=>sub e he (hb e he))
   have e1:dD (d+1) k (.mk 10 nil0 nil0 0 [] es [] [])++R=[114,101,112,108,121]++(32::(aQ (es.map (aY d))++(59::R))):=by
    have:dD (d+1) k (.mk 10 nil0 nil0 0 [] es [] [])=[114,101,112,108,121,32]++aQ (es.map (aY d))++[59]:=rfl
    rw[this];simp
   have e2:dh (d+1) (.mk 10 nil0 nil0 0 [] es [] [])++ks=dY [114,101,112,108,121]::(dF d es++(bK [59]::ks)):=by
    have:dh (d+1) (.mk 10 nil0 nil0 0 [] es [] [])=(dY [114,101,112,108,121]::dF d es)++[bK [59]]:=rfl
    rw[this];simp
   rw[e1,e2]
   exact jL (by decide +kernel) (aU (by decide) _) (bg (by decide) (sj _ _ LK RF))
def aoe (d:Nat) (e:Ex):Bool:=mO (iZ d 0 e)&&aA d e
def apm (L:List UInt8):Ex×Int×Int:=uP ex0 (aoe 9000) aZ L
def alD (gx:Nat) (w:World) (x:Ex×Int×Int) (e:Ending) (w':World):Prop:=e=.returned (.tuple #[.int .i64 x.2.1,.int .i64 x.2.2])∧But (fun k=>k=gx) w w'∧(x.2.2=0→(∃ row,af w' gx 55 row.toArray∧aC (Fr w) 9000 w' row x.1))
def ai6 (w:World) (x:Ex×Int×Int) (e:Ending) (w':World):Prop:=(∃ row,e=.returned (.tuple #[.agg row.toArray,.int .i64 x.2.1,.int .i64 x.2.2])∧aC (Fr w) 9000 w' row x.1)∧Below w.heap.size w w'
def Low (s:Int×Int) (H:Nat):Prop:=0≤s.1∧(s.1<1000→s.2<1000→(H:Int)≤s.2)
theorem Low.nought:Low (0,0) 0:=⟨by decide,fun _ _=>by decide⟩
theorem Low.much (H:Nat):Low (1000,1000) H:=⟨by decide,fun h _=>absurd h (by decide)⟩
theorem Low.add {s t:Int×Int} {H K:Nat} (h:Low s H) (k:Low t K):Low (uk s t) (max H K):=by
 obtain⟨h1,h2⟩:=h
 obtain⟨k1,k2⟩:=k
 refine⟨by simp only[uk];omega,fun g1 g2=>?_⟩
 simp only[uk] at g1 g2 ⊢
 have a:=h2 (by omega) (by omega)
 have b:=k2 (by omega) (by omega)
 omega
theorem Low.over {s:Int×Int} {H:Nat} (h:Low s H):Low (pM s) (1+H):=by
 obtain⟨h1,h2⟩:=h
 refine⟨by simp only[pM];omega,fun g1 g2=>?_⟩
 simp only[pM] at g1 g2 ⊢
 have a:=h2 (by omega) (by omega)
 omega
theorem Low.all {α:Type} {lv:Int} {one:α→Int×Int} {g:α→Nat} (h:∀ x,Low (one x) (g x)):∀ (l:List α) {s:Int×Int} {H:Nat},Low s H→Low (jh lv one s l) (max H (iJ (l.map g))):=by
 intro l
 induction l with
 | nil=>intro s H hs;simpa [jh,iJ] using hs
 | cons x r ih =>
  intro s H hs
  rw[List.map_cons,lu]
  unfold jh
  split
  ·exact Low.much _
  ·have:=ih (hs.add (h x))
   rw[Nat.max_assoc] at this
   exact this
theorem Yh (d:Nat):∀ (lv:Int) (e:Ex),Low (iZ d lv e) (dQ d e):=by
 induction d with
 | zero=>intro lv e;exact Low.nought
 | succ d ih =>
  intro lv e
  rw[iZ,dQ]
  have:=Low.all (lv:=lv+1) (fun x=>ih (lv+1) x) e.args Low.nought
  rw[Nat.zero_max] at this
  exact this.over
theorem Yi (d:Nat):∀ (lv:Int) (e:St),Low (iL d lv e) (dN d e):=by
 induction d with
 | zero=>intro lv e;exact Low.nought
 | succ d ih =>
  intro lv e
  rw[iL,dN]
  have h1:=Low.all (lv:=lv+1) (fun x=>Yh d (lv+1) x) e.exprs Low.nought
  have h2:=Low.all (lv:=lv+1) (fun x=>ih (lv+1) x) e.body Low.nought
  have h3:=Low.all (lv:=lv+1) (fun x=>ih (lv+1) x) e.els Low.nought
  rw[Nat.zero_max] at h1 h2 h3
  exact((h1.add h2).add h3).over
theorem Yj {d:Nat} {p:Pr} (h:mO (I8 d p)=true):WB d p≤12:=by
 have hl:=Low.all (lv:=0) (fun x=>Yi d 0 x) p.body Low.nought
 rw[Nat.zero_max] at hl
 obtain⟨h1,h2⟩:=hl
 have e:I8 d p=jh 0 (iL d 0) (0,0) p.body:=rfl
 rw[e] at h
 simp only[mO,Bool.and_eq_true,decide_eq_true_eq] at h
 have:=h2 (by omega) (by omega)
 unfold WB
 omega
/- a procedure's text -/
def aiM (d:Nat) (p:Pr):Prop:=∀ b∈p.body,acE d b
theorem acJ {c:Co} (h1:aJ c.name=true) (h2:1≤c.kind∧c.kind≤3):Lx (dM c) (uu c):=by
 intro R ks hR hl
 obtain⟨name,kind⟩:=c
 simp only at h1 h2
 have e1:dM ⟨name,kind⟩++R=name.data.toList++(32::(jY kind++R)):=by unfold dM;simp
 have e2:uu ⟨name,kind⟩++ks=kP name::(Ro kind::ks):=rfl
 rw[e1,e2]
 refine iT (gI h1) (aU (by decide) _) (bg (by decide) ?_)
 unfold Ro
 refine jL ?_ hR hl
 obtain rfl|rfl|rfl:kind=1∨kind=2∨kind=3:=by omega
 all_goals decide +kernel
def onT (b:ByteArray):List UInt8:=if noS b then [] else [32,111,110,32]++b.data.toList
def LM (b:ByteArray):List UInt8:=if noS b then [] else [32,102,114,111,109,32]++b.data.toList
def LP (n:Int):List UInt8:=if n=100 then [] else [32,102,117,101,108,32]++dU n
theorem ae9 {b:ByteArray} {R:List UInt8} (hR:Bd R):Bd (LM b++R):=by
 unfold LM
 split
 ·exact hR
 ·exact aU (by decide) _
theorem Wp {n:Int} {R:List UInt8} (hR:Bd R):Bd (LP n++R):=by
 unfold LP
 split
 ·exact hR
 ·exact aU (by decide) _
theorem alE {b:ByteArray} (h:noS b=false→aJ b=true):Lx (onT b) (onK b):=by
 intro R ks hR hl
 unfold onT onK
 cases hb:noS b with
 | true=>exact hl
 | false =>
  have e1:(if false=true then [] else [32,111,110,32]++b.data.toList)++R=32::([111,110]++(32::(b.data.toList++R))):=by simp
  rw[e1]
  exact bg (by decide) (jL (t:=[111,110]) (by decide +kernel) (aU (by decide) _) (bg (by decide) (iT (gI (h hb)) hR hl)))
theorem afa {b:ByteArray} (h:noS b=false→aJ b=true):Lx (LM b) (Eo b):=by
 intro R ks hR hl
 unfold LM Eo
 cases hb:noS b with
 | true=>exact hl
 | false =>
  have e1:(if false=true then [] else [32,102,114,111,109,32]++b.data.toList)++R=32::([102,114,111,109]++(32::(b.data.toList++R))):=by simp
  rw[e1]
  exact bg (by decide) (jL (t:=[102,114,111,109]) (by decide +kernel) (aU (by decide) _) (bg (by decide) (iT (gI (h hb)) hR hl)))
theorem afb {n:Int} (h:1≤n∧n≤2000):Lx (LP n) (sH n):=by
 intro R ks hR hl
 unfold LP sH
 by_cases hn:n=100
 ·rw[if_pos hn,if_pos hn];exact hl
 ·rw[if_neg hn,if_neg hn]
  have e1:[32,102,117,101,108,32]++dU n++R=32::([102,117,101,108]++(32::(dU n++R))):=by simp
  rw[e1]
  exact bg (by decide) (jL (t:=[102,117,101,108]) (by decide +kernel) (aU (by decide) _) (bg (by decide) (U0 (by omega) (by omega) hR hl)))
theorem afc {d:Nat} {p:Pr} (hh:zM p=true) (hb:∀ x∈p.body,bD d x=true) (hnl:nlP d p=false) (hn:aiM d p):kZ (oK d p) (UX d p):=by
 obtain⟨h1,h2,h3,h4⟩:=Gg hh
 have hnl:=List.any_eq_false.1 hnl
 have hs:∀ x∈p.body,Lx (dD d (0+1) x) (dh d x):=fun x hx=>ae8 d x (hb x hx) (by simpa using hnl x hx) (hn x hx) _
 have no:noS nil0=true:=by decide +kernel
 have hon:noS p.part=false→aJ p.part=true:=fun h=>by
  rcases h4 with ⟨e,_⟩|⟨e,_⟩|⟨e,_⟩
  ·rw[e,no] at h;cases h
  ·exact e
  ·rw[e,no] at h;cases h
 have hfr:noS p.src=false→aJ p.src=true:=fun h=>by
  rcases h4 with ⟨_,e⟩|⟨_,e⟩|⟨_,e⟩
  ·rw[e,no] at h;cases h
  ·rw[e,no] at h;cases h
  ·exact e
 have e1:oK d p=[112,114,111,99]++(32::(p.name.data.toList++(40::(aQ (p.params.map dM)++(41::(onT p.part++(LM p.src++(LP p.fuel++(32::(eU (dD d) 0 p.body++[])))))))))):=by
  have:oK d p=[112,114,111,99,32]++p.name.data.toList++[40]++aQ (p.params.map dM)++[41]++onT p.part++LM p.src++LP p.fuel++[32]++eU (dD d) 0 p.body:=rfl
  rw[this];simp
 have e2:UX d p=dY [112,114,111,99]::(kP p.name::(bK [40]::(ku (p.params.map uu)++(bK [41]::(onK p.part++(Eo p.src++(sH p.fuel++(eu (dh d) p.body++[])))))))):=by
  rw[List.append_nil];rfl
 rw[e1,e2]
 have hb2:Bd (32::(eU (dD d) 0 p.body++[])):=aU (by decide) _
 exact jL (by decide +kernel) (aU (by decide) _) (bg (by decide) (iT (gI h1) (aU (by decide) _) (LH (by decide) (IC _ (fun c hc=>acJ (h2 c hc).1 (h2 c hc).2) _ _ (aU (by decide) _) (LH (by decide)
  (alE hon _ _ (ae9 (Wp hb2)) (afa hfr _ _ (Wp hb2) (afb h3 _ _ hb2 (bg (by decide) (Eu hs .nil))))))))))
def alF (b:ByteArray):Prop:=b.data.toList.any (·==10)=false
def ClE (e:Ex):Prop:=∀ D,zH D e=false
def ClS (x:St):Prop:=∀ D,Si D x=false
def CE (one:au→Ex×au):Prop:=∀ s,ClE (one s).1
section
variable (W:aV)
variable {E:au→Ex×au} (hE:CE E) (hW:∀ i,(W.look i).kind=2→alF (W.look i).text)
include hE
include hW
omit hE hW
end
section
variable (W:aV) (hW:∀ i,(W.look i).kind=2→alF (W.look i).text)
include hW
omit hW
include hW
end
end Go.Proofs.YtjjfkhbajidmdaaGreatDoor

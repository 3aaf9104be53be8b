/- Parts of this proof, one behind the other: PrsO, PrsL, PrsA, PrsB. -/
import Derived.Test.YtjjfkhbajidmdaaGreatDoorPb17
import Derived.Test.YtjjfkhbajidmdaaGreatDoorPb2
import Derived.Test.YtjjfkhbajidmdaaGreatDoorPb16
import Derived.StillTailTactics
set_option maxRecDepth 1000000
set_option maxHeartbeats 40000000
namespace Go.Proofs.YtjjfkhbajidmdaaGreatDoor
open Go.RowKit Go.Afx
theorem aaL {l:List (List UInt8)} {b:List UInt8→Nat} (h:∀ x∈l,x.length≤b x):(oJ l).length≤(l.map fun x=>b x+2).sum:=by
 induction l with
 | nil=>simp[oJ]
 | cons a r ih =>
  have h1:=h a (by simp)
  have h2:=ih fun x hx=>h x (by simp[hx])
  unfold oJ at *
  rw[List.flatMap_cons,List.length_append,List.map_cons,List.sum_cons]
  simp only[List.length_append,List.length_cons,List.length_nil]
  omega
theorem EJ (l:List (List UInt8)):(aQ l).length≤(l.map fun x=>x.length+2).sum:=by
 cases l with
 | nil=>simp[aQ]
 | cons a r =>
  have:=aaL (l:=r) (b:=List.length) (fun x _=>Nat.le_refl _)
  simp only[aQ,List.length_append,List.map_cons,List.sum_cons]
  omega
theorem TC {F:Nat→Prop} {w:World} {d n c:Nat} {A:Option Addr} {es:List Ex} (h:aO F d w A n c es) (hb:∀ e∈es,aA d e=true):(aQ (es.map (aY d))).length≤502*(es.map (iI d)).sum:=by
 refine Nat.le_trans (EJ _) ?_
 have hall:∀ e∈es,(aY d e).length≤500*iI d e:=fun e he=>by
  obtain⟨k,hk⟩:=List.mem_iff_getElem?.1 he
  obtain⟨hk2,_⟩:=List.getElem?_eq_some_iff.1 hk
  obtain⟨b,o,r,x,_,_,_,hx,_,hp,_⟩:=ai.get h (by rw[ai.len h] at hk2;exact hk2)
  rw[hk] at hx
  injection hx with hx
  subst hx
  exact Ii d e r hp (hb e he)
 have hpos:∀ e∈es,1≤iI d e:=fun e he=>by
  have:=hb e he
  cases d with
  | zero=>cases this
  | succ d=>rw[iI];omega
 clear h hb
 induction es with
 | nil=>simp
 | cons a r ih =>
  have h1:=hall a (by simp)
  have h2:=hpos a (by simp)
  have h3:=ih (fun e he=>hall e (by simp[he])) fun e he=>hpos e (by simp[he])
  simp only[List.map_cons,List.sum_cons] at h3 ⊢
  omega
theorem Ij {s:ByteArray} (h:noS s=true):s.data.toList.length≤16:=by
 unfold noS at h
 have:=of_decide_eq_true h
 subst this
 decide
theorem VG {b:Bool} {s:ByteArray} (h:(if b then aJ s else noS s)=true):s.data.toList.length≤16:=by
 cases b
 ·exact Ij h
 ·exact iw h
theorem iD {hn hc hnum hb ho hs:Bool} {least most:Int} {name src:ByteArray} {n:Int} {cols:List ByteArray} {ne nb nl:Nat} (h:fF hn hc hnum hb ho hs least most name src n cols ne nb nl=true) :
  name.data.toList.length≤16∧src.data.toList.length≤16∧cols.length≤8∧(∀ c∈cols,c.data.toList.length≤16)∧least≤(ne:Int)∧(ne:Int)≤most∧0≤n∧n≤1000∧(hb=false→nb=0)∧(ho=false→nl=0)∧(hc=true→1≤cols.length):=by
 unfold fF at h
 simp only[Bool.and_eq_true,decide_eq_true_eq,Bool.or_eq_true] at h
 obtain⟨⟨⟨⟨⟨⟨h1,h2⟩,h3⟩,h4⟩,h5⟩,h6⟩,h7⟩:=h
 have hcols:cols.length≤8∧(∀ c∈cols,c.data.toList.length≤16)∧(hc=true→1≤cols.length):=by
  cases hc
  ·simp at h3
   subst h3
   simp
  ·simp only[if_true,Bool.and_eq_true,decide_eq_true_eq] at h3
   obtain⟨⟨⟨a1,a2⟩,a3⟩,_⟩:=h3
   rw[kV,List.all_eq_true] at a3
   exact⟨a2,fun c hc=>iw (a3 c hc),fun _=>a1⟩
 have hnn:0≤n∧n≤1000:=by
  cases hnum
  ·simp at h4;omega
  ·simp at h4;omega
 exact⟨VG h1,VG h2,hcols.1,hcols.2.1,h5.1,h5.2,hnn.1,hnn.2,fun e=>by rcases h6 with h6|h6<;>simp_all,fun e=>by rcases h7 with h7|h7<;>simp_all,hcols.2.2⟩
structure MG (op:Int) (name src:ByteArray) (n:Int) (cols:List ByteArray) (ne nb nl:Nat):Prop where
 ops:op=1∨op=2∨op=3∨op=4∨op=5∨op=6∨op=7∨op=8∨op=9∨op=10
 Qg:name.data.toList.length≤16
 TD:src.data.toList.length≤16
 agi:cols.length≤8
 akp:∀ c∈cols,c.data.toList.length≤16
 one:1≤ne
 nine:ne≤9
 only:op=1∨op=2∨op=5∨op=6∨op=7∨op=9→ne=1
 four:op=4→ne=cols.length+1∧1≤cols.length
 n0:0≤n
 n1:n≤1000
 body:op≠6→op≠7→nb=0
 els:op≠7→nl=0
theorem Qh {op:Int} {name src:ByteArray} {n:Int} {cols:List ByteArray} {ne nb nl:Nat} (h:dm op name src n cols ne nb nl=true):MG op name src n cols ne nb nl:=by
 unfold dm at h
 split at h
 ·rename_i ho
  obtain⟨a,b,c,d,e,f,g,i,j,k,_⟩:=iD h
  exact⟨by omega,a,b,c,d,by omega,by omega,fun _=>by omega,fun _=>by omega,g,i,fun _ _=>j rfl,fun _=>k rfl⟩
 split at h
 ·rename_i ho
  obtain⟨a,b,c,d,e,f,g,i,j,k,_⟩:=iD h
  exact⟨by omega,a,b,c,d,by omega,by omega,fun _=>by omega,fun _=>by omega,g,i,fun _ _=>j rfl,fun _=>k rfl⟩
 split at h
 ·rename_i ho
  obtain⟨a,b,c,d,e,f,g,i,j,k,l⟩:=iD h
  exact⟨by omega,a,b,c,d,by omega,by omega,fun _=>by omega,fun _=>⟨by omega,l rfl⟩,g,i,fun _ _=>j rfl,fun _=>k rfl⟩
 split at h
 ·rename_i ho
  obtain⟨a,b,c,d,e,f,g,i,j,k,_⟩:=iD h
  exact⟨by omega,a,b,c,d,by omega,by omega,fun _=>by omega,fun _=>by omega,g,i,fun _ _=>j rfl,fun _=>k rfl⟩
 split at h
 ·rename_i ho
  obtain⟨a,b,c,d,e,f,g,i,j,k,_⟩:=iD h
  exact⟨by omega,a,b,c,d,by omega,by omega,fun _=>by omega,fun _=>by omega,g,i,fun h6=>absurd ho h6,fun _=>k rfl⟩
 split at h
 ·rename_i ho
  obtain⟨a,b,c,d,e,f,g,i,j,k,_⟩:=iD h
  exact⟨by omega,a,b,c,d,by omega,by omega,fun _=>by omega,fun _=>by omega,g,i,fun _ h7=>absurd ho h7,fun h7=>absurd ho h7⟩
 split at h
 ·rename_i ho
  obtain⟨a,b,c,d,e,f,g,i,j,k,_⟩:=iD h
  exact⟨by omega,a,b,c,d,by omega,by omega,fun _=>by omega,fun _=>by omega,g,i,fun _ _=>j rfl,fun _=>k rfl⟩
 split at h
 ·rename_i ho
  obtain⟨a,b,c,d,e,f,g,i,j,k,_⟩:=iD h
  exact⟨by omega,a,b,c,d,by omega,by omega,fun _=>by omega,fun _=>by omega,g,i,fun _ _=>j rfl,fun _=>k rfl⟩
 ·cases h
theorem Dx {d:Nat} {op:Int} {name src:ByteArray} {n:Int} {cols:List ByteArray} {exprs:List Ex} {body els:List St} (h:bD (d+1) (.mk op name src n cols exprs body els)=true) :
  MG op name src n cols exprs.length body.length els.length∧(∀ e∈exprs,aA d e=true)∧(∀ x∈body,bD d x=true)∧(∀ x∈els,bD d x=true):=by
 rw[bD] at h
 simp only[Bool.and_eq_true,List.all_eq_true] at h
 exact⟨Qh h.1.1.1,h.1.1.2,h.1.2,h.2⟩
theorem VH {d k:Nat} {op:Int} {name src:ByteArray} {n:Int} {cols:List ByteArray} {exprs:List Ex} {body els:List St}:dD (d+1) k (.mk op name src n cols exprs body els) =
  (if op=6 then [102,111,114,32]++rV d name src exprs++(if 0<n then [32,108,105,109,105,116,32]++dU n else [])++[32]++eU (dD d) k body
  else if op=7 then [105,102,32]++firstT d exprs++[32]++eU (dD d) k body++(if els=[] then [] else [32,101,108,115,101,32]++eU (dD d) k els)
  else EI d op name src cols exprs++[59]):=by rw[dD];rfl
theorem adP {d:Nat} {op:Int} {name src:ByteArray} {n:Int} {cols:List ByteArray} {exprs:List Ex} {body els:List St}:lJ (d+1) (.mk op name src n cols exprs body els)=1+(exprs.map (iI d)).sum+(body.map (lJ d)).sum+(els.map (lJ d)).sum:=by rw[lJ];rfl
theorem I4 {f:Nat→St→List UInt8} {k K C:Nat} {g:St→Nat} {l:List St} (hk:k+1≤K) (h:∀ x∈l,(f (k+1) x).length+2*K+1≤C*g x):(eU f k l).length≤4+2*K+C*(l.map g).sum:=by
 unfold eU
 split
 ·simp;omega
 ·have hs:(l.flatMap fun x=>pW (k+1)++f (k+1) x++[10]).length≤C*(l.map g).sum:=by
   rename_i h0
   clear h0
   induction l with
   | nil=>simp
   | cons a r ih =>
    have h1:=h a (by simp)
    have h2:=ih fun x hx=>h x (by simp[hx])
    rw[List.flatMap_cons,List.length_append,List.map_cons,List.sum_cons,Nat.mul_add]
    simp only[List.length_append,List.length_cons,List.length_nil,pW,List.length_replicate] at *
    omega
  simp only[List.length_append,List.length_cons,List.length_nil,pW,List.length_replicate] at *
  omega
theorem Dy {α:Type} {F:Nat→Prop} {w:World} {sz:Nat} {P:List Value→α→Prop} {A:Option Addr} {n c:Nat} {xs:List α} (h:ai F w sz P A n c xs):∀ x∈xs,∃ r,P r x:=by
 intro x hx
 obtain⟨k,hk⟩:=List.mem_iff_getElem?.1 hx
 obtain⟨hk2,_⟩:=List.getElem?_eq_some_iff.1 hk
 obtain⟨b,o,r,y,_,_,_,hy,_,hp,_⟩:=h.get (by rw[ai.len h] at hk2;exact hk2)
 rw[hk] at hy
 injection hy with hy
 subst hy
 exact⟨r,hp⟩
theorem KL {F:Nat→Prop} {w:World} {d:Nat} {name src:ByteArray} {es:List Ex} (hn:name.data.toList.length≤16) (hs:src.data.toList.length≤16) (hx:∀ e∈es,∃ r,aC F d w r e) (hb:∀ e∈es,aA d e=true):(rV d name src es).length+500*(es.tail.map (iI d)).sum≤43+500*(es.map (iI d)).sum:=by
 cases es with
 | nil=>simp[rV]
 | cons a r =>
  obtain⟨row,h1⟩:=hx a (by simp)
  have h2:=Ii d a row h1 (hb a (by simp))
  have h3:=zI a.op a.n (aY d a)
  simp only[rV,kJ,List.length_append,List.length_cons,List.length_nil,List.map_cons,List.sum_cons,List.tail_cons]
  omega
theorem TF {F:Nat→Prop} {w:World} {d:Nat} {es:List Ex} (hx:∀ e∈es,∃ r,aC F d w r e) (hb:∀ e∈es,aA d e=true):(firstT d es).length≤500*(es.map (iI d)).sum:=by
 cases es with
 | nil=>simp[firstT]
 | cons a r =>
  obtain⟨row,h1⟩:=hx a (by simp)
  have h2:=Ii d a row h1 (hb a (by simp))
  simp only[firstT,List.map_cons,List.sum_cons]
  omega
theorem WT {F:Nat→Prop} {w:World} {d:Nat}:∀ {cols:List ByteArray} {es:List Ex},(∀ c∈cols,c.data.toList.length≤16)→(∀ e∈es,∃ r,aC F d w r e)→(∀ e∈es,aA d e=true)→(aQ (jA d cols es)).length≤21*cols.length+500*(es.map (iI d)).sum:=by
 intro cols es hc hx hb
 refine Nat.le_trans (EJ _) ?_
 induction cols generalizing es with
 | nil=>simp[jA]
 | cons c cs ih =>
  cases es with
  | nil=>simp[jA]
  | cons e es =>
   have h1:=hc c (by simp)
   obtain⟨row,h2⟩:=hx e (by simp)
   have h3:=Ii d e row h2 (hb e (by simp))
   have h4:=ih (es:=es) (fun c hc'=>hc c (by simp[hc'])) (fun e he=>hx e (by simp[he])) fun e he=>hb e (by simp[he])
   simp only[jA,List.map_cons,List.sum_cons,List.length_append,List.length_cons,List.length_nil] at h4 ⊢
   omega
theorem TG {F:Nat→Prop} {w:World} {d:Nat} {op n:Int} {name src:ByteArray} {cols:List ByteArray} {A:Option Addr} {m c nb nl:Nat} {es:List Ex} (hg:MG op name src n cols es.length nb nl) (h:aO F d w A m c es) (hb:∀ e∈es,aA d e=true):(EI d op name src cols es).length≤260+502*(es.map (iI d)).sum:=by
 have hx:∀ e∈es,∃ r,aC F d w r e:=Dy h
 have h1:=TC h hb
 have h2:=KL hg.Qg hg.TD hx hb
 have h3:=WT (es:=es.tail) hg.akp (fun e he=>hx e (List.mem_of_mem_tail he)) (fun e he=>hb e (List.mem_of_mem_tail he))
 have n1:=hg.Qg
 have n2:=hg.TD
 have n3:=hg.agi
 unfold EI
 repeat' split
 all_goals simp only[List.length_append,List.length_cons,List.length_nil]
 all_goals omega
theorem aaM {F:Nat→Prop} {w:World}:∀ (d:Nat) (x:St) (row:List Value) (k K:Nat),bQ F d w row x→bD d x=true→k+d≤K→(dD d k x).length+2*K+1≤(600+8*K)*lJ d x:=by
 intro d
 induction d with
 | zero=>intro x row k K h;exact h.elim
 | succ d ih =>
  intro x row k K h hb hk
  obtain⟨op,name,src,n,cols,exprs,body,els⟩:=x
  obtain⟨hg,he,hbo,hel⟩:=Dx hb
  obtain⟨_,hn,_,_,Ac,nc,cc,Ae,ne,ce,Ab,nb,cb,Al,nl,cl,_,_,hxe,hxb,hxl⟩:=h.open_
  have hxe:aO F d w Ae ne ce exprs:=hxe
  have hxb:aP F d w Ab nb cb body:=hxb
  have hxl:aP F d w Al nl cl els:=hxl
  have hx1:∀ e∈exprs,∃ r,aC F d w r e:=Dy hxe
  have hpos:1≤(exprs.map (iI d)).sum:=by
   have h1:=hg.one
   cases exprs with
   | nil=>simp at h1
   | cons a r =>
    have:=he a (by simp)
    cases d with
    | zero=>cases this
    | succ d=>rw[List.map_cons,List.sum_cons,iI];omega
  rw[VH,adP,Nat.mul_add,Nat.mul_add,Nat.mul_add]
  have hs:1200+500*(exprs.map (iI d)).sum+8*K≤(600+8*K)*1+(600+8*K)*(exprs.map (iI d)).sum+500:=by
   have h1:600*(exprs.map (iI d)).sum+8*K*(exprs.map (iI d)).sum=(600+8*K)*(exprs.map (iI d)).sum:=(Nat.add_mul _ _ _).symm
   have h2:8*K*1≤8*K*(exprs.map (iI d)).sum:=Nat.mul_le_mul_left _ hpos
   omega
  have hbl:∀ l:List St,(∀ x∈l,bD d x=true)→(∀ x∈l,∃ r,bQ F d w r x)→(eU (dD d) k l).length≤4+2*K+(600+8*K)*(l.map (lJ d)).sum:=fun l h1 h2=>I4 (by omega) fun x hx=>by
   obtain⟨r,hr⟩:=h2 x hx
   exact ih x r (k+1) K hr (h1 x hx) (by omega)
  have hb1:=hbl body hbo (Dy hxb)
  have hb2:=hbl els hel (Dy hxl)
  split
  ·have h2:=KL hg.Qg hg.TD hx1 he
   have h3:=IK (show okI n from hn)
   simp only[List.length_append,List.length_cons,List.length_nil]
   split
   ·simp only[List.length_append,List.length_cons,List.length_nil];omega
   ·simp only[List.length_nil];omega
  ·split
   ·have h2:=TF hx1 he
    simp only[List.length_append,List.length_cons,List.length_nil]
    split
    ·simp only[List.length_nil];omega
    ·simp only[List.length_append,List.length_cons,List.length_nil];omega
   ·have h2:=TG hg hxe he
    simp only[List.length_append,List.length_cons,List.length_nil]
    have h1:600*(exprs.map (iI d)).sum+8*K*(exprs.map (iI d)).sum=(600+8*K)*(exprs.map (iI d)).sum:=(Nat.add_mul _ _ _).symm
    omega
theorem KN {F:Nat→Prop} {d n c g:Nat} {w:World} {A:Option Addr} {es:List Ex} (h:aO F d w A n c es) (hF:∀ k,F k→k<g) {k:Nat} (hk:k<n) :
  ∃ b o e A2 m2 c2,A=some ⟨b,o,none⟩∧es[k]?=some e∧∀ W,Wrote g w W→b<W.heap.size∧Six W b (o+k*6) e A2 m2 c2∧aC F d W (rowOf e A2 m2 c2) e:=by
 obtain⟨b,o,r,e,hA,hb,FH,he,hl,hp,hc⟩:=ai.get h hk
 obtain⟨A2,m2,c2,rfl⟩:=wP hp
 refine⟨b,o,e,A2,m2,c2,hA,he,fun W hW=>⟨Nat.lt_of_lt_of_le hb hW.1.size,Six.wrote ⟨by simpa using hc 0 _ rfl,hc 1 _ rfl,hc 2 _ rfl,hc 3 _ rfl,hc 4 _ rfl,hc 5 _ rfl⟩ (hF b FH) hW,aC.wrote hp hF hW⟩⟩
theorem I5 {α:Type} {p:α→Bool} {l:List α} {k:Nat} {a:α} (h:l[k]?=some a):(l.take (k+1)).any p=((l.take k).any p||p a):=by
 obtain⟨h1,h2⟩:=List.getElem?_eq_some_iff.1 h
 rw[List.take_succ_eq_append_getElem h1,List.any_append,h2]
 simp
theorem aaO (F:Nat→Prop) (d:Nat) (es:List Ex) (A:Option Addr) (n c g:Nat) (t:List UInt8) (br:Bool) (w:World) (hx:aO F d w A n c es) (hb:∀ e∈es,aA d e=true) (hF:∀ k,F k→k<g) (h:bz g t br w) (hm:dZ w) (hg:0<g) (hlen:t.length+(aQ (es.map (aY d))).length≤1000000000) :
  Calls Tryz.prog 142 #[.pointer (some ⟨g,0,none⟩),.slice A n c] w fun e' w'=>e'=.returned (.tuple #[])∧bz g (t++aQ (es.map (aY d))) (br||es.any (zH d)) w'∧Wrote g w w':=by
 have hn:=ai.gu hx
 have hne:=ai.len hx
 have TJ:=ae (fun k (hk:k<n)=>KN hx hF hk)
 have Hb:=ae hb
 have HF:=ae hF
 have Hm:=ae hm
 have Hlen:=ae hlen
 have H:=ae h
 have Hg:=ae hg
 clear hx hb hF h hm hlen hg
 go_enter Tryz.func142,Tryz.ntmps142
 go_wp2
 go_loopw [8] (fun i wr=>∃ k:Nat,k≤n∧i=.int .i64 k∧Hid (bz g (t++aQ ((es.map (aY d)).take k)) (br||(es.take k).any (zH d)) wr)∧Hid (Wrote g w wr)) (fun i _=>n-(intOf i).toNat)
 case atStart=>exact⟨0,Nat.zero_le _,rfl,ae (by simpa [aQ] using H.out),ae (Wrote.refl _ _)⟩
 case round =>
  obtain⟨k,hk,rfl,HW,HR⟩:=hrel
  rcases Nat.lt_or_ge k n with hlt|hge
  ·obtain⟨b,o,e,A2,m2,c2,rfl,he,hat⟩:=TJ.out k hlt
   obtain⟨hbl,hS,hxe⟩:=hat _ HR.out
   obtain⟨z0,z1,z2,z3,z4,z5⟩:=hS
   have hlm:k<(es.map (aY d)).length:=by rw[List.length_map];omega
   have hjl:=uj hlm
   have hjt:=uZ hlm
   have hge:(es.map (aY d))[k]'hlm=aY d e:=by
    obtain⟨h1,h2⟩:=List.getElem?_eq_some_iff.1 he
    rw[List.getElem_map,h2]
   rw[hge] at hjl hjt
   have TK:=ae (I5 (p:=zH d) he)
   have hbe:=Hb.out e (List.mem_of_getElem? he)
   obtain⟨w4,FK⟩:∃ w4,Hid (w4=wr.alloc (.cells #[.int .i64 e.op,.int .i64 e.n,.string e.s,.string e.name,.string e.src,.slice A2 m2 c2] 55)):=⟨_,rfl⟩
   have hb4:Below wr.heap.size wr w4:=by rw[FK.out];exact(Below.refl _ _).alloc (Nat.le_refl _) _
   have hk4:af w4 wr.heap.size 55 #[.int .i64 e.op,.int .i64 e.n,.string e.s,.string e.name,.string e.src,.slice A2 m2 c2]:=by rw[FK.out];exact af.laid _ _ _
   have bu:=HW.out.below hb4
   have hr4:Wrote g w w4:=HR.out.trans (Wrote.of_below (Nat.le_of_lt HW.out.lt) hb4)
   have Hx:=ae (fun W (hW:Wrote g w4 W)=>lX (hW.2.2 _ _ _ (by decide) (by decide) hk4))
   have He:=ae (fun W (hW:Wrote g w W) t' br' (hwt:bz g t' br' W) (hl:t'.length+(aY d e).length≤1000000000)=>wQ d F e _ g t' br' W (hat W hW).2.2 hbe HF.out hwt (Hm.out.below Hg.out hW.1) Hg.out hl)
   have jg:=ae hr4
   have zJ:=ae (show (t++aQ ((es.map (aY d)).take k)).length+(if k=0 then 0 else 2)+(aY d e).length≤1000000000 from by have:=Hlen.out;rw[List.length_append];omega)
   have NP:=ae hjt
   obtain⟨x0,x1,x2,x3,x4,x5,xl⟩:=Hx.out _ (Wrote.refl _ _)
   clear hxe hat hb4 hk4 hr4 hjl hjt hge he hbe hlm
   go_upto_region 3 with (fail)
   rw[← FK.out]
   rcases Nat.eq_zero_or_pos k with rfl|h0
   ·rw[if_pos rfl] at zJ NP
    clear z0 z1 z2 z3 z4 z5
    go_wp2_with (go_at_call 29;refine(He.out _ jg.out _ _ bu (by have h9:=zJ.out;omega)).mono ?_;rintro e' w6 ⟨rfl,eG,lI⟩)
    have H6:=ae (And.intro eG (jg.out.trans lI))
    clear eG lI
    go_roundw
    case rel =>
     refine⟨0+1,by omega,by go_num,ae ?_,ae H6.out.2⟩
     rw[NP.out,TK.out,← Bool.or_assoc]
     simpa [aQ] using H6.out.1
    case measure=>simp[intOf];omega
   ·have hd:decide ((0:Int)<(k:Int))=true:=by simp;omega
    have h0':¬ k=0:=by omega
    rw[if_neg h0'] at zJ NP
    clear z0 z1 z2 z3 z4 z5 h0'
    go_wp2_with (fail)
    refine(aF g 1 _ _ [⟨#[44,32]⟩] _ bu rfl (by decide) (by have h9:=zJ.out;have e2:(aB [⟨#[44,32]⟩]).length=2:=rfl;omega)).mono ?_
    rintro e' w5 ⟨rfl,di,jf⟩
    obtain⟨y0,y1,y2,y3,y4,y5,yl⟩:=Hx.out _ jf
    have lY:=ae (jg.out.trans jf)
    clear x0 x1 x2 x3 x4 x5 xl bu jf
    go_wp2_with (go_at_call 29;refine(He.out _ lY.out _ _ di (by have h9:=zJ.out;have e2:(aB [⟨#[44,32]⟩]).length=2:=rfl;rw[List.length_append];omega)).mono ?_;rintro e' w6 ⟨rfl,eG,lI⟩)
    have H6:=ae (And.intro eG (lY.out.trans lI))
    clear eG lI
    go_roundw
    case rel =>
     refine⟨k+1,by omega,by go_num,ae ?_,ae H6.out.2⟩
     rw[NP.out,TK.out,← Bool.or_assoc]
     simpa [aB] using H6.out.1
    case measure=>simp[intOf];omega
  ·obtain rfl:k=n:=Nat.le_antisymm hk hge
   have e1:(es.map (aY d)).take k=es.map (aY d):=List.take_of_length_le (by rw[List.length_map];omega)
   have e2:es.take k=es:=List.take_of_length_le (by omega)
   rw[e1,e2] at HW
   go_wp2
   go_end0
   exact⟨rfl,HW.out,HR.out⟩
theorem Dz {w:World} {g:Nat} {T:TypeId} {v0 v1 v2 v3 v4 v5 v6 v7:Value} (h:af w g T #[v0,v1,v2,v3,v4,v5,v6,v7]) :
  w.cell? ⟨g,0,none⟩=some v0∧w.cell? ⟨g,1,none⟩=some v1∧w.cell? ⟨g,2,none⟩=some v2∧w.cell? ⟨g,3,none⟩=some v3∧w.cell? ⟨g,4,none⟩=some v4∧w.cell? ⟨g,5,none⟩=some v5∧w.cell? ⟨g,6,none⟩=some v6∧w.cell? ⟨g,7,none⟩=some v7∧g<w.heap.size:=by
 have h0:=h.cell 0;have h1:=h.cell 1;have h2:=h.cell 2;have h3:=h.cell 3;have h4:=h.cell 4;have h5:=h.cell 5;have h6:=h.cell 6;have h7:=h.cell 7
 simp at h0 h1 h2 h3 h4 h5 h6 h7
 exact⟨h0,h1,h2,h3,h4,h5,h6,h7,h.lt⟩
theorem adR (name src:ByteArray) (n:Int) (Ac Ab Al:Option Addr) (nc cc nb cb nl cl:Nat) (Ae:Option Addr) (ne ce:Nat) (T:List UInt8) (B:Bool) (g:Nat) (t:List UInt8) (br:Bool) (w:World) (h:bz g t br w) (hD:Does g w 142 #[.pointer (some ⟨g,0,none⟩),.slice Ae ne ce] T B)
  (hlen:t.length+([108,101,116,32]++name.data.toList++[32,61,32]++T).length≤1000000000) :
  Calls Tryz.prog 115 #[.pointer (some ⟨g,0,none⟩),.agg #[.int .i64 1,.string name,.string src,.int .i64 n,.slice Ac nc cc,.slice Ae ne ce,.slice Ab nb cb,.slice Al nl cl]] w fun e' w'=>e'=.returned (.tuple #[])∧bz g (t++([108,101,116,32]++name.data.toList++[32,61,32]++T)) (br||B) w'∧Wrote g w w':=by
 obtain⟨w1,Hw1⟩:∃ w1,Hid (w1=w.alloc (.cells #[.int .i64 1,.string name,.string src,.int .i64 n,.slice Ac nc cc,.slice Ae ne ce,.slice Ab nb cb,.slice Al nl cl] 49)):=⟨_,rfl⟩
 have hb1:Below w.heap.size w w1:=by rw[Hw1.out];exact(Below.refl _ _).alloc (Nat.le_refl _) _
 have hk1:af w1 w.heap.size 49 #[.int .i64 1,.string name,.string src,.int .i64 n,.slice Ac nc cc,.slice Ae ne ce,.slice Ab nb cb,.slice Al nl cl]:=by rw[Hw1.out];exact af.laid _ _ _
 have iV:=ae (Wrote.of_below (Nat.le_of_lt h.lt) hb1:Wrote g w w1)
 have Hx:=ae (fun W (hW:Wrote g w1 W)=>Dz (hW.2.2 _ _ _ (by decide) (by decide) hk1))
 have bU:=h.below hb1
 have iG:=ae (Wrote.refl g w1)
 have Hlen:=ae hlen
 have HD:=ae hD
 obtain⟨x0,x1,x2,x3,x4,x5,x6,x7,xl⟩:=Hx.out _ (Wrote.refl _ _)
 clear hk1 h hlen hb1 hD
 go_enter Tryz.func115,Tryz.ntmps115
 go_upto_region 1 with (fail)
 rw[← Hw1.out]
 go_wp2_with (fail)
 refine(aF g 3 _ _ [⟨#[108,101,116,32]⟩,name,⟨#[32,61,32]⟩] _ bU rfl (by decide) (by have h9:=Hlen.out;simp[aB] at h9 ⊢;omega)).mono ?_
 rintro e' w2 ⟨rfl,bI,hr2⟩
 have gm:=ae (iG.out.trans hr2)
 clear x0 x1 x2 x3 x4 x5 x6 x7 xl bU hr2
 obtain⟨x0,x1,x2,x3,x4,x5,x6,x7,xl⟩:=Hx.out _ gm.out
 go_wp2_with (fail)
 refine(HD.out _ _ _ (iV.out.trans gm.out) bI (by have h9:=Hlen.out;simp[aB] at h9 ⊢;omega)).mono ?_
 rintro e' w3 ⟨rfl,bH,hr3⟩
 have jm:=ae (gm.out.trans hr3)
 clear x0 x1 x2 x3 x4 x5 x6 x7 xl bI hr3
 obtain⟨x0,x1,x2,x3,x4,x5,x6,x7,xl⟩:=Hx.out _ jm.out
 have H:=ae (And.intro bH (iV.out.trans jm.out))
 clear bH x0 x1 x2 x3 x4 x5 x6 x7 xl
 go_wp2
 go_end0
 exact⟨rfl,by simpa [aB] using H.out.1,H.out.2⟩
theorem adS (name src:ByteArray) (n:Int) (Ac Ab Al:Option Addr) (nc cc nb cb nl cl:Nat) (Ae:Option Addr) (ne ce:Nat) (T:List UInt8) (B:Bool) (g:Nat) (t:List UInt8) (br:Bool) (w:World) (h:bz g t br w) (hD:Does g w 142 #[.pointer (some ⟨g,0,none⟩),.slice Ae ne ce] T B)
  (hlen:t.length+([115,101,116,32]++name.data.toList++[32,61,32]++T).length≤1000000000) :
  Calls Tryz.prog 115 #[.pointer (some ⟨g,0,none⟩),.agg #[.int .i64 2,.string name,.string src,.int .i64 n,.slice Ac nc cc,.slice Ae ne ce,.slice Ab nb cb,.slice Al nl cl]] w fun e' w'=>e'=.returned (.tuple #[])∧bz g (t++([115,101,116,32]++name.data.toList++[32,61,32]++T)) (br||B) w'∧Wrote g w w':=by
 obtain⟨w1,Hw1⟩:∃ w1,Hid (w1=w.alloc (.cells #[.int .i64 2,.string name,.string src,.int .i64 n,.slice Ac nc cc,.slice Ae ne ce,.slice Ab nb cb,.slice Al nl cl] 49)):=⟨_,rfl⟩
 have hb1:Below w.heap.size w w1:=by rw[Hw1.out];exact(Below.refl _ _).alloc (Nat.le_refl _) _
 have hk1:af w1 w.heap.size 49 #[.int .i64 2,.string name,.string src,.int .i64 n,.slice Ac nc cc,.slice Ae ne ce,.slice Ab nb cb,.slice Al nl cl]:=by rw[Hw1.out];exact af.laid _ _ _
 have iV:=ae (Wrote.of_below (Nat.le_of_lt h.lt) hb1:Wrote g w w1)
 have Hx:=ae (fun W (hW:Wrote g w1 W)=>Dz (hW.2.2 _ _ _ (by decide) (by decide) hk1))
 have bU:=h.below hb1
 have iG:=ae (Wrote.refl g w1)
 have Hlen:=ae hlen
 have HD:=ae hD
 obtain⟨x0,x1,x2,x3,x4,x5,x6,x7,xl⟩:=Hx.out _ (Wrote.refl _ _)
 clear hk1 h hlen hb1 hD
 go_enter Tryz.func115,Tryz.ntmps115
 go_upto_region 1 with (fail)
 rw[← Hw1.out]
 go_wp2_with (fail)
 refine(aF g 3 _ _ [⟨#[115,101,116,32]⟩,name,⟨#[32,61,32]⟩] _ bU rfl (by decide) (by have h9:=Hlen.out;simp[aB] at h9 ⊢;omega)).mono ?_
 rintro e' w2 ⟨rfl,bI,hr2⟩
 have gm:=ae (iG.out.trans hr2)
 clear x0 x1 x2 x3 x4 x5 x6 x7 xl bU hr2
 obtain⟨x0,x1,x2,x3,x4,x5,x6,x7,xl⟩:=Hx.out _ gm.out
 go_wp2_with (fail)
 refine(HD.out _ _ _ (iV.out.trans gm.out) bI (by have h9:=Hlen.out;simp[aB] at h9 ⊢;omega)).mono ?_
 rintro e' w3 ⟨rfl,bH,hr3⟩
 have jm:=ae (gm.out.trans hr3)
 clear x0 x1 x2 x3 x4 x5 x6 x7 xl bI hr3
 obtain⟨x0,x1,x2,x3,x4,x5,x6,x7,xl⟩:=Hx.out _ jm.out
 have H:=ae (And.intro bH (iV.out.trans jm.out))
 clear bH x0 x1 x2 x3 x4 x5 x6 x7 xl
 go_wp2
 go_end0
 exact⟨rfl,by simpa [aB] using H.out.1,H.out.2⟩
theorem adT (name src:ByteArray) (n:Int) (Ac Ab Al:Option Addr) (nc cc nb cb nl cl:Nat) (Ae:Option Addr) (ne ce:Nat) (T:List UInt8) (B:Bool) (g:Nat) (t:List UInt8) (br:Bool) (w:World) (h:bz g t br w) (hD:Does g w 142 #[.pointer (some ⟨g,0,none⟩),.slice Ae ne ce] T B)
  (hlen:t.length+([105,110,115,101,114,116,32]++src.data.toList++[40]++T++[41]).length≤1000000000) :
  Calls Tryz.prog 115 #[.pointer (some ⟨g,0,none⟩),.agg #[.int .i64 3,.string name,.string src,.int .i64 n,.slice Ac nc cc,.slice Ae ne ce,.slice Ab nb cb,.slice Al nl cl]] w fun e' w'=>e'=.returned (.tuple #[])∧bz g (t++([105,110,115,101,114,116,32]++src.data.toList++[40]++T++[41])) (br||B) w'∧Wrote g w w':=by
 obtain⟨w1,Hw1⟩:∃ w1,Hid (w1=w.alloc (.cells #[.int .i64 3,.string name,.string src,.int .i64 n,.slice Ac nc cc,.slice Ae ne ce,.slice Ab nb cb,.slice Al nl cl] 49)):=⟨_,rfl⟩
 have hb1:Below w.heap.size w w1:=by rw[Hw1.out];exact(Below.refl _ _).alloc (Nat.le_refl _) _
 have hk1:af w1 w.heap.size 49 #[.int .i64 3,.string name,.string src,.int .i64 n,.slice Ac nc cc,.slice Ae ne ce,.slice Ab nb cb,.slice Al nl cl]:=by rw[Hw1.out];exact af.laid _ _ _
 have iV:=ae (Wrote.of_below (Nat.le_of_lt h.lt) hb1:Wrote g w w1)
 have Hx:=ae (fun W (hW:Wrote g w1 W)=>Dz (hW.2.2 _ _ _ (by decide) (by decide) hk1))
 have bU:=h.below hb1
 have iG:=ae (Wrote.refl g w1)
 have Hlen:=ae hlen
 have HD:=ae hD
 obtain⟨x0,x1,x2,x3,x4,x5,x6,x7,xl⟩:=Hx.out _ (Wrote.refl _ _)
 clear hk1 h hlen hb1 hD
 go_enter Tryz.func115,Tryz.ntmps115
 go_upto_region 1 with (fail)
 rw[← Hw1.out]
 go_wp2_with (fail)
 refine(aF g 3 _ _ [⟨#[105,110,115,101,114,116,32]⟩,src,⟨#[40]⟩] _ bU rfl (by decide) (by have h9:=Hlen.out;simp[aB] at h9 ⊢;omega)).mono ?_
 rintro e' w2 ⟨rfl,bI,hr2⟩
 have gm:=ae (iG.out.trans hr2)
 clear x0 x1 x2 x3 x4 x5 x6 x7 xl bU hr2
 obtain⟨x0,x1,x2,x3,x4,x5,x6,x7,xl⟩:=Hx.out _ gm.out
 go_wp2_with (fail)
 refine(HD.out _ _ _ (iV.out.trans gm.out) bI (by have h9:=Hlen.out;simp[aB] at h9 ⊢;omega)).mono ?_
 rintro e' w3 ⟨rfl,bH,hr3⟩
 have jm:=ae (gm.out.trans hr3)
 clear x0 x1 x2 x3 x4 x5 x6 x7 xl bI hr3
 obtain⟨x0,x1,x2,x3,x4,x5,x6,x7,xl⟩:=Hx.out _ jm.out
 go_wp2_with (fail)
 refine(aF g 1 _ _ [⟨#[41]⟩] _ bH rfl (by decide) (by have h9:=Hlen.out;simp[aB] at h9 ⊢;omega)).mono ?_
 rintro e' w4 ⟨rfl,bu,hr4⟩
 have jg:=ae (jm.out.trans hr4)
 clear x0 x1 x2 x3 x4 x5 x6 x7 xl bH hr4
 obtain⟨x0,x1,x2,x3,x4,x5,x6,x7,xl⟩:=Hx.out _ jg.out
 have H:=ae (And.intro bu (iV.out.trans jg.out))
 clear bu x0 x1 x2 x3 x4 x5 x6 x7 xl
 go_wp2
 go_end0
 exact⟨rfl,by simpa [aB] using H.out.1,H.out.2⟩
theorem adU (name src:ByteArray) (n:Int) (Ac Ab Al:Option Addr) (nc cc nb cb nl cl:Nat) (Ae:Option Addr) (ne ce:Nat) (T:List UInt8) (B:Bool) (g:Nat) (t:List UInt8) (br:Bool) (w:World) (h:bz g t br w) (hD:Does g w 142 #[.pointer (some ⟨g,0,none⟩),.slice Ae ne ce] T B)
  (hlen:t.length+([101,109,105,116,32]++src.data.toList++[40]++T++[41]).length≤1000000000) :
  Calls Tryz.prog 115 #[.pointer (some ⟨g,0,none⟩),.agg #[.int .i64 8,.string name,.string src,.int .i64 n,.slice Ac nc cc,.slice Ae ne ce,.slice Ab nb cb,.slice Al nl cl]] w fun e' w'=>e'=.returned (.tuple #[])∧bz g (t++([101,109,105,116,32]++src.data.toList++[40]++T++[41])) (br||B) w'∧Wrote g w w':=by
 obtain⟨w1,Hw1⟩:∃ w1,Hid (w1=w.alloc (.cells #[.int .i64 8,.string name,.string src,.int .i64 n,.slice Ac nc cc,.slice Ae ne ce,.slice Ab nb cb,.slice Al nl cl] 49)):=⟨_,rfl⟩
 have hb1:Below w.heap.size w w1:=by rw[Hw1.out];exact(Below.refl _ _).alloc (Nat.le_refl _) _
 have hk1:af w1 w.heap.size 49 #[.int .i64 8,.string name,.string src,.int .i64 n,.slice Ac nc cc,.slice Ae ne ce,.slice Ab nb cb,.slice Al nl cl]:=by rw[Hw1.out];exact af.laid _ _ _
 have iV:=ae (Wrote.of_below (Nat.le_of_lt h.lt) hb1:Wrote g w w1)
 have Hx:=ae (fun W (hW:Wrote g w1 W)=>Dz (hW.2.2 _ _ _ (by decide) (by decide) hk1))
 have bU:=h.below hb1
 have iG:=ae (Wrote.refl g w1)
 have Hlen:=ae hlen
 have HD:=ae hD
 obtain⟨x0,x1,x2,x3,x4,x5,x6,x7,xl⟩:=Hx.out _ (Wrote.refl _ _)
 clear hk1 h hlen hb1 hD
 go_enter Tryz.func115,Tryz.ntmps115
 go_upto_region 1 with (fail)
 rw[← Hw1.out]
 go_wp2_with (fail)
 refine(aF g 3 _ _ [⟨#[101,109,105,116,32]⟩,src,⟨#[40]⟩] _ bU rfl (by decide) (by have h9:=Hlen.out;simp[aB] at h9 ⊢;omega)).mono ?_
 rintro e' w2 ⟨rfl,bI,hr2⟩
 have gm:=ae (iG.out.trans hr2)
 clear x0 x1 x2 x3 x4 x5 x6 x7 xl bU hr2
 obtain⟨x0,x1,x2,x3,x4,x5,x6,x7,xl⟩:=Hx.out _ gm.out
 go_wp2_with (fail)
 refine(HD.out _ _ _ (iV.out.trans gm.out) bI (by have h9:=Hlen.out;simp[aB] at h9 ⊢;omega)).mono ?_
 rintro e' w3 ⟨rfl,bH,hr3⟩
 have jm:=ae (gm.out.trans hr3)
 clear x0 x1 x2 x3 x4 x5 x6 x7 xl bI hr3
 obtain⟨x0,x1,x2,x3,x4,x5,x6,x7,xl⟩:=Hx.out _ jm.out
 go_wp2_with (fail)
 refine(aF g 1 _ _ [⟨#[41]⟩] _ bH rfl (by decide) (by have h9:=Hlen.out;simp[aB] at h9 ⊢;omega)).mono ?_
 rintro e' w4 ⟨rfl,bu,hr4⟩
 have jg:=ae (jm.out.trans hr4)
 clear x0 x1 x2 x3 x4 x5 x6 x7 xl bH hr4
 obtain⟨x0,x1,x2,x3,x4,x5,x6,x7,xl⟩:=Hx.out _ jg.out
 have H:=ae (And.intro bu (iV.out.trans jg.out))
 clear bu x0 x1 x2 x3 x4 x5 x6 x7 xl
 go_wp2
 go_end0
 exact⟨rfl,by simpa [aB] using H.out.1,H.out.2⟩
theorem adV (name src:ByteArray) (n:Int) (Ac Ab Al:Option Addr) (nc cc nb cb nl cl:Nat) (Ae:Option Addr) (ne ce:Nat) (T:List UInt8) (B:Bool) (g:Nat) (t:List UInt8) (br:Bool) (w:World) (h:bz g t br w) (hD:Does g w 142 #[.pointer (some ⟨g,0,none⟩),.slice Ae ne ce] T B)
  (hlen:t.length+([97,98,111,114,116,32]++T).length≤1000000000) :
  Calls Tryz.prog 115 #[.pointer (some ⟨g,0,none⟩),.agg #[.int .i64 9,.string name,.string src,.int .i64 n,.slice Ac nc cc,.slice Ae ne ce,.slice Ab nb cb,.slice Al nl cl]] w fun e' w'=>e'=.returned (.tuple #[])∧bz g (t++([97,98,111,114,116,32]++T)) (br||B) w'∧Wrote g w w':=by
 obtain⟨w1,Hw1⟩:∃ w1,Hid (w1=w.alloc (.cells #[.int .i64 9,.string name,.string src,.int .i64 n,.slice Ac nc cc,.slice Ae ne ce,.slice Ab nb cb,.slice Al nl cl] 49)):=⟨_,rfl⟩
 have hb1:Below w.heap.size w w1:=by rw[Hw1.out];exact(Below.refl _ _).alloc (Nat.le_refl _) _
 have hk1:af w1 w.heap.size 49 #[.int .i64 9,.string name,.string src,.int .i64 n,.slice Ac nc cc,.slice Ae ne ce,.slice Ab nb cb,.slice Al nl cl]:=by rw[Hw1.out];exact af.laid _ _ _
 have iV:=ae (Wrote.of_below (Nat.le_of_lt h.lt) hb1:Wrote g w w1)
 have Hx:=ae (fun W (hW:Wrote g w1 W)=>Dz (hW.2.2 _ _ _ (by decide) (by decide) hk1))
 have bU:=h.below hb1
 have iG:=ae (Wrote.refl g w1)
 have Hlen:=ae hlen
 have HD:=ae hD
 obtain⟨x0,x1,x2,x3,x4,x5,x6,x7,xl⟩:=Hx.out _ (Wrote.refl _ _)
 clear hk1 h hlen hb1 hD
 go_enter Tryz.func115,Tryz.ntmps115
 go_upto_region 1 with (fail)
 rw[← Hw1.out]
 go_wp2_with (fail)
 refine(aF g 1 _ _ [⟨#[97,98,111,114,116,32]⟩] _ bU rfl (by decide) (by have h9:=Hlen.out;simp[aB] at h9 ⊢;omega)).mono ?_
 rintro e' w2 ⟨rfl,bI,hr2⟩
 have gm:=ae (iG.out.trans hr2)
 clear x0 x1 x2 x3 x4 x5 x6 x7 xl bU hr2
 obtain⟨x0,x1,x2,x3,x4,x5,x6,x7,xl⟩:=Hx.out _ gm.out
 go_wp2_with (fail)
 refine(HD.out _ _ _ (iV.out.trans gm.out) bI (by have h9:=Hlen.out;simp[aB] at h9 ⊢;omega)).mono ?_
 rintro e' w3 ⟨rfl,bH,hr3⟩
 have jm:=ae (gm.out.trans hr3)
 clear x0 x1 x2 x3 x4 x5 x6 x7 xl bI hr3
 obtain⟨x0,x1,x2,x3,x4,x5,x6,x7,xl⟩:=Hx.out _ jm.out
 have H:=ae (And.intro bH (iV.out.trans jm.out))
 clear bH x0 x1 x2 x3 x4 x5 x6 x7 xl
 go_wp2
 go_end0
 exact⟨rfl,by simpa [aB] using H.out.1,H.out.2⟩
theorem aaP (name src:ByteArray) (n:Int) (Ac Ab Al:Option Addr) (nc cc nb cb nl cl:Nat) (Ae:Option Addr) (ne ce:Nat) (T:List UInt8) (B:Bool) (g:Nat) (t:List UInt8) (br:Bool) (w:World) (h:bz g t br w) (hD:Does g w 142 #[.pointer (some ⟨g,0,none⟩),.slice Ae ne ce] T B)
  (hlen:t.length+([114,101,112,108,121,32]++T).length≤1000000000) :
  Calls Tryz.prog 115 #[.pointer (some ⟨g,0,none⟩),.agg #[.int .i64 10,.string name,.string src,.int .i64 n,.slice Ac nc cc,.slice Ae ne ce,.slice Ab nb cb,.slice Al nl cl]] w fun e' w'=>e'=.returned (.tuple #[])∧bz g (t++([114,101,112,108,121,32]++T)) (br||B) w'∧Wrote g w w':=by
 obtain⟨w1,Hw1⟩:∃ w1,Hid (w1=w.alloc (.cells #[.int .i64 10,.string name,.string src,.int .i64 n,.slice Ac nc cc,.slice Ae ne ce,.slice Ab nb cb,.slice Al nl cl] 49)):=⟨_,rfl⟩
 have hb1:Below w.heap.size w w1:=by rw[Hw1.out];exact(Below.refl _ _).alloc (Nat.le_refl _) _
 have hk1:af w1 w.heap.size 49 #[.int .i64 10,.string name,.string src,.int .i64 n,.slice Ac nc cc,.slice Ae ne ce,.slice Ab nb cb,.slice Al nl cl]:=by rw[Hw1.out];exact af.laid _ _ _
 have iV:=ae (Wrote.of_below (Nat.le_of_lt h.lt) hb1:Wrote g w w1)
 have Hx:=ae (fun W (hW:Wrote g w1 W)=>Dz (hW.2.2 _ _ _ (by decide) (by decide) hk1))
 have bU:=h.below hb1
 have iG:=ae (Wrote.refl g w1)
 have Hlen:=ae hlen
 have HD:=ae hD
 obtain⟨x0,x1,x2,x3,x4,x5,x6,x7,xl⟩:=Hx.out _ (Wrote.refl _ _)
 clear hk1 h hlen hb1 hD
 go_enter Tryz.func115,Tryz.ntmps115
 go_upto_region 1 with (fail)
 rw[← Hw1.out]
 go_wp2_with (fail)
 refine(aF g 1 _ _ [⟨#[114,101,112,108,121,32]⟩] _ bU rfl (by decide) (by have h9:=Hlen.out;simp[aB] at h9 ⊢;omega)).mono ?_
 rintro e' w2 ⟨rfl,bI,hr2⟩
 have gm:=ae (iG.out.trans hr2)
 clear x0 x1 x2 x3 x4 x5 x6 x7 xl bU hr2
 obtain⟨x0,x1,x2,x3,x4,x5,x6,x7,xl⟩:=Hx.out _ gm.out
 go_wp2_with (fail)
 refine(HD.out _ _ _ (iV.out.trans gm.out) bI (by have h9:=Hlen.out;simp[aB] at h9 ⊢;omega)).mono ?_
 rintro e' w3 ⟨rfl,bH,hr3⟩
 have jm:=ae (gm.out.trans hr3)
 clear x0 x1 x2 x3 x4 x5 x6 x7 xl bI hr3
 obtain⟨x0,x1,x2,x3,x4,x5,x6,x7,xl⟩:=Hx.out _ jm.out
 have H:=ae (And.intro bH (iV.out.trans jm.out))
 clear bH x0 x1 x2 x3 x4 x5 x6 x7 xl
 go_wp2
 go_end0
 exact⟨rfl,by simpa [aB] using H.out.1,H.out.2⟩
theorem adW (name src:ByteArray) (n:Int) (Ac Ab Al:Option Addr) (nc cc nb cb nl cl:Nat) (b o ne ce:Nat) (a1:Ex) (A1:Option Addr) (m1 c1:Nat) (T:List UInt8) (B:Bool) (g:Nat) (t:List UInt8) (br:Bool) (w:World) (h:bz g t br w) (hbg:b<g) (hne:1≤ne) (hS:Six w b o a1 A1 m1 c1) (hD:Does g w 68 #[.pointer (some ⟨g,0,none⟩),.string name,.string src,.agg (rowOf a1 A1 m1 c1).toArray] T B)
  (hlen:t.length+([100,101,108,101,116,101,32]++T).length≤1000000000) :
  Calls Tryz.prog 115 #[.pointer (some ⟨g,0,none⟩),.agg #[.int .i64 5,.string name,.string src,.int .i64 n,.slice Ac nc cc,.slice (some ⟨b,o,none⟩) ne ce,.slice Ab nb cb,.slice Al nl cl]] w fun e' w'=>e'=.returned (.tuple #[])∧bz g (t++([100,101,108,101,116,101,32]++T)) (br||B) w'∧Wrote g w w':=by
 obtain⟨w1,Hw1⟩:∃ w1,Hid (w1=w.alloc (.cells #[.int .i64 5,.string name,.string src,.int .i64 n,.slice Ac nc cc,.slice (some ⟨b,o,none⟩) ne ce,.slice Ab nb cb,.slice Al nl cl] 49)):=⟨_,rfl⟩
 have hb1:Below w.heap.size w w1:=by rw[Hw1.out];exact(Below.refl _ _).alloc (Nat.le_refl _) _
 have hk1:af w1 w.heap.size 49 #[.int .i64 5,.string name,.string src,.int .i64 n,.slice Ac nc cc,.slice (some ⟨b,o,none⟩) ne ce,.slice Ab nb cb,.slice Al nl cl]:=by rw[Hw1.out];exact af.laid _ _ _
 have iV:=ae (Wrote.of_below (Nat.le_of_lt h.lt) hb1:Wrote g w w1)
 have Hx:=ae (fun W (hW:Wrote g w1 W)=>Dz (hW.2.2 _ _ _ (by decide) (by decide) hk1))
 have bU:=h.below hb1
 have iG:=ae (Wrote.refl g w1)
 have Hlen:=ae hlen
 have HD:=ae hD
 have HS:=ae (fun W (hW:Wrote g w W)=>hS.wrote hbg hW)
 have Dv:=ae hbg
 have i1:0<ne:=by omega
 obtain⟨x0,x1,x2,x3,x4,x5,x6,x7,xl⟩:=Hx.out _ (Wrote.refl _ _)
 clear hk1 h hlen hb1 hS hD hbg hne
 go_enter Tryz.func115,Tryz.ntmps115
 go_upto_region 1 with (fail)
 rw[← Hw1.out]
 go_wp2_with (fail)
 refine(aF g 1 _ _ [⟨#[100,101,108,101,116,101,32]⟩] _ bU rfl (by decide) (by have h9:=Hlen.out;simp[aB] at h9 ⊢;omega)).mono ?_
 rintro e' w2 ⟨rfl,bI,hr2⟩
 have gm:=ae (iG.out.trans hr2)
 clear x0 x1 x2 x3 x4 x5 x6 x7 xl bU hr2
 obtain⟨x0,x1,x2,x3,x4,x5,x6,x7,xl⟩:=Hx.out _ gm.out
 have hbd:=(Below.refl w2.heap.size w2).drew
 have hr3:=gm.out.trans (Wrote.of_below (Nat.le_of_lt bI.lt) hbd)
 have bH:=bI.below hbd
 have Dl:=ae (HD.out _ _ _ (iV.out.trans hr3) bH (by have h9:=Hlen.out;simp[aB] at h9 ⊢;omega))
 have jm:=ae hr3
 have TL:=ae bH.lt
 obtain⟨z0,z1,z2,z3,z4,z5⟩:=HS.out _ (iV.out.trans gm.out)
 have hbl:b<w2.heap.size:=by have:=Dv.out;have:=bI.lt;omega
 clear bI hbd hr3 bH
 go_upto_region 30 with (fail)
 go_still_tail 9,(by kernel_rfl)
 change wpList _ _ _ _ _ w2.drew
 generalize w2.drew=w3 at *
 clear x0 x1 x2 x3 x4 x5 x6 x7 xl z0 z1 z2 z3 z4 z5 hbl
 obtain⟨x0,x1,x2,x3,x4,x5,x6,x7,xl⟩:=Hx.out _ jm.out
 obtain⟨z0,z1,z2,z3,z4,z5⟩:=HS.out _ (iV.out.trans jm.out)
 have hbl:b<w3.heap.size:=by have:=Dv.out;have:=TL.out;omega
 go_wp2_with (fail)
 refine Dl.out.mono ?_
 rintro e' w4 ⟨rfl,bu,hr4⟩
 have jg:=ae (jm.out.trans hr4)
 clear x0 x1 x2 x3 x4 x5 x6 x7 xl z0 z1 z2 z3 z4 z5 hbl hr4
 obtain⟨x0,x1,x2,x3,x4,x5,x6,x7,xl⟩:=Hx.out _ jg.out
 have H:=ae (And.intro bu (iV.out.trans jg.out))
 clear bu x0 x1 x2 x3 x4 x5 x6 x7 xl
 go_wp2
 go_end0
 exact⟨rfl,by simpa [aB] using H.out.1,H.out.2⟩
end Go.Proofs.YtjjfkhbajidmdaaGreatDoor

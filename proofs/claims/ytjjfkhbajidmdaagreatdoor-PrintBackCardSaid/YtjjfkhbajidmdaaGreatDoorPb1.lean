/- Parts of this proof, one behind the other: Mem, Read, Tree, ReadL. -/
import Derived.Below
import Derived.Laws.OwnMore
import Derived.Deep.AppendLies
import Derived.Deep.AppendSrc
import Derived.Deep.Draws
import Derived.WalkKit
import Derived.Deep.Slices
import Derived.ChangeSame
set_option maxRecDepth 1000000
set_option maxHeartbeats 40000000
namespace Go.Afx
open Go.RowKit
theorem ae {p:Prop} (h:p):RowKit.Hid p:=h
structure az (w:World) (sz:Nat) (A:Option Addr) (n c:Nat) (xs:List (List Value)):Prop where
 len:xs.length=n
 cap:n≤c
 max:c≤maxLen
 at_:∀ k row,xs[k]?=some row→∃ b o,A=some ⟨b,o,none⟩∧b<w.heap.size∧∀ j u,row[j]?=some u→w.cell? ⟨b,o+k*sz+j,none⟩=some u
section
variable {w w':World} {sz:Nat} {A:Option Addr} {n c:Nat} {xs:List (List Value)}
theorem az.keep (h:az w sz A n c xs) (hs:w.heap.size≤w'.heap.size) (hk:∀ p:Addr,p.block<w.heap.size→A.map (·.block)=some p.block→w'.cell? p=w.cell? p):az w' sz A n c xs :=
 ⟨h.len,h.cap,h.max,fun k row hr=>by
  obtain⟨b,o,rfl,hb,hc⟩:=h.at_ k row hr
  exact⟨b,o,rfl,by omega,fun j u hu=>(hk _ hb (by simp)).trans (hc j u hu)⟩⟩
theorem az.below (h:az w sz A n c xs) (hb:Below w.heap.size w w'):az w' sz A n c xs:=h.keep hb.size fun p hp _=>hb.cell (p:=p) hp
theorem az.drewN (h:az w sz A n c xs) (k:Nat):az (w.drewN k) sz A n c xs:=⟨h.len,h.cap,h.max,h.at_⟩
theorem az.nil_ (w:World) (sz:Nat):az w sz none 0 0 []:=⟨rfl,Nat.le_refl _,Nat.zero_le _,fun k row h=>by simp at h⟩
theorem az.gu (h:az w sz A n c xs):n≤9223372036854775807:=by have:=h.cap;have:=h.max;unfold maxLen at this;omega
theorem az.two (h:az w 2 A n c xs) {k:Nat} {u v:Value} (hk:xs[k]?=some [u,v]) :
  ∃ b o,A=some ⟨b,o,none⟩∧b<w.heap.size∧w.cell? ⟨b,o+k*2,none⟩=some u∧w.cell? ⟨b,o+k*2+1,none⟩=some v:=by
 obtain⟨b,o,rfl,hb,hc⟩:=h.at_ k _ hk
 exact⟨b,o,rfl,hb,by simpa using hc 0 u rfl,hc 1 v rfl⟩
theorem az.one (h:az w 1 A n c xs) {k:Nat} {u:Value} (hk:xs[k]?=some [u]) :
  ∃ b o,A=some ⟨b,o,none⟩∧b<w.heap.size∧w.cell? ⟨b,o+k,none⟩=some u:=by
 obtain⟨b,o,rfl,hb,hc⟩:=h.at_ k _ hk
 exact⟨b,o,rfl,hb,by simpa using hc 0 u rfl⟩
end
theorem wC (xs:List (List Value)) (sz:Nat):(∀ r∈xs,r.length=sz)→∀ k j,j<sz→xs.flatten[k*sz+j]?=(xs[k]?).bind (·[j]?):=by
 induction xs with
 | nil=>intro _ k j _;simp
 | cons r xs ih =>
  intro h k j hj
  have hr:r.length=sz:=h r (by simp)
  rw[List.flatten_cons]
  cases k with
  | zero=>rw[List.getElem?_append_left (by omega)];simp
  | succ k =>
   rw[List.getElem?_append_right (by rw[hr,Nat.succ_mul];omega),hr]
   have e:(k+1)*sz+j-sz=k*sz+j:=by rw[Nat.succ_mul];omega
   rw[e,ih (fun r hr=>h r (by simp[hr])) k j hj]
   simp
theorem qm (xs:List (List Value)) (sz:Nat) (h:∀ r∈xs,r.length=sz):xs.flatten.length=xs.length*sz:=by
 induction xs with
 | nil=>simp
 | cons r xs ih=>rw[List.flatten_cons,List.length_append,ih (fun r hr=>h r (by simp[hr])),h r (by simp),List.length_cons,Nat.succ_mul];omega
theorem az.kS {w:World} {base:Nat} {e:TypeId} {sz:Nat} {A:Option Addr} {n c:Nat} {xs:List (List Value)} (h:w.ownsRow base e sz (.slice A n c) n xs.flatten) (hx:∀ r∈xs,r.length=sz) (hn:xs.length=n):az w sz A n c xs:=by
 rcases h.2 with ⟨hv,h0⟩|⟨g,cap,cur,hv,hb,hg,hnc,hcm,hcs,ht⟩
 ·injection hv with h1 h2 h3
  subst h1 h2 h3
  have:xs=[]:=List.eq_nil_of_length_eq_zero hn
  subst this
  exact az.nil_ w sz
 ·injection hv with h1 h2 h3
  subst h1 h3
  refine⟨hn,hnc,hcm,fun k row hr=>⟨g,0,rfl,(Array.getElem?_eq_some_iff.1 hg).1,fun j u hu=>?_⟩⟩
  have hj:j<sz:=by
   have:=hx row (List.mem_of_getElem? hr)
   have:=(List.getElem?_eq_some_iff.1 hu).1
   omega
  have hc:=h.cells (g:=g) rfl (k*sz+j) u (by rw[wC xs sz hx k j hj,hr];exact hu)
  rw[Addr.add] at hc
  split at hc
  ·rename_i h0
   have:k*sz=0∧j=0:=by omega
   rw[this.1,this.2];exact hc
  ·simpa [Nat.add_assoc] using hc
def af (w:World) (g:Nat) (t:TypeId) (cs:Array Value):Prop:=w.heap[g]?=some (.cells cs t (0,0))
section
variable {w w':World} {g:Nat} {t:TypeId} {cs:Array Value}
theorem af.lt (h:af w g t cs):g<w.heap.size:=(Array.getElem?_eq_some_iff.1 h).1
theorem af.cell (h:af w g t cs) (i:Nat):w.cell? ⟨g,i,none⟩=cs[i]?:=by
 unfold af at h;unfold World.cell?;rw[h];rfl
theorem af.frozen (h:af w g t cs) (i:Nat):w.frozen? ⟨g,i,none⟩=false:=by
 unfold af at h;unfold World.frozen?;rw[h];simp
theorem af.laid (w:World) (t:TypeId) (cs:Array Value):af (w.alloc (.cells cs t)) w.heap.size t cs:=by
 show (w.heap.push _)[w.heap.size]?=_
 rw[Array.getElem?_push,if_pos rfl]
theorem af.ag (h:af w g t cs) (e:w'.heap[g]?=w.heap[g]?):af w' g t cs:=e.trans h
theorem af.alloc (h:af w g t cs) (o:Obj):af (w.alloc o) g t cs:=h.ag (Below.heap_alloc w o g h.lt)
theorem af.stored (h:af w g t cs) (i:Nat) (u:Value):af (w.setCell ⟨g,i,none⟩ u) g t (cs.setIfInBounds i u):=by
 unfold af at h ⊢
 unfold World.setCell
 rw[Array.getElem?_modify,if_pos rfl,h];rfl
theorem af.elsewhere (h:af w g t cs) {p:Addr} (hp:g≠p.block) (u:Value):af (w.setCell p u) g t cs:=h.ag (Below.heap_setCell w p u g hp)
end
theorem below_drewN {B:Nat} {a w:World} (h:Below B a w) (n:Nat):Below B a (w.drewN n):=⟨h.os,h.tape,h.output,h.size,h.block⟩
structure But (S:Nat→Prop) (w w':World):Prop where
 os:w'.os=w.os
 tape:w'.tape=w.tape
 output:w'.output=w.output
 size:w.heap.size≤w'.heap.size
 block:∀ k,k<w.heap.size→¬ S k→w'.heap[k]?=w.heap[k]?
section
variable {S S':Nat→Prop} {a b c w w':World}
theorem But.refl (S:Nat→Prop) (w:World):But S w w:=⟨rfl,rfl,rfl,Nat.le_refl _,fun _ _ _=>rfl⟩
theorem But.trans (h:But S a b) (k:But S' b c) (hS:∀ i,S' i→S i∨a.heap.size≤i):But S a c :=
 ⟨k.os.trans h.os,k.tape.trans h.tape,k.output.trans h.output,Nat.le_trans h.size k.size,fun i hi hn =>
  (k.block i (Nat.lt_of_lt_of_le hi h.size) (fun hs=>(hS i hs).elim hn (by omega))).trans (h.block i hi hn)⟩
theorem But.trans' (h:But S a b) (k:But S b c):But S a c:=h.trans k fun _ hs=>.inl hs
theorem But.mono (h:But S a b) (hS:∀ i,S i→S' i∨a.heap.size≤i):But S' a b :=
 ⟨h.os,h.tape,h.output,h.size,fun i hi hn=>h.block i hi (fun hs=>(hS i hs).elim hn (by omega))⟩
theorem But.of_below (h:Below w.heap.size w w'):But S w w':=⟨h.os,h.tape,h.output,h.size,fun i hi _=>h.block i hi⟩
theorem But.below (h:But S w w') (hS:∀ i,S i→w.heap.size≤i):Below w.heap.size w w':=⟨h.os,h.tape,h.output,h.size,fun i hi=>h.block i hi (fun hs=>by have:=hS i hs;omega)⟩
theorem But.below' {B:Nat} (h:But S w w') (hB:B≤w.heap.size) (hS:∀ i,S i→B≤i):Below B w w':=⟨h.os,h.tape,h.output,h.size,fun i hi=>h.block i (by omega) (fun hs=>by have:=hS i hs;omega)⟩
theorem But.drew (h:But S a w):But S a w.drew:=⟨h.os,h.tape,h.output,h.size,h.block⟩
theorem But.drewN (h:But S a w) (n:Nat):But S a (w.drewN n):=⟨h.os,h.tape,h.output,h.size,h.block⟩
theorem But.alloc (h:But S a w) (o:Obj):But S a (w.alloc o) :=
 h.trans (S':=fun _=>False) ⟨rfl,rfl,rfl,by simp,fun k hk _=>Below.heap_alloc _ _ _ hk⟩ (fun _ hf=>hf.elim)
theorem But.setCell (h:But S a w) {p:Addr} (hp:S p.block∨a.heap.size≤p.block) (u:Value):But S a (w.setCell p u) :=
 h.trans (S':=fun k=>k=p.block) ⟨rfl,rfl,rfl,by simp[World.setCell],fun k _ hn=>Below.heap_setCell _ _ _ _ hn⟩ (fun i hi=>by subst hi;exact hp)
theorem But.grown {row:Option Nat} (h:But S a w) (hg:w.grownBy w' row) (hr:∀ k,row=some k→S k∨a.heap.size≤k):But S a w' :=
 h.trans (S':=fun k=>row=some k) ⟨hg.os,hg.tape,hg.output,hg.size,fun k hk hn=>hg.block k hk (fun e=>hn e.symm)⟩ (fun i hi=>hr i hi)
theorem But.cell (h:But S w w') {p:Addr} (hp:p.block<w.heap.size) (hn:¬ S p.block):w'.cell? p=w.cell? p:=World.cell?_of_block (w:=w) (h.block p.block hp hn)
theorem But.frozen (h:But S w w') {p:Addr} (hp:p.block<w.heap.size) (hn:¬ S p.block):w'.frozen? p=w.frozen? p:=World.frozen?_of_block (w:=w) (h.block p.block hp hn)
theorem But.kT (h:But S a w) (hb:Below w.heap.size w w'):But S a w':=h.trans (S':=fun _=>False) (But.of_below hb) (fun _ hf=>hf.elim)
end
theorem az.but {w w':World} {S:Nat→Prop} {sz:Nat} {A:Option Addr} {n c:Nat} {xs:List (List Value)} (h:az w sz A n c xs) (hb:But S w w') (hA:∀ a,A=some a→0<n→¬ S a.block):az w' sz A n c xs :=
 ⟨h.len,h.cap,h.max,fun k row hr=>by
  obtain⟨b,o,rfl,hlt,hc⟩:=h.at_ k row hr
  have hn:0<n:=by have:=(List.getElem?_eq_some_iff.1 hr).1;have:=h.len;omega
  exact⟨b,o,rfl,Nat.lt_of_lt_of_le hlt hb.size,fun j u hu=>(hb.cell (p:=⟨b,o+k*sz+j,none⟩) hlt (hA ⟨b,o,none⟩ rfl hn)).trans (hc j u hu)⟩⟩
theorem eP {w w':World} {S:Nat→Prop} {base:Nat} {e:TypeId} {sz:Nat} {v:Value} {n:Nat} {xs:List Value} (h:w.ownsRow base e sz v n xs) (hb:But S w w') (hS:∀ g,v.ownBlock=some g→¬ S g):w'.ownsRow base e sz v n xs:=by
 refine⟨h.1,?_⟩
 rcases h.2 with hn|⟨g,cap,cur,rfl,hbg,hgg,rest⟩
 ·exact .inl hn
 ·exact .inr ⟨g,cap,cur,rfl,hbg,(hb.block g (Array.getElem?_eq_some_iff.1 hgg).1 (hS g rfl)).trans hgg,rest⟩
theorem own_below {w w':World} {base:Nat} {e:TypeId} {sz:Nat} {v:Value} {n:Nat} {xs:List Value} (h:w.ownsRow base e sz v n xs) (hb:Below w.heap.size w w'):w'.ownsRow base e sz v n xs :=
 eP h (But.of_below (S:=fun _=>False) hb) (fun _ _ hf=>hf)
structure kC (P:Program) (t e:TypeId) (sz bytes:Nat) (z:Value):Prop where
 und:P.underlying t=some (.slice e)
 info:(P.info? e).map (fun i=>(i.zero,i.size,i.bytes))=some (some z,sz,bytes)
 zs:z.cells.size=sz
 pos:0<sz
theorem az.lit {w:World} {T:TypeId} {sz:Nat} (cs:Array Value) (rows:List (List Value)) (n:Nat) (hcs:cs.toList=rows.flatten) (hr:∀ r∈rows,r.length=sz) (hn:rows.length=n) (hm:n≤maxLen) :
  az (w.alloc (.cells cs T)) sz (some ⟨w.heap.size,0,none⟩) n n rows:=by
 have h:=World.ownsRow_lit (base:=0) (e:=T) (size:=sz) w cs n (Nat.zero_le _) hm (by rw[← Array.length_toList,hcs,qm rows sz hr,hn])
 rw[hcs] at h
 exact az.kS h hr hn
theorem az.nG {w:World} {T:TypeId} {sz g:Nat} (cs:Array Value) (rows:List (List Value)) (n:Nat) (hg:g=w.heap.size) (hcs:cs.toList=rows.flatten) (hr:∀ r∈rows,r.length=sz) (hn:rows.length=n) (hm:n≤maxLen) :
  az (w.alloc (.cells cs T)) sz (some ⟨g,0,none⟩) n n rows:=by subst hg;exact az.lit cs rows n hcs hr hn hm
theorem az.adk {w:World} {sz:Nat} {b o n c:Nat} {xs:List (List Value)} (h:az w sz (some ⟨b,o,none⟩) n c xs) (hx:∀ r∈xs,r.length=sz) (hs:0<sz) (j:Nat) (u:Value) (hj:xs.flatten[j]?=some u):w.cell? ((⟨b,o,none⟩:Addr).add j)=some u:=by
 have e:j=(j / sz)*sz+j % sz:=by have:=Nat.div_add_mod j sz;rw[Nat.mul_comm] at this;omega
 have hm:j % sz<sz:=Nat.mod_lt _ hs
 rw[e,wC xs sz hx _ _ hm] at hj
 obtain⟨row,hr,hu⟩:=Option.bind_eq_some_iff.1 hj
 obtain⟨b',o',hA,_,hc⟩:=h.at_ _ row hr
 obtain⟨rfl,rfl⟩:b=b'∧o=o':=by simpa using hA
 have hc':=hc _ u hu
 have e2:o+j / sz*sz+j % sz=o+j:=by omega
 rw[e2] at hc'
 unfold Addr.add
 split
 ·rename_i h0;subst h0;simpa using hc'
 ·exact hc'
theorem ownsRow_form {w:World} {base:Nat} {e:TypeId} {sz:Nat} {v:Value} {n:Nat} {xs:List Value} (h:w.ownsRow base e sz v n xs):∃ A c,v=.slice A n c∧n≤c:=by
 rcases h.2 with ⟨rfl,rfl⟩|⟨g,cap,cur,rfl,_,_,hnc,_⟩
 ·exact⟨_,_,rfl,Nat.le_refl _⟩
 ·exact⟨_,_,rfl,hnc⟩
theorem kC.at_ {P:Program} {t e:TypeId} {sz bytes:Nat} {z:Value} (hT:kC P t e sz bytes z):∃ i,P.info? e=some i∧i.zero=some z∧i.size=sz∧i.bytes=bytes:=by
 have:=hT.info
 cases hi:P.info? e with
 | none=>rw[hi] at this;cases this
 | some i =>
  rw[hi] at this
  simp only[Option.map_some,Option.some.injEq,Prod.mk.injEq] at this
  exact⟨i,rfl,this.1,this.2.1,this.2.2⟩
theorem LX {P:Program} {w:World} {t:TypeId} (ty:TypeId) {base:Nat} {e:TypeId} {sz bytes:Nat} {z:Value} (hT:kC P t e sz bytes z)
  {A:Option Addr} {n c:Nat} {xs:List (List Value)} (hown:w.ownsRow base e sz (.slice A n c) n xs.flatten)
  {A':Option Addr} {m c':Nat} {news:List (List Value)} (hnews:az w sz A' m c' news) (hlen:∀ r∈news,r.length=sz) (h1:∀ r∈news,∀ u∈r,u.oneCell'=true)
  (h63:n+m≤maxLen) (hbytes:(n+m)*bytes≤140737488355328) (hbase:base≤w.heap.size) :
  ∃ A2 c2 w',(Builtin.append_ #[t,t] ty #[.slice A n c,.slice A' m c']).run P w=.ok (.slice A2 (n+m) c2) w'∧w'.ownsRow base e sz (.slice A2 (n+m) c2) (n+m) (xs++news).flatten ∧
   But (fun k=>A.map (·.block)=some k) w w'∧(∀ a2,A2=some a2→A=some a2∨w.heap.size≤a2.block):=by
 obtain⟨i,hi,hz,hsz,hby⟩:=hT.at_
 have hnl:news.length=m:=hnews.len
 cases A' with
 | none =>
  have hm:m=0:=by
   rcases Nat.eq_zero_or_pos m with h0|h0
   ·exact h0
   ·obtain⟨b,o',hA,_⟩:=hnews.at_ 0 _ (List.getElem?_eq_getElem (by omega))
    cases hA
  subst hm
  have hn0:news=[]:=List.eq_nil_of_length_eq_zero hnl
  subst hn0
  refine⟨A,c,w,?_,by simpa using hown,But.refl _ _,fun a2 ha=>.inl ha⟩
  rcases hown.2 with ⟨hv,rfl⟩|⟨g,cap,cur,hv,_,_,hnc,_⟩
  ·injection hv with e1 e2 e3
   subst e1 e3
   simp[Builtin.append_,run_underlying hT.und,sizeOf,typeInfo,hi,Builtin.lenOf,Builtin.firstCells]
  ·injection hv with e1 e2 e3
   subst e1 e3
   simp[Builtin.append_,run_underlying hT.und,sizeOf,typeInfo,hi,Builtin.lenOf,Builtin.firstCells,hnc,storeCells]
 | some ad =>
  have hfl:news.flatten.length=m*sz:=by rw[qm news sz hlen,hnl]
  have hcells:∀ j u,news.flatten[j]?=some u→w.cell? (ad.add j)=some u:=by
   intro j u hj
   have hm0:0<m:=by
    rcases Nat.eq_zero_or_pos m with h0|h0
    ·have:news=[]:=List.eq_nil_of_length_eq_zero (by omega)
     subst this;simp at hj
    ·exact h0
   obtain⟨b,o',hA,_,_⟩:=hnews.at_ 0 _ (List.getElem?_eq_getElem (by omega))
   injection hA with hA
   subst hA
   exact hnews.adk hlen hT.pos j u hj
  have h1':∀ u∈news.flatten,u.oneCell'=true:=fun u hu=>by obtain⟨r,hr,hu⟩:=List.mem_flatten.1 hu;exact h1 r hr u hu
  obtain⟨v',w',hr,hown',hg,hn⟩:=run_append_own (P:=P) w base t ty e i z sz bytes hT.und hi hz hsz hby hT.zs hT.pos (.slice A n c) n _ hown ad m c' news.flatten hfl hcells h1' h63 hbytes hbase
  obtain⟨A2,c2,rfl,_⟩:=ownsRow_form hown'
  refine⟨A2,c2,w',hr,by rw[List.flatten_append];exact hown',⟨hg.os,hg.tape,hg.output,hg.size,fun k hk hS=>hg.block k hk (fun e=>hS (by cases A<;>simp_all [Value.ownBlock]))⟩,?_⟩
  intro a2 ha2
  subst ha2
  subst hsz hby
  unfold maxLen at h63
  rcases hown.2 with ⟨hv,rfl⟩|⟨g,cap,cur,hv,hbg,hgg,hnc,hcm,_⟩
  ·injection hv with e1 e2 e3
   subst e1 e3
   rcases Nat.eq_zero_or_pos m with rfl|hm
   ·have:=hn.2 ⟨rfl,rfl⟩;cases this
   ·have hr2:=run_append_nil (P:=P) w t ty e i z hT.und hi hz ad m c' news.flatten hfl hcells hm (by omega) (by have hb:=hbytes;simp only[Nat.zero_add] at hb;omega)
    rw[hr2] at hr
    injection hr with e1 e2
    injection e1 with e1
    injection e1 with e1
    subst e1
    exact .inr (Nat.le_refl _)
  ·injection hv with e1 e2 e3
   subst e1 e3
   by_cases hroom:n+m≤c
   ·obtain⟨w2,hr2,_⟩:=run_append_fits (P:=P) w base t ty e i i.size hT.und hi rfl g n c xs.flatten hown ad m c' news.flatten hfl hcells h1' hroom
    rw[hr2] at hr
    injection hr with e1 e2
    injection e1 with e1
    exact .inl e1
   ·have holds:∀ j u,xs.flatten[j]?=some u→w.cell? ((⟨g,0,none⟩:Addr).add j)=some u:=hown.cells (g:=g) rfl
    have hr2:=run_append_grow (P:=P) w t ty e i z hT.und hi hz ⟨g,0,none⟩ n c xs.flatten hown.1 holds ad m c' news.flatten hfl hcells (by omega) (by omega) (growslice_fits (by omega) hbytes)
    rw[hr2] at hr
    injection hr with e1 e2
    injection e1 with e1
    injection e1 with e1
    subst e1
    exact .inr (Nat.le_refl _)
theorem gy {P:Program} {w:World} {ops:Array Oper} {rest:List Oper} {o:Oper} {a:Act} {Q:Exit→Act→World→Prop} (hgd:o.guard=none) {s x:Operand} {t:TypeId}
  (ho:o.op=.call { callee:=.builtin .append,args:=#[s,x],argTypes:=#[t,t] })
  {base:Nat} {e:TypeId} {sz bytes:Nat} {z:Value} (hT:kC P t e sz bytes z)
  {A:Option Addr} {n c:Nat} {xs:List (List Value)} (hs:a.eval s=.slice A n c) (hown:w.ownsRow base e sz (.slice A n c) n xs.flatten)
  {A':Option Addr} {m c':Nat} {news:List (List Value)} (hx:a.eval x=.slice A' m c') (hnews:az w sz A' m c' news) (hlen:∀ r∈news,r.length=sz) (h1:∀ r∈news,∀ u∈r,u.oneCell'=true)
  (h63:n+m≤maxLen) (hbytes:(n+m)*bytes≤140737488355328) (hbase:base≤w.heap.size)
  (h:∀ A2 c2 w',w'.ownsRow base e sz (.slice A2 (n+m) c2) (n+m) (xs++news).flatten→But (fun k=>A.map (·.block)=some k) w w'→(∀ a2,A2=some a2→A=some a2∨w.heap.size≤a2.block)→wpList P ops Q rest (a.put o.dst (.slice A2 (n+m) c2)) w'):wpList P ops Q (o::rest) a w:=by
 obtain⟨A2,c2,w',hr,hown',hb,hf⟩:=LX (P:=P) o.type hT hown hnews hlen h1 h63 hbytes hbase
 refine wpList_plain hgd fun K hK=>?_
 unfold Oper.wp execOp
 simp only[ho,resolve,invoke,builtin,Sem.run_bind,Sem.run_pure,Result.andThen_ok,List.map_toArray,List.map_cons,List.map_nil,hs,hx,hr]
 exact hK _ _ (h A2 c2 w' hown' hb hf)
theorem aI {a b:Bool} (h:a=b):Ending.returned (.bool a)=.returned (.bool b):=by rw[h]
theorem Am {k:IntKind} {a b:Int} (h:a=b):Ending.returned (.int k a)=.returned (.int k b):=by rw[h]
end Go.Afx
namespace Go.Afx
open Go.RowKit Go.ChangeShapes Go.WideShapes Go.Deep
section
variable {H:Type} {enc:TypeId×Value→H} {P:Program} {w:World} {base:Nat} {spare:Nat→Bool} {held:Bool}
theorem LY {t e:TypeId} {sz fuel n c:Nat} {A:Option Addr} {x:DataW H×List MemPlace} (ht:P.underlying t=some (.slice e)) (hsz:P.cellsOf e=sz) (hpos:0<sz)
  (h:DataW.trod enc P w base spare held fuel t [.slice A n c]=some x) :
  ∃ rows,az w sz A n c rows∧∀ (k:Nat) (r:List Value),rows[k]?=some r→r.length=sz∧∃ m y,DataW.trod enc P w base spare held m e r=some y:=by
 rcases open_slice ht h with ⟨hcs,_⟩|⟨a,len,cap,m,q,D,Pl,hcs,_,hl,hm,hmm,_,hi⟩
 ·simp only[List.cons.injEq,Value.slice.injEq,and_true] at hcs
  obtain⟨rfl,rfl,rfl⟩:=hcs
  exact⟨[],az.nil_ w sz,fun k r hr=>by simp at hr⟩
 ·simp only[List.cons.injEq,Value.slice.injEq,and_true] at hcs
  obtain⟨rfl,rfl,rfl⟩:=hcs
  subst hsz
  have hle:n≤m:=by rw[hmm];split<;>omega
  have hall:∀ i,∃ r:List Value,i<n→w.cells? base (a.add (i*P.cellsOf e)) (P.cellsOf e)=some r∧DataW.trod enc P w base spare held q e r=some (D i,Pl i):=fun i=>by
   by_cases hin:i<n
   ·obtain⟨r,h1,h2⟩:=hi i (by omega)
    exact⟨r,fun _=>⟨h1,h2⟩⟩
   ·exact⟨[],fun h=>absurd h hin⟩
  obtain⟨f,hf⟩:∃ f:Nat→List Value,∀ i,i<n→w.cells? base (a.add (i*P.cellsOf e)) (P.cellsOf e)=some (f i)∧DataW.trod enc P w base spare held q e (f i)=some (D i,Pl i):=⟨fun i=>(hall i).choose,fun i=>(hall i).choose_spec⟩
  clear hall
  refine⟨(List.range n).map f,⟨by simp,hl,hm,fun k row hk=>?_⟩,fun k r hk=>?_⟩
  ·rw[List.getElem?_map] at hk
   obtain⟨i,hik,rfl⟩:=Option.map_eq_some_iff.1 hk
   have hkn:k<n:=by have:=(List.getElem?_eq_some_iff.1 hik).1;simpa using this
   rw[List.getElem?_range hkn] at hik
   injection hik with hik
   subst hik
   obtain⟨_,hcl,hat⟩:=World.cells?_some (hf k hkn).1
   obtain⟨_,hcl0,vV⟩:=World.cells?_some (hf 0 (by omega)).1
   have h00:=vV 0 hpos
   rw[List.getElem?_eq_getElem (by omega),Nat.zero_mul] at h00
   have ha0:(a.add 0).add 0=a:=by simp[Addr.add]
   rw[ha0] at h00
   obtain⟨b,o,s⟩:=a
   have hs:s=none:=by simpa using World.cell?_spot h00
   subst hs
   refine⟨b,o,rfl,World.block_lt_of_cell? w _ h00,fun j u hu=>?_⟩
   have hj:j<P.cellsOf e:=by have:=(List.getElem?_eq_some_iff.1 hu).1;omega
   have hc:=hat j hj
   rw[hu] at hc
   have e2:((⟨b,o,none⟩:Addr).add (k*P.cellsOf e)).add j=⟨b,o+k*P.cellsOf e+j,none⟩:=by
    unfold Addr.add
    by_cases h1:k*P.cellsOf e=0<;>by_cases h2:j=0<;>simp[h1,h2]
   rw[e2] at hc
   exact hc
  ·rw[List.getElem?_map] at hk
   obtain⟨i,hik,rfl⟩:=Option.map_eq_some_iff.1 hk
   have hkn:k<n:=by have:=(List.getElem?_eq_some_iff.1 hik).1;simpa using this
   rw[List.getElem?_range hkn] at hik
   injection hik with hik
   subst hik
   exact⟨(World.cells?_some (hf k hkn).1).2.1,q,_,(hf k hkn).2⟩
end
end Go.Afx
namespace Go.Afx
open Go.RowKit
structure Kept (F:Nat→Prop) (w w':World):Prop where
 size:w.heap.size≤w'.heap.size
 block:∀ k,k<w.heap.size→F k→w'.heap[k]?=w.heap[k]?
section
variable {F F' S:Nat→Prop} {w w' w2:World}
theorem Kept.refl (F:Nat→Prop) (w:World):Kept F w w:=⟨Nat.le_refl _,fun _ _ _=>rfl⟩
theorem Kept.trans (h:Kept F w w') (k:Kept F w' w2):Kept F w w2 :=
 ⟨Nat.le_trans h.size k.size,fun i hi hf=>(k.block i (Nat.lt_of_lt_of_le hi h.size) hf).trans (h.block i hi hf)⟩
theorem Kept.of_below (h:Below w.heap.size w w'):Kept F w w':=⟨h.size,fun i hi _=>h.block i hi⟩
theorem Kept.aN (h:But S w w') (hd:∀ k,F k→¬ S k):Kept F w w':=⟨h.size,fun i hi hf=>h.block i hi (hd i hf)⟩
theorem Kept.sub (h:Kept F' w w') (hF:∀ k,F k→F' k):Kept F w w':=⟨h.size,fun i hi hf=>h.block i hi (hF i hf)⟩
end
def okI (x:Int):Prop:=-9223372036854775808≤x∧x≤9223372036854775807
def okS (s:ByteArray):Prop:=s.size≤9223372036854775807
def ai {α:Type} (F:Nat→Prop) (w:World) (sz:Nat) (P:List Value→α→Prop) (A:Option Addr) (n c:Nat) (xs:List α):Prop :=
 ∃ rows,az w sz A n c rows∧(∀ a,A=some a→0<n→F a.block)∧rows.length=xs.length∧∀ (k:Nat) (r:List Value) (x:α),rows[k]?=some r→xs[k]?=some x→r.length=sz∧P r x
section
variable {α:Type} {F F':Nat→Prop} {w w':World} {sz:Nat} {P P':List Value→α→Prop} {A:Option Addr} {n c:Nat} {xs:List α}
theorem ai.len (h:ai F w sz P A n c xs):xs.length=n:=by obtain⟨rows,hr,_,hl,_⟩:=h;rw[← hl,hr.len]
theorem ai.gu (h:ai F w sz P A n c xs):n≤9223372036854775807:=by obtain⟨rows,hr,_⟩:=h;exact hr.gu
theorem ai.n_c (h:ai F w sz P A n c xs):n≤c:=by obtain⟨rows,hr,_⟩:=h;exact hr.cap
theorem ai.amw (h:ai F w sz P A n c xs):c≤9223372036854775807:=by obtain⟨rows,hr,_⟩:=h;have:=hr.max;unfold maxLen at this;omega
theorem ai.nil_ (F:Nat→Prop) (w:World) (sz:Nat) (P:List Value→α→Prop):ai F w sz P none 0 0 [] :=
 ⟨[],az.nil_ w sz,(fun a h=>by cases h),rfl,(fun k r x h=>by simp at h)⟩
theorem ai.get (h:ai F w sz P A n c xs) {k:Nat} (hk:k<n) :
  ∃ b o r x,A=some ⟨b,o,none⟩∧b<w.heap.size∧F b∧xs[k]?=some x∧r.length=sz∧P r x∧∀ j u,r[j]?=some u→w.cell? ⟨b,o+k*sz+j,none⟩=some u:=by
 obtain⟨rows,hr,hF,hl,hp⟩:=h
 have hkr:k<rows.length:=by rw[hr.len];exact hk
 obtain⟨b,o,rfl,hb,hc⟩:=hr.at_ k _ (List.getElem?_eq_getElem hkr)
 obtain⟨h1,h2⟩:=hp k _ (xs[k]'(by omega)) (List.getElem?_eq_getElem hkr) (List.getElem?_eq_getElem _)
 exact⟨b,o,rows[k],xs[k]'(by omega),rfl,hb,hF ⟨b,o,none⟩ rfl (by omega),List.getElem?_eq_getElem _,h1,h2,hc⟩
theorem ai.conv (h:ai F w sz P A n c xs) (hk:Kept F w w') (hF:∀ a,A=some a→0<n→F a.block→F' a.block) (hP:∀ r x,x∈xs→P r x→P' r x):ai F' w' sz P' A n c xs:=by
 obtain⟨rows,hr,hF1,hl,hp⟩:=h
 refine⟨rows,⟨hr.len,hr.cap,hr.max,fun k row hrow=>?_⟩,fun a ha h0=>hF a ha h0 (hF1 a ha h0),hl,fun k r x h1 h2=>⟨(hp k r x h1 h2).1,hP r x (List.mem_of_getElem? h2) (hp k r x h1 h2).2⟩⟩
 obtain⟨b,o,rfl,hb,hc⟩:=hr.at_ k row hrow
 have h0:0<n:=by have h1:=(List.getElem?_eq_some_iff.1 hrow).1;have h2:=hr.len;omega
 have hfb:F b:=hF1 ⟨b,o,none⟩ rfl h0
 exact⟨b,o,rfl,Nat.lt_of_lt_of_le hb hk.size,fun j u hu=>(World.cell?_of_block (a:=⟨b,o+k*sz+j,none⟩) (hk.block b hb hfb)).trans (hc j u hu)⟩
theorem ai.kept (h:ai F w sz P A n c xs) (hk:Kept F w w'):ai F w' sz P A n c xs:=h.conv hk (fun _ _ _ h=>h) fun _ _ _ h=>h
theorem ai.below (h:ai F w sz P A n c xs) (hb:Below w.heap.size w w'):ai F w' sz P A n c xs:=h.kept (Kept.of_below hb)
theorem ai.drewN (h:ai F w sz P A n c xs) (k:Nat):ai F (w.drewN k) sz P A n c xs:=h.below (below_drewN (Below.refl _ _) k)
theorem ai.lt (h:ai F w sz P A n c xs) (h0:0<n):∀ a,A=some a→a.block<w.heap.size:=by
 intro a ha
 obtain⟨b,o,r,x,hA,hb,_⟩:=h.get h0
 rw[hA] at ha
 injection ha with ha
 subst ha
 exact hb
end
def kD (r:List Value) (x:Int):Prop:=r=[.int .i64 x]∧okI x
def dL (r:List Value) (s:ByteArray):Prop:=r=[.string s]∧okS s
inductive Ex where
 | mk (op n:Int) (s name src:ByteArray) (args:List Ex)
def Ex.op:Ex→Int | .mk o _ _ _ _ _=>o
def Ex.n:Ex→Int | .mk _ n _ _ _ _=>n
def Ex.s:Ex→ByteArray | .mk _ _ s _ _ _=>s
def Ex.name:Ex→ByteArray | .mk _ _ _ n _ _=>n
def Ex.src:Ex→ByteArray | .mk _ _ _ _ s _=>s
def Ex.args:Ex→List Ex | .mk _ _ _ _ _ l=>l
theorem Ex.eta (e:Ex):e=.mk e.op e.n e.s e.name e.src e.args:=by cases e;rfl
theorem Ex.ext {a b:Ex} (h1:a.op=b.op) (h2:a.n=b.n) (h3:a.s=b.s) (h4:a.name=b.name) (h5:a.src=b.src) (h6:a.args=b.args):a=b:=by
 rw[a.eta,b.eta,h1,h2,h3,h4,h5,h6]
def aC (F:Nat→Prop):Nat→World→List Value→Ex→Prop
 | 0,_,_,_=>False
 | d+1,w,r,e=>okI e.op∧okI e.n∧okS e.s∧okS e.name∧okS e.src ∧
   ∃ A m c,r=[.int .i64 e.op,.int .i64 e.n,.string e.s,.string e.name,.string e.src,.slice A m c]∧ai F w 6 (aC F d w) A m c e.args
theorem aC.conv {F F':Nat→Prop} (hF:∀ k,F k→F' k) {w w':World} (hk:Kept F w w'):∀ (d:Nat) {d':Nat} {r:List Value} {e:Ex},d≤d'→aC F d w r e→aC F' d' w' r e:=by
 intro d
 induction d with
 | zero=>intro d' r e _ h;exact h.elim
 | succ d ih =>
  intro d' r e hd h
  obtain⟨d',rfl⟩:∃ k,d'=k+1:=⟨d'-1,by omega⟩
  obtain⟨h1,h2,h3,h4,h5,A,m,c,hr,hl⟩:=h
  exact⟨h1,h2,h3,h4,h5,A,m,c,hr,hl.conv hk (fun a _ _ h=>hF _ h) fun r x _ hx=>ih (by omega) hx⟩
theorem aC.kept {F:Nat→Prop} {w w':World} {d:Nat} {r:List Value} {e:Ex} (h:aC F d w r e) (hk:Kept F w w'):aC F d w' r e:=aC.conv (fun _ h=>h) hk d (Nat.le_refl _) h
theorem aC.below {F:Nat→Prop} {w w':World} {d:Nat} {r:List Value} {e:Ex} (h:aC F d w r e) (hb:Below w.heap.size w w'):aC F d w' r e:=h.kept (Kept.of_below hb)
theorem aC.len {F:Nat→Prop} {w:World} {d:Nat} {r:List Value} {e:Ex} (h:aC F d w r e):r.length=6:=by
 cases d with
 | zero=>exact h.elim
 | succ d=>obtain⟨_,_,_,_,_,A,m,c,rfl,_⟩:=h;rfl
theorem aC.one {F:Nat→Prop} {w:World} {d:Nat} {r:List Value} {e:Ex} (h:aC F d w r e):∀ u∈r,u.oneCell'=true:=by
 cases d with
 | zero=>exact h.elim
 | succ d =>
  obtain⟨_,_,_,_,_,A,m,c,rfl,_⟩:=h
  intro u hu
  simp only[List.mem_cons,List.not_mem_nil,or_false] at hu
  rcases hu with rfl|rfl|rfl|rfl|rfl|rfl<;>rfl
def aO (F:Nat→Prop) (d:Nat) (w:World) (A:Option Addr) (n c:Nat) (es:List Ex):Prop:=ai F w 6 (aC F d w) A n c es
theorem aO.conv {F F':Nat→Prop} (hF:∀ k,F k→F' k) {w w':World} (hk:Kept F w w') {d d':Nat} (hd:d≤d') {A:Option Addr} {n c:Nat} {es:List Ex} (h:aO F d w A n c es):aO F' d' w' A n c es :=
 ai.conv h hk (fun _ _ _ h=>hF _ h) fun _ _ _ hx=>aC.conv hF hk d hd hx
theorem aO.kept {F:Nat→Prop} {w w':World} {d:Nat} {A:Option Addr} {n c:Nat} {es:List Ex} (h:aO F d w A n c es) (hk:Kept F w w'):aO F d w' A n c es:=aO.conv (fun _ h=>h) hk (Nat.le_refl _) h
theorem aO.below {F:Nat→Prop} {w w':World} {d:Nat} {A:Option Addr} {n c:Nat} {es:List Ex} (h:aO F d w A n c es) (hb:Below w.heap.size w w'):aO F d w' A n c es:=h.kept (Kept.of_below hb)
theorem aC.open_ {F:Nat→Prop} {d:Nat} {w:World} {r:List Value} {e:Ex} (h:aC F (d+1) w r e):okI e.op∧okI e.n∧okS e.s∧okS e.name∧okS e.src ∧
  ∃ A m c,r=[.int .i64 e.op,.int .i64 e.n,.string e.s,.string e.name,.string e.src,.slice A m c]∧aO F d w A m c e.args:=h
theorem aO.get {F:Nat→Prop} {d:Nat} {w:World} {A:Option Addr} {n c:Nat} {es:List Ex} (h:aO F (d+1) w A n c es) {k:Nat} (hk:k<n) :
  ∃ b o e A2 m2 c2,A=some ⟨b,o,none⟩∧b<w.heap.size∧es[k]?=some e∧w.cell? ⟨b,o+k*6,none⟩=some (.int .i64 e.op)∧w.cell? ⟨b,o+k*6+1,none⟩=some (.int .i64 e.n) ∧
   w.cell? ⟨b,o+k*6+2,none⟩=some (.string e.s)∧w.cell? ⟨b,o+k*6+3,none⟩=some (.string e.name)∧w.cell? ⟨b,o+k*6+4,none⟩=some (.string e.src)∧w.cell? ⟨b,o+k*6+5,none⟩=some (.slice A2 m2 c2) ∧
   aC F (d+1) w [.int .i64 e.op,.int .i64 e.n,.string e.s,.string e.name,.string e.src,.slice A2 m2 c2] e∧okI e.op∧okI e.n∧okS e.s∧okS e.name∧okS e.src:=by
 obtain⟨b,o,r,e,hA,hb,_,he,hl,hp,hc⟩:=ai.get h hk
 obtain⟨h1,h2,h3,h4,h5,A2,m2,c2,rfl,h6⟩:=hp
 exact⟨b,o,e,A2,m2,c2,hA,hb,he,by simpa using hc 0 _ rfl,hc 1 _ rfl,hc 2 _ rfl,hc 3 _ rfl,hc 4 _ rfl,hc 5 _ rfl,⟨h1,h2,h3,h4,h5,A2,m2,c2,rfl,h6⟩,h1,h2,h3,h4,h5⟩
inductive St where
 | mk (op:Int) (name src:ByteArray) (n:Int) (cols:List ByteArray) (exprs:List Ex) (body els:List St)
def St.op:St→Int | .mk o _ _ _ _ _ _ _=>o
def St.name:St→ByteArray | .mk _ n _ _ _ _ _ _=>n
def St.src:St→ByteArray | .mk _ _ s _ _ _ _ _=>s
def St.n:St→Int | .mk _ _ _ n _ _ _ _=>n
def St.cols:St→List ByteArray | .mk _ _ _ _ c _ _ _=>c
def St.exprs:St→List Ex | .mk _ _ _ _ _ e _ _=>e
def St.body:St→List St | .mk _ _ _ _ _ _ b _=>b
def St.els:St→List St | .mk _ _ _ _ _ _ _ b=>b
theorem St.eta (e:St):e=.mk e.op e.name e.src e.n e.cols e.exprs e.body e.els:=by cases e;rfl
def bQ (F:Nat→Prop):Nat→World→List Value→St→Prop
 | 0,_,_,_=>False
 | d+1,w,r,x=>okI x.op∧okI x.n∧okS x.name∧okS x.src ∧
   ∃ Ac nc cc Ae ne ce Ab nb cb Al nl cl,r=[.int .i64 x.op,.string x.name,.string x.src,.int .i64 x.n,.slice Ac nc cc,.slice Ae ne ce,.slice Ab nb cb,.slice Al nl cl] ∧
    ai F w 1 dL Ac nc cc x.cols∧aO F d w Ae ne ce x.exprs∧ai F w 8 (bQ F d w) Ab nb cb x.body∧ai F w 8 (bQ F d w) Al nl cl x.els
theorem bQ.conv {F F':Nat→Prop} (hF:∀ k,F k→F' k) {w w':World} (hk:Kept F w w'):∀ (d:Nat) {d':Nat} {r:List Value} {e:St},d≤d'→bQ F d w r e→bQ F' d' w' r e:=by
 intro d
 induction d with
 | zero=>intro d' r e _ h;exact h.elim
 | succ d ih =>
  intro d' r e hd h
  obtain⟨d',rfl⟩:∃ k,d'=k+1:=⟨d'-1,by omega⟩
  obtain⟨h1,h2,h3,h4,Ac,nc,cc,Ae,ne,ce,Ab,nb,cb,Al,nl,cl,hr,k1,k2,k3,k4⟩:=h
  exact⟨h1,h2,h3,h4,Ac,nc,cc,Ae,ne,ce,Ab,nb,cb,Al,nl,cl,hr,k1.conv hk (fun _ _ _ h=>hF _ h) (fun _ _ _ h=>h),aO.conv hF hk (by omega) k2,
   k3.conv hk (fun _ _ _ h=>hF _ h) (fun _ _ _ hx=>ih (by omega) hx),k4.conv hk (fun _ _ _ h=>hF _ h) (fun _ _ _ hx=>ih (by omega) hx)⟩
theorem bQ.kept {F:Nat→Prop} {w w':World} {d:Nat} {r:List Value} {e:St} (h:bQ F d w r e) (hk:Kept F w w'):bQ F d w' r e:=bQ.conv (fun _ h=>h) hk d (Nat.le_refl _) h
theorem bQ.below {F:Nat→Prop} {w w':World} {d:Nat} {r:List Value} {e:St} (h:bQ F d w r e) (hb:Below w.heap.size w w'):bQ F d w' r e:=h.kept (Kept.of_below hb)
theorem bQ.len {F:Nat→Prop} {w:World} {d:Nat} {r:List Value} {e:St} (h:bQ F d w r e):r.length=8:=by
 cases d with
 | zero=>exact h.elim
 | succ d=>obtain⟨_,_,_,_,Ac,nc,cc,Ae,ne,ce,Ab,nb,cb,Al,nl,cl,rfl,_⟩:=h;rfl
theorem bQ.one {F:Nat→Prop} {w:World} {d:Nat} {r:List Value} {e:St} (h:bQ F d w r e):∀ u∈r,u.oneCell'=true:=by
 cases d with
 | zero=>exact h.elim
 | succ d =>
  obtain⟨_,_,_,_,Ac,nc,cc,Ae,ne,ce,Ab,nb,cb,Al,nl,cl,rfl,_⟩:=h
  intro u hu
  simp only[List.mem_cons,List.not_mem_nil,or_false] at hu
  rcases hu with rfl|rfl|rfl|rfl|rfl|rfl|rfl|rfl<;>rfl
def aP (F:Nat→Prop) (d:Nat) (w:World) (A:Option Addr) (n c:Nat) (es:List St):Prop:=ai F w 8 (bQ F d w) A n c es
theorem aP.conv {F F':Nat→Prop} (hF:∀ k,F k→F' k) {w w':World} (hk:Kept F w w') {d d':Nat} (hd:d≤d') {A:Option Addr} {n c:Nat} {es:List St} (h:aP F d w A n c es):aP F' d' w' A n c es :=
 ai.conv h hk (fun _ _ _ h=>hF _ h) fun _ _ _ hx=>bQ.conv hF hk d hd hx
theorem aP.kept {F:Nat→Prop} {w w':World} {d:Nat} {A:Option Addr} {n c:Nat} {es:List St} (h:aP F d w A n c es) (hk:Kept F w w'):aP F d w' A n c es:=aP.conv (fun _ h=>h) hk (Nat.le_refl _) h
theorem aP.below {F:Nat→Prop} {w w':World} {d:Nat} {A:Option Addr} {n c:Nat} {es:List St} (h:aP F d w A n c es) (hb:Below w.heap.size w w'):aP F d w' A n c es:=h.kept (Kept.of_below hb)
theorem bQ.open_ {F:Nat→Prop} {d:Nat} {w:World} {r:List Value} {x:St} (h:bQ F (d+1) w r x):okI x.op∧okI x.n∧okS x.name∧okS x.src ∧
  ∃ Ac nc cc Ae ne ce Ab nb cb Al nl cl,r=[.int .i64 x.op,.string x.name,.string x.src,.int .i64 x.n,.slice Ac nc cc,.slice Ae ne ce,.slice Ab nb cb,.slice Al nl cl] ∧
   ai F w 1 dL Ac nc cc x.cols∧aO F d w Ae ne ce x.exprs∧aP F d w Ab nb cb x.body∧aP F d w Al nl cl x.els:=h
theorem aP.get {F:Nat→Prop} {d:Nat} {w:World} {A:Option Addr} {n c:Nat} {es:List St} (h:aP F (d+1) w A n c es) {k:Nat} (hk:k<n) :
  ∃ b o x Ac nc cc Ae ne ce Ab nb cb Al nl cl,A=some ⟨b,o,none⟩∧b<w.heap.size∧es[k]?=some x∧w.cell? ⟨b,o+k*8,none⟩=some (.int .i64 x.op)∧w.cell? ⟨b,o+k*8+1,none⟩=some (.string x.name) ∧
   w.cell? ⟨b,o+k*8+2,none⟩=some (.string x.src)∧w.cell? ⟨b,o+k*8+3,none⟩=some (.int .i64 x.n)∧w.cell? ⟨b,o+k*8+4,none⟩=some (.slice Ac nc cc)∧w.cell? ⟨b,o+k*8+5,none⟩=some (.slice Ae ne ce) ∧
   w.cell? ⟨b,o+k*8+6,none⟩=some (.slice Ab nb cb)∧w.cell? ⟨b,o+k*8+7,none⟩=some (.slice Al nl cl) ∧
   bQ F (d+1) w [.int .i64 x.op,.string x.name,.string x.src,.int .i64 x.n,.slice Ac nc cc,.slice Ae ne ce,.slice Ab nb cb,.slice Al nl cl] x ∧
   okI x.op∧okI x.n∧okS x.name∧okS x.src∧ai F w 1 dL Ac nc cc x.cols∧aO F d w Ae ne ce x.exprs∧aP F d w Ab nb cb x.body∧aP F d w Al nl cl x.els:=by
 obtain⟨b,o,r,x,hA,hb,_,he,hl,hp,hc⟩:=ai.get h hk
 have hp':=hp
 obtain⟨h1,h2,h3,h4,Ac,nc,cc,Ae,ne,ce,Ab,nb,cb,Al,nl,cl,rfl,k1,k2,k3,k4⟩:=hp
 exact⟨b,o,x,Ac,nc,cc,Ae,ne,ce,Ab,nb,cb,Al,nl,cl,hA,hb,he,by simpa using hc 0 _ rfl,hc 1 _ rfl,hc 2 _ rfl,hc 3 _ rfl,hc 4 _ rfl,hc 5 _ rfl,hc 6 _ rfl,hc 7 _ rfl,hp',h1,h2,h3,h4,k1,k2,k3,k4⟩
end Go.Afx
namespace Go.Afx
open Go.RowKit Go.ChangeShapes Go.WideShapes Go.Deep
section
variable {H:Type} {enc:TypeId×Value→H} {P:Program} {w:World} {base:Nat} {spare:Nat→Bool} {held:Bool}
theorem NQ {α:Type} (Q:List Value→α→Prop):∀ {rows:List (List Value)},(∀ r∈rows,∃ x,Q r x)→∃ xs:List α,rows.length=xs.length∧∀ (k:Nat) (r:List Value) (x:α),rows[k]?=some r→xs[k]?=some x→Q r x:=by
 intro rows
 induction rows with
 | nil=>exact fun _=>⟨[],rfl,fun k r x h=>by simp at h⟩
 | cons r rows ih =>
  intro h
  obtain⟨x,hx⟩:=h r (by simp)
  obtain⟨xs,hl,hh⟩:=ih fun r hr=>h r (by simp[hr])
  refine⟨x::xs,by simp[hl],fun k r' x' h1 h2=>?_⟩
  cases k with
  | zero=>simp at h1 h2;subst h1 h2;exact hx
  | succ k=>exact hh k r' x' (by simpa using h1) (by simpa using h2)
def Old (w:World):Nat→Prop:=fun b=>b<w.heap.size
theorem qo {α:Type} {t e:TypeId} {sz fuel n c:Nat} {A:Option Addr} {x:DataW H×List MemPlace} (ht:P.underlying t=some (.slice e)) (hsz:P.cellsOf e=sz) (hpos:0<sz) (Q:List Value→α→Prop)
  (hQ:∀ (r:List Value) (m:Nat) (y:DataW H×List MemPlace),r.length=sz→DataW.trod enc P w base spare held m e r=some y→∃ x,Q r x)
  (h:DataW.trod enc P w base spare held fuel t [.slice A n c]=some x):∃ xs:List α,ai (Old w) w sz Q A n c xs:=by
 obtain⟨rows,hr,hrow⟩:=LY ht hsz hpos h
 obtain⟨xs,hl,hh⟩:=NQ Q (rows:=rows) fun r hr=>by
  obtain⟨k,hk⟩:=List.mem_iff_getElem?.1 hr
  obtain⟨h1,m,y,h2⟩:=hrow k r hk
  exact hQ r m y h1 h2
 refine⟨xs,rows,hr,fun a ha h0=>?_,hl,fun k r x h1 h2=>⟨(hrow k r h1).1,hh k r x h1 h2⟩⟩
 obtain⟨b,o,hA,hb,_⟩:=hr.at_ 0 _ (List.getElem?_eq_getElem (by rw[hr.len];exact h0))
 rw[ha] at hA
 injection hA with hA
 subst hA
 exact hb
theorem Sv {k:Int} (h:(Lit.int .i64 k).wf=true):okI k:=by
 simp[Lit.wf,IntKind.min,IntKind.max,IntKind.signed,IntKind.bits] at h
 exact h
theorem LZ {t e:TypeId} {fuel n c:Nat} {A:Option Addr} {x:DataW H×List MemPlace} (ht:P.underlying t=some (.slice e)) (he:P.underlying e=some (.int .i64)) (hsz:P.cellsOf e=1)
  (h:DataW.trod enc P w base spare held fuel t [.slice A n c]=some x):∃ xs:List Int,ai (Old w) w 1 kD A n c xs :=
 qo ht hsz (by omega) kD (fun r m y hr hy=>by
  obtain⟨k,rfl,_,hk⟩:=DataW.trod_int he hy
  exact⟨k,rfl,Sv hk⟩) h
theorem L6 {t e:TypeId} {fuel n c:Nat} {A:Option Addr} {x:DataW H×List MemPlace} (ht:P.underlying t=some (.slice e)) (he:P.underlying e=some .string) (hsz:P.cellsOf e=1)
  (h:DataW.trod enc P w base spare held fuel t [.slice A n c]=some x):∃ xs:List ByteArray,ai (Old w) w 1 dL A n c xs :=
 qo ht hsz (by omega) dL (fun r m y hr hy=>by
  obtain⟨s,rfl,_,hk⟩:=DataW.trod_string he hy
  exact⟨s,rfl,hk⟩) h
end
end Go.Afx

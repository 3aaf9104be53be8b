/- Parts of this proof, one behind the other: Mem, Read. -/
import Derived.Below
import Derived.Laws.OwnMore
import Derived.Deep.AppendLies
import Derived.Deep.AppendSrc
import Derived.Deep.Draws
import Derived.WalkKit
import Derived.Deep.Slices
import Derived.ChangeSame
set_option maxRecDepth 1000000
set_option maxHeartbeats 40000000
namespace Go.Afx
open Go.RowKit
theorem Lhd {p:Prop} (h:p):RowKit.Hid p:=h
structure RowsAt (w:World) (sz:Nat) (A:Option Addr) (n c:Nat) (xs:List (List Value)):Prop where
 len:xs.length=n
 cap:n≤c
 max:c≤maxLen
 at_:∀ k row,xs[k]?=some row→∃ b o,A=some ⟨b,o,none⟩∧b<w.heap.size∧∀ j u,row[j]?=some u→w.cell? ⟨b,o+k*sz+j,none⟩=some u
section
variable {w w':World} {sz:Nat} {A:Option Addr} {n c:Nat} {xs:List (List Value)}
theorem RowsAt.keep (h:RowsAt w sz A n c xs) (hs:w.heap.size≤w'.heap.size) (hk:∀ p:Addr,p.block<w.heap.size→A.map (·.block)=some p.block→w'.cell? p=w.cell? p):RowsAt w' sz A n c xs :=
 ⟨h.len,h.cap,h.max,fun k row hr=>by
  obtain⟨b,o,rfl,hb,hc⟩:=h.at_ k row hr
  exact⟨b,o,rfl,by omega,fun j u hu=>(hk _ hb (by simp)).trans (hc j u hu)⟩⟩
theorem RowsAt.below (h:RowsAt w sz A n c xs) (hb:Below w.heap.size w w'):RowsAt w' sz A n c xs:=h.keep hb.size fun p hp _=>hb.cell (p:=p) hp
theorem RowsAt.drewN (h:RowsAt w sz A n c xs) (k:Nat):RowsAt (w.drewN k) sz A n c xs:=⟨h.len,h.cap,h.max,h.at_⟩
theorem RowsAt.nil_ (w:World) (sz:Nat):RowsAt w sz none 0 0 []:=⟨rfl,Nat.le_refl _,Nat.zero_le _,fun k row h=>by simp at h⟩
theorem RowsAt.n_le (h:RowsAt w sz A n c xs):n≤9223372036854775807:=by have:=h.cap;have:=h.max;unfold maxLen at this;omega
theorem RowsAt.two (h:RowsAt w 2 A n c xs) {k:Nat} {u v:Value} (hk:xs[k]?=some [u,v]) :
  ∃ b o,A=some ⟨b,o,none⟩∧b<w.heap.size∧w.cell? ⟨b,o+k*2,none⟩=some u∧w.cell? ⟨b,o+k*2+1,none⟩=some v:=by
 obtain⟨b,o,rfl,hb,hc⟩:=h.at_ k _ hk
 exact⟨b,o,rfl,hb,by simpa using hc 0 u rfl,hc 1 v rfl⟩
theorem RowsAt.one (h:RowsAt w 1 A n c xs) {k:Nat} {u:Value} (hk:xs[k]?=some [u]) :
  ∃ b o,A=some ⟨b,o,none⟩∧b<w.heap.size∧w.cell? ⟨b,o+k,none⟩=some u:=by
 obtain⟨b,o,rfl,hb,hc⟩:=h.at_ k _ hk
 exact⟨b,o,rfl,hb,by simpa using hc 0 u rfl⟩
end
theorem flatten_get (xs:List (List Value)) (sz:Nat):(∀ r∈xs,r.length=sz)→∀ k j,j<sz→xs.flatten[k*sz+j]?=(xs[k]?).bind (·[j]?):=by
 induction xs with
 | nil=>intro _ k j _;simp
 | cons r xs ih =>
  intro h k j hj
  have hr:r.length=sz:=h r (by simp)
  rw[List.flatten_cons]
  cases k with
  | zero=>rw[List.getElem?_append_left (by omega)];simp
  | succ k =>
   rw[List.getElem?_append_right (by rw[hr,Nat.succ_mul];omega),hr]
   have e:(k+1)*sz+j-sz=k*sz+j:=by rw[Nat.succ_mul];omega
   rw[e,ih (fun r hr=>h r (by simp[hr])) k j hj]
   simp
theorem flatten_length (xs:List (List Value)) (sz:Nat) (h:∀ r∈xs,r.length=sz):xs.flatten.length=xs.length*sz:=by
 induction xs with
 | nil=>simp
 | cons r xs ih=>rw[List.flatten_cons,List.length_append,ih (fun r hr=>h r (by simp[hr])),h r (by simp),List.length_cons,Nat.succ_mul];omega
theorem RowsAt.of_own {w:World} {base:Nat} {e:TypeId} {sz:Nat} {A:Option Addr} {n c:Nat} {xs:List (List Value)} (h:w.ownsRow base e sz (.slice A n c) n xs.flatten) (hx:∀ r∈xs,r.length=sz) (hn:xs.length=n):RowsAt w sz A n c xs:=by
 rcases h.2 with ⟨hv,h0⟩|⟨g,cap,cur,hv,hb,hg,hnc,hcm,hcs,ht⟩
 ·injection hv with h1 h2 h3
  subst h1 h2 h3
  have:xs=[]:=List.eq_nil_of_length_eq_zero hn
  subst this
  exact RowsAt.nil_ w sz
 ·injection hv with h1 h2 h3
  subst h1 h3
  refine⟨hn,hnc,hcm,fun k row hr=>⟨g,0,rfl,(Array.getElem?_eq_some_iff.1 hg).1,fun j u hu=>?_⟩⟩
  have hj:j<sz:=by
   have:=hx row (List.mem_of_getElem? hr)
   have:=(List.getElem?_eq_some_iff.1 hu).1
   omega
  have hc:=h.cells (g:=g) rfl (k*sz+j) u (by rw[flatten_get xs sz hx k j hj,hr];exact hu)
  rw[Addr.add] at hc
  split at hc
  ·rename_i h0
   have:k*sz=0∧j=0:=by omega
   rw[this.1,this.2];exact hc
  ·simpa [Nat.add_assoc] using hc
def IsBlk (w:World) (g:Nat) (t:TypeId) (cs:Array Value):Prop:=w.heap[g]?=some (.cells cs t (0,0))
section
variable {w w':World} {g:Nat} {t:TypeId} {cs:Array Value}
theorem IsBlk.lt (h:IsBlk w g t cs):g<w.heap.size:=(Array.getElem?_eq_some_iff.1 h).1
theorem IsBlk.cell (h:IsBlk w g t cs) (i:Nat):w.cell? ⟨g,i,none⟩=cs[i]?:=by
 unfold IsBlk at h;unfold World.cell?;rw[h];rfl
theorem IsBlk.frozen (h:IsBlk w g t cs) (i:Nat):w.frozen? ⟨g,i,none⟩=false:=by
 unfold IsBlk at h;unfold World.frozen?;rw[h];simp
theorem IsBlk.laid (w:World) (t:TypeId) (cs:Array Value):IsBlk (w.alloc (.cells cs t)) w.heap.size t cs:=by
 show (w.heap.push _)[w.heap.size]?=_
 rw[Array.getElem?_push,if_pos rfl]
theorem IsBlk.as_was (h:IsBlk w g t cs) (e:w'.heap[g]?=w.heap[g]?):IsBlk w' g t cs:=e.trans h
theorem IsBlk.alloc (h:IsBlk w g t cs) (o:Obj):IsBlk (w.alloc o) g t cs:=h.as_was (Below.heap_alloc w o g h.lt)
theorem IsBlk.stored (h:IsBlk w g t cs) (i:Nat) (u:Value):IsBlk (w.setCell ⟨g,i,none⟩ u) g t (cs.setIfInBounds i u):=by
 unfold IsBlk at h ⊢
 unfold World.setCell
 rw[Array.getElem?_modify,if_pos rfl,h];rfl
theorem IsBlk.elsewhere (h:IsBlk w g t cs) {p:Addr} (hp:g≠p.block) (u:Value):IsBlk (w.setCell p u) g t cs:=h.as_was (Below.heap_setCell w p u g hp)
end
theorem old_reads {a b:World} (h:Below a.heap.size a b):(∀ g i,g<a.heap.size→b.cell? ⟨g,i,none⟩=a.cell? ⟨g,i,none⟩)∧∀ g i,g<a.heap.size→b.frozen? ⟨g,i,none⟩=a.frozen? ⟨g,i,none⟩ :=
 And.intro (fun g i hg=>Below.cell h (p:=Addr.mk g i none) hg) (fun g i hg=>Below.frozen h (p:=Addr.mk g i none) hg)
theorem below_drewN {B:Nat} {a w:World} (h:Below B a w) (n:Nat):Below B a (w.drewN n):=⟨h.os,h.tape,h.output,h.size,h.block⟩
structure But (S:Nat→Prop) (w w':World):Prop where
 os:w'.os=w.os
 tape:w'.tape=w.tape
 output:w'.output=w.output
 size:w.heap.size≤w'.heap.size
 block:∀ k,k<w.heap.size→¬ S k→w'.heap[k]?=w.heap[k]?
section
variable {S S':Nat→Prop} {a b c w w':World}
theorem But.refl (S:Nat→Prop) (w:World):But S w w:=⟨rfl,rfl,rfl,Nat.le_refl _,fun _ _ _=>rfl⟩
theorem But.trans (h:But S a b) (k:But S' b c) (hS:∀ i,S' i→S i∨a.heap.size≤i):But S a c :=
 ⟨k.os.trans h.os,k.tape.trans h.tape,k.output.trans h.output,Nat.le_trans h.size k.size,fun i hi hn =>
  (k.block i (Nat.lt_of_lt_of_le hi h.size) (fun hs=>(hS i hs).elim hn (by omega))).trans (h.block i hi hn)⟩
theorem But.trans' (h:But S a b) (k:But S b c):But S a c:=h.trans k fun _ hs=>.inl hs
theorem But.mono (h:But S a b) (hS:∀ i,S i→S' i∨a.heap.size≤i):But S' a b :=
 ⟨h.os,h.tape,h.output,h.size,fun i hi hn=>h.block i hi (fun hs=>(hS i hs).elim hn (by omega))⟩
theorem But.of_below (h:Below w.heap.size w w'):But S w w':=⟨h.os,h.tape,h.output,h.size,fun i hi _=>h.block i hi⟩
theorem But.below (h:But S w w') (hS:∀ i,S i→w.heap.size≤i):Below w.heap.size w w':=⟨h.os,h.tape,h.output,h.size,fun i hi=>h.block i hi (fun hs=>by have:=hS i hs;omega)⟩
theorem But.below' {B:Nat} (h:But S w w') (hB:B≤w.heap.size) (hS:∀ i,S i→B≤i):Below B w w':=⟨h.os,h.tape,h.output,h.size,fun i hi=>h.block i (by omega) (fun hs=>by have:=hS i hs;omega)⟩
theorem But.drew (h:But S a w):But S a w.drew:=⟨h.os,h.tape,h.output,h.size,h.block⟩
theorem But.drewN (h:But S a w) (n:Nat):But S a (w.drewN n):=⟨h.os,h.tape,h.output,h.size,h.block⟩
theorem But.alloc (h:But S a w) (o:Obj):But S a (w.alloc o) :=
 h.trans (S':=fun _=>False) ⟨rfl,rfl,rfl,by simp,fun k hk _=>Below.heap_alloc _ _ _ hk⟩ (fun _ hf=>hf.elim)
theorem But.setCell (h:But S a w) {p:Addr} (hp:S p.block∨a.heap.size≤p.block) (u:Value):But S a (w.setCell p u) :=
 h.trans (S':=fun k=>k=p.block) ⟨rfl,rfl,rfl,by simp[World.setCell],fun k _ hn=>Below.heap_setCell _ _ _ _ hn⟩ (fun i hi=>by subst hi;exact hp)
theorem But.grown {row:Option Nat} (h:But S a w) (hg:w.grownBy w' row) (hr:∀ k,row=some k→S k∨a.heap.size≤k):But S a w' :=
 h.trans (S':=fun k=>row=some k) ⟨hg.os,hg.tape,hg.output,hg.size,fun k hk hn=>hg.block k hk (fun e=>hn e.symm)⟩ (fun i hi=>hr i hi)
theorem But.cell (h:But S w w') {p:Addr} (hp:p.block<w.heap.size) (hn:¬ S p.block):w'.cell? p=w.cell? p:=World.cell?_of_block (w:=w) (h.block p.block hp hn)
theorem But.frozen (h:But S w w') {p:Addr} (hp:p.block<w.heap.size) (hn:¬ S p.block):w'.frozen? p=w.frozen? p:=World.frozen?_of_block (w:=w) (h.block p.block hp hn)
theorem But.then_below (h:But S a w) (hb:Below w.heap.size w w'):But S a w':=h.trans (S':=fun _=>False) (But.of_below hb) (fun _ hf=>hf.elim)
end
theorem RowsAt.but {w w':World} {S:Nat→Prop} {sz:Nat} {A:Option Addr} {n c:Nat} {xs:List (List Value)} (h:RowsAt w sz A n c xs) (hb:But S w w') (hA:∀ a,A=some a→0<n→¬ S a.block):RowsAt w' sz A n c xs :=
 ⟨h.len,h.cap,h.max,fun k row hr=>by
  obtain⟨b,o,rfl,hlt,hc⟩:=h.at_ k row hr
  have hn:0<n:=by have:=(List.getElem?_eq_some_iff.1 hr).1;have:=h.len;omega
  exact⟨b,o,rfl,Nat.lt_of_lt_of_le hlt hb.size,fun j u hu=>(hb.cell (p:=⟨b,o+k*sz+j,none⟩) hlt (hA ⟨b,o,none⟩ rfl hn)).trans (hc j u hu)⟩⟩
theorem own_but {w w':World} {S:Nat→Prop} {base:Nat} {e:TypeId} {sz:Nat} {v:Value} {n:Nat} {xs:List Value} (h:w.ownsRow base e sz v n xs) (hb:But S w w') (hS:∀ g,v.ownBlock=some g→¬ S g):w'.ownsRow base e sz v n xs:=by
 refine⟨h.1,?_⟩
 rcases h.2 with hn|⟨g,cap,cur,rfl,hbg,hgg,rest⟩
 ·exact .inl hn
 ·exact .inr ⟨g,cap,cur,rfl,hbg,(hb.block g (Array.getElem?_eq_some_iff.1 hgg).1 (hS g rfl)).trans hgg,rest⟩
theorem own_below {w w':World} {base:Nat} {e:TypeId} {sz:Nat} {v:Value} {n:Nat} {xs:List Value} (h:w.ownsRow base e sz v n xs) (hb:Below w.heap.size w w'):w'.ownsRow base e sz v n xs :=
 own_but h (But.of_below (S:=fun _=>False) hb) (fun _ _ hf=>hf)
theorem own_base {w:World} {base base':Nat} {e:TypeId} {sz:Nat} {v:Value} {n:Nat} {xs:List Value} (h:w.ownsRow base e sz v n xs) (hb:base'≤base):w.ownsRow base' e sz v n xs:=by
 refine⟨h.1,?_⟩
 rcases h.2 with hn|⟨g,cap,cur,rfl,hbg,rest⟩
 ·exact .inl hn
 ·exact .inr ⟨g,cap,cur,rfl,by omega,rest⟩
structure ElemTy (P:Program) (t e:TypeId) (sz bytes:Nat) (z:Value):Prop where
 und:P.underlying t=some (.slice e)
 info:(P.info? e).map (fun i=>(i.zero,i.size,i.bytes))=some (some z,sz,bytes)
 zs:z.cells.size=sz
 pos:0<sz
theorem RowsAt.lit {w:World} {T:TypeId} {sz:Nat} (cs:Array Value) (rows:List (List Value)) (n:Nat) (hcs:cs.toList=rows.flatten) (hr:∀ r∈rows,r.length=sz) (hn:rows.length=n) (hm:n≤maxLen) :
  RowsAt (w.alloc (.cells cs T)) sz (some ⟨w.heap.size,0,none⟩) n n rows:=by
 have h:=World.ownsRow_lit (base:=0) (e:=T) (size:=sz) w cs n (Nat.zero_le _) hm (by rw[← Array.length_toList,hcs,flatten_length rows sz hr,hn])
 rw[hcs] at h
 exact RowsAt.of_own h hr hn
theorem RowsAt.lit' {w:World} {T:TypeId} {sz g:Nat} (cs:Array Value) (rows:List (List Value)) (n:Nat) (hg:g=w.heap.size) (hcs:cs.toList=rows.flatten) (hr:∀ r∈rows,r.length=sz) (hn:rows.length=n) (hm:n≤maxLen) :
  RowsAt (w.alloc (.cells cs T)) sz (some ⟨g,0,none⟩) n n rows:=by subst hg;exact RowsAt.lit cs rows n hcs hr hn hm
theorem RowsAt.cellsAt {w:World} {sz:Nat} {b o n c:Nat} {xs:List (List Value)} (h:RowsAt w sz (some ⟨b,o,none⟩) n c xs) (hx:∀ r∈xs,r.length=sz) (hs:0<sz) (j:Nat) (u:Value) (hj:xs.flatten[j]?=some u):w.cell? ((⟨b,o,none⟩:Addr).add j)=some u:=by
 have e:j=(j / sz)*sz+j % sz:=by have:=Nat.div_add_mod j sz;rw[Nat.mul_comm] at this;omega
 have hm:j % sz<sz:=Nat.mod_lt _ hs
 rw[e,flatten_get xs sz hx _ _ hm] at hj
 obtain⟨row,hr,hu⟩:=Option.bind_eq_some_iff.1 hj
 obtain⟨b',o',hA,_,hc⟩:=h.at_ _ row hr
 obtain⟨rfl,rfl⟩:b=b'∧o=o':=by simpa using hA
 have hc':=hc _ u hu
 have e2:o+j / sz*sz+j % sz=o+j:=by omega
 rw[e2] at hc'
 unfold Addr.add
 split
 ·rename_i h0;subst h0;simpa using hc'
 ·exact hc'
theorem ownsRow_form {w:World} {base:Nat} {e:TypeId} {sz:Nat} {v:Value} {n:Nat} {xs:List Value} (h:w.ownsRow base e sz v n xs):∃ A c,v=.slice A n c∧n≤c:=by
 rcases h.2 with ⟨rfl,rfl⟩|⟨g,cap,cur,rfl,_,_,hnc,_⟩
 ·exact⟨_,_,rfl,Nat.le_refl _⟩
 ·exact⟨_,_,rfl,hnc⟩
theorem ElemTy.at_ {P:Program} {t e:TypeId} {sz bytes:Nat} {z:Value} (hT:ElemTy P t e sz bytes z):∃ i,P.info? e=some i∧i.zero=some z∧i.size=sz∧i.bytes=bytes:=by
 have:=hT.info
 cases hi:P.info? e with
 | none=>rw[hi] at this;cases this
 | some i =>
  rw[hi] at this
  simp only[Option.map_some,Option.some.injEq,Prod.mk.injEq] at this
  exact⟨i,rfl,this.1,this.2.1,this.2.2⟩
theorem run_app {P:Program} {w:World} {t:TypeId} (ty:TypeId) {base:Nat} {e:TypeId} {sz bytes:Nat} {z:Value} (hT:ElemTy P t e sz bytes z)
  {A:Option Addr} {n c:Nat} {xs:List (List Value)} (hown:w.ownsRow base e sz (.slice A n c) n xs.flatten)
  {A':Option Addr} {m c':Nat} {news:List (List Value)} (hnews:RowsAt w sz A' m c' news) (hlen:∀ r∈news,r.length=sz) (h1:∀ r∈news,∀ u∈r,u.oneCell'=true)
  (h63:n+m≤maxLen) (hbytes:(n+m)*bytes≤140737488355328) (hbase:base≤w.heap.size) :
  ∃ A2 c2 w',(Builtin.append_ #[t,t] ty #[.slice A n c,.slice A' m c']).run P w=.ok (.slice A2 (n+m) c2) w'∧w'.ownsRow base e sz (.slice A2 (n+m) c2) (n+m) (xs++news).flatten ∧
   But (fun k=>A.map (·.block)=some k) w w'∧(∀ a2,A2=some a2→A=some a2∨w.heap.size≤a2.block):=by
 obtain⟨i,hi,hz,hsz,hby⟩:=hT.at_
 have hnl:news.length=m:=hnews.len
 cases A' with
 | none =>
  have hm:m=0:=by
   rcases Nat.eq_zero_or_pos m with h0|h0
   ·exact h0
   ·obtain⟨b,o',hA,_⟩:=hnews.at_ 0 _ (List.getElem?_eq_getElem (by omega))
    cases hA
  subst hm
  have hn0:news=[]:=List.eq_nil_of_length_eq_zero hnl
  subst hn0
  refine⟨A,c,w,?_,by simpa using hown,But.refl _ _,fun a2 ha=>.inl ha⟩
  rcases hown.2 with ⟨hv,rfl⟩|⟨g,cap,cur,hv,_,_,hnc,_⟩
  ·injection hv with e1 e2 e3
   subst e1 e3
   simp[Builtin.append_,run_underlying hT.und,sizeOf,typeInfo,hi,Builtin.lenOf,Builtin.firstCells]
  ·injection hv with e1 e2 e3
   subst e1 e3
   simp[Builtin.append_,run_underlying hT.und,sizeOf,typeInfo,hi,Builtin.lenOf,Builtin.firstCells,hnc,storeCells]
 | some ad =>
  have hfl:news.flatten.length=m*sz:=by rw[flatten_length news sz hlen,hnl]
  have hcells:∀ j u,news.flatten[j]?=some u→w.cell? (ad.add j)=some u:=by
   intro j u hj
   have hm0:0<m:=by
    rcases Nat.eq_zero_or_pos m with h0|h0
    ·have:news=[]:=List.eq_nil_of_length_eq_zero (by omega)
     subst this;simp at hj
    ·exact h0
   obtain⟨b,o',hA,_,_⟩:=hnews.at_ 0 _ (List.getElem?_eq_getElem (by omega))
   injection hA with hA
   subst hA
   exact hnews.cellsAt hlen hT.pos j u hj
  have h1':∀ u∈news.flatten,u.oneCell'=true:=fun u hu=>by obtain⟨r,hr,hu⟩:=List.mem_flatten.1 hu;exact h1 r hr u hu
  obtain⟨v',w',hr,hown',hg,hn⟩:=run_append_own (P:=P) w base t ty e i z sz bytes hT.und hi hz hsz hby hT.zs hT.pos (.slice A n c) n _ hown ad m c' news.flatten hfl hcells h1' h63 hbytes hbase
  obtain⟨A2,c2,rfl,_⟩:=ownsRow_form hown'
  refine⟨A2,c2,w',hr,by rw[List.flatten_append];exact hown',⟨hg.os,hg.tape,hg.output,hg.size,fun k hk hS=>hg.block k hk (fun e=>hS (by cases A<;>simp_all [Value.ownBlock]))⟩,?_⟩
  intro a2 ha2
  subst ha2
  subst hsz hby
  unfold maxLen at h63
  rcases hown.2 with ⟨hv,rfl⟩|⟨g,cap,cur,hv,hbg,hgg,hnc,hcm,_⟩
  ·injection hv with e1 e2 e3
   subst e1 e3
   rcases Nat.eq_zero_or_pos m with rfl|hm
   ·have:=hn.2 ⟨rfl,rfl⟩;cases this
   ·have hr2:=run_append_nil (P:=P) w t ty e i z hT.und hi hz ad m c' news.flatten hfl hcells hm (by omega) (by have hb:=hbytes;simp only[Nat.zero_add] at hb;omega)
    rw[hr2] at hr
    injection hr with e1 e2
    injection e1 with e1
    injection e1 with e1
    subst e1
    exact .inr (Nat.le_refl _)
  ·injection hv with e1 e2 e3
   subst e1 e3
   by_cases hroom:n+m≤c
   ·obtain⟨w2,hr2,_⟩:=run_append_fits (P:=P) w base t ty e i i.size hT.und hi rfl g n c xs.flatten hown ad m c' news.flatten hfl hcells h1' hroom
    rw[hr2] at hr
    injection hr with e1 e2
    injection e1 with e1
    exact .inl e1
   ·have holds:∀ j u,xs.flatten[j]?=some u→w.cell? ((⟨g,0,none⟩:Addr).add j)=some u:=hown.cells (g:=g) rfl
    have hr2:=run_append_grow (P:=P) w t ty e i z hT.und hi hz ⟨g,0,none⟩ n c xs.flatten hown.1 holds ad m c' news.flatten hfl hcells (by omega) (by omega) (growslice_fits (by omega) hbytes)
    rw[hr2] at hr
    injection hr with e1 e2
    injection e1 with e1
    injection e1 with e1
    subst e1
    exact .inr (Nat.le_refl _)
theorem wpList_app {P:Program} {w:World} {ops:Array Oper} {rest:List Oper} {o:Oper} {a:Act} {Q:Exit→Act→World→Prop} (hgd:o.guard=none) {s x:Operand} {t:TypeId}
  (ho:o.op=.call { callee:=.builtin .append,args:=#[s,x],argTypes:=#[t,t] })
  {base:Nat} {e:TypeId} {sz bytes:Nat} {z:Value} (hT:ElemTy P t e sz bytes z)
  {A:Option Addr} {n c:Nat} {xs:List (List Value)} (hs:a.eval s=.slice A n c) (hown:w.ownsRow base e sz (.slice A n c) n xs.flatten)
  {A':Option Addr} {m c':Nat} {news:List (List Value)} (hx:a.eval x=.slice A' m c') (hnews:RowsAt w sz A' m c' news) (hlen:∀ r∈news,r.length=sz) (h1:∀ r∈news,∀ u∈r,u.oneCell'=true)
  (h63:n+m≤maxLen) (hbytes:(n+m)*bytes≤140737488355328) (hbase:base≤w.heap.size)
  (h:∀ A2 c2 w',w'.ownsRow base e sz (.slice A2 (n+m) c2) (n+m) (xs++news).flatten→But (fun k=>A.map (·.block)=some k) w w'→(∀ a2,A2=some a2→A=some a2∨w.heap.size≤a2.block)→wpList P ops Q rest (a.put o.dst (.slice A2 (n+m) c2)) w'):wpList P ops Q (o::rest) a w:=by
 obtain⟨A2,c2,w',hr,hown',hb,hf⟩:=run_app (P:=P) o.type hT hown hnews hlen h1 h63 hbytes hbase
 refine wpList_plain hgd fun K hK=>?_
 unfold Oper.wp execOp
 simp only[ho,resolve,invoke,builtin,Sem.run_bind,Sem.run_pure,Result.andThen_ok,List.map_toArray,List.map_cons,List.map_nil,hs,hx,hr]
 exact hK _ _ (h A2 c2 w' hown' hb hf)
theorem ret_bool {a b:Bool} (h:a=b):Ending.returned (.bool a)=.returned (.bool b):=by rw[h]
theorem ret_int {k:IntKind} {a b:Int} (h:a=b):Ending.returned (.int k a)=.returned (.int k b):=by rw[h]
end Go.Afx
namespace Go.Afx
open Go.RowKit Go.ChangeShapes Go.WideShapes Go.Deep
section
variable {H:Type} {enc:TypeId×Value→H} {P:Program} {w:World} {base:Nat} {spare:Nat→Bool} {held:Bool}
theorem rows_of_trod {t e:TypeId} {sz fuel n c:Nat} {A:Option Addr} {x:DataW H×List MemPlace} (ht:P.underlying t=some (.slice e)) (hsz:P.cellsOf e=sz) (hpos:0<sz)
  (h:DataW.trod enc P w base spare held fuel t [.slice A n c]=some x) :
  ∃ rows,RowsAt w sz A n c rows∧∀ (k:Nat) (r:List Value),rows[k]?=some r→r.length=sz∧∃ m y,DataW.trod enc P w base spare held m e r=some y:=by
 rcases open_slice ht h with ⟨hcs,_⟩|⟨a,len,cap,m,q,D,Pl,hcs,_,hl,hm,hmm,_,hi⟩
 ·simp only[List.cons.injEq,Value.slice.injEq,and_true] at hcs
  obtain⟨rfl,rfl,rfl⟩:=hcs
  exact⟨[],RowsAt.nil_ w sz,fun k r hr=>by simp at hr⟩
 ·simp only[List.cons.injEq,Value.slice.injEq,and_true] at hcs
  obtain⟨rfl,rfl,rfl⟩:=hcs
  subst hsz
  have hle:n≤m:=by rw[hmm];split<;>omega
  have hall:∀ i,∃ r:List Value,i<n→w.cells? base (a.add (i*P.cellsOf e)) (P.cellsOf e)=some r∧DataW.trod enc P w base spare held q e r=some (D i,Pl i):=fun i=>by
   by_cases hin:i<n
   ·obtain⟨r,h1,h2⟩:=hi i (by omega)
    exact⟨r,fun _=>⟨h1,h2⟩⟩
   ·exact⟨[],fun h=>absurd h hin⟩
  obtain⟨f,hf⟩:∃ f:Nat→List Value,∀ i,i<n→w.cells? base (a.add (i*P.cellsOf e)) (P.cellsOf e)=some (f i)∧DataW.trod enc P w base spare held q e (f i)=some (D i,Pl i):=⟨fun i=>(hall i).choose,fun i=>(hall i).choose_spec⟩
  clear hall
  refine⟨(List.range n).map f,⟨by simp,hl,hm,fun k row hk=>?_⟩,fun k r hk=>?_⟩
  ·rw[List.getElem?_map] at hk
   obtain⟨i,hik,rfl⟩:=Option.map_eq_some_iff.1 hk
   have hkn:k<n:=by have:=(List.getElem?_eq_some_iff.1 hik).1;simpa using this
   rw[List.getElem?_range hkn] at hik
   injection hik with hik
   subst hik
   obtain⟨_,hcl,hat⟩:=World.cells?_some (hf k hkn).1
   obtain⟨_,hcl0,hat0⟩:=World.cells?_some (hf 0 (by omega)).1
   have h00:=hat0 0 hpos
   rw[List.getElem?_eq_getElem (by omega),Nat.zero_mul] at h00
   have ha0:(a.add 0).add 0=a:=by simp[Addr.add]
   rw[ha0] at h00
   obtain⟨b,o,s⟩:=a
   have hs:s=none:=by simpa using World.cell?_spot h00
   subst hs
   refine⟨b,o,rfl,World.block_lt_of_cell? w _ h00,fun j u hu=>?_⟩
   have hj:j<P.cellsOf e:=by have:=(List.getElem?_eq_some_iff.1 hu).1;omega
   have hc:=hat j hj
   rw[hu] at hc
   have e2:((⟨b,o,none⟩:Addr).add (k*P.cellsOf e)).add j=⟨b,o+k*P.cellsOf e+j,none⟩:=by
    unfold Addr.add
    by_cases h1:k*P.cellsOf e=0<;>by_cases h2:j=0<;>simp[h1,h2]
   rw[e2] at hc
   exact hc
  ·rw[List.getElem?_map] at hk
   obtain⟨i,hik,rfl⟩:=Option.map_eq_some_iff.1 hk
   have hkn:k<n:=by have:=(List.getElem?_eq_some_iff.1 hik).1;simpa using this
   rw[List.getElem?_range hkn] at hik
   injection hik with hik
   subst hik
   exact⟨(World.cells?_some (hf k hkn).1).2.1,q,_,(hf k hkn).2⟩
end
end Go.Afx

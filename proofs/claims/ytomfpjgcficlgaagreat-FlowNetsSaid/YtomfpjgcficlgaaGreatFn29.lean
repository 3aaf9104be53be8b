/- Parts of this proof, one behind the other: FloL, FloM. -/
import Derived.Test.YtomfpjgcficlgaaGreatFn28
set_option maxRecDepth 1000000
set_option maxHeartbeats 40000000
namespace Go.Proofs.YtomfpjgcficlgaaGreat
open Go.RowKit Go.Afx Go.Maps Go.Shelf Go.Sort
def onceN (xs:List ByteArray):List ByteArray:=(Lib.compact (sortedB xs)).map mkB
theorem compactC_any (base:Nat) (A:Option Addr) (n c:Nat) (xs:List ByteArray) (w:World) (hn:xs.length=n) (hbig:n≤1000000) (hown:w.ownsRow base 9 1 (.slice A n c) n ((sortedB xs).map encStr)) :
  Calls Tryz.prog 26 #[.slice A n c] w fun e w'=>e=.returned (.slice A (onceN xs).length c)∧NamesAt w' A (onceN xs).length c (onceN xs)∧RowKit.Below base w w':=by
 subst hn
 have hl:(sortedB xs).length=xs.length:=by rw[sortedB,List.length_mergeSort,bytesL_length]
 have hol:(onceN xs).length=(Lib.compact (sortedB xs)).length:=by unfold onceN;rw[List.length_map]
 rcases hown.2 with ⟨hv,h0⟩|⟨g,cap,cur,hv,hbg,hg,hnc,hcm,hcs,htk⟩
 ·injection hv with h1 h2 h3
  subst h1 h3
  have hx:xs=[]:=List.eq_nil_of_length_eq_zero h0
  subst hx
  refine(AnyG.slices_Compact_string_empty Tryz.compactS none 0 w).mono ?_
  rintro e w' ⟨rfl,rfl⟩
  have e0:onceN []=[]:=by simp[onceN,sortedB,bytesL,Lib.compact,Lib.compactUpTo]
  rw[e0]
  exact⟨rfl,RowsAt.nil_ _ _,RowKit.Below.refl _ _⟩
 ·injection hv with h1 h2 h3
  subst h1 h3
  have hlt:g<w.heap.size:=(Array.getElem?_eq_some_iff.1 hg).1
  have htk':cur.toList.take (sortedB xs).length=(sortedB xs).map encStr:=by rw[← htk,hl,Nat.mul_one]
  have hH:=holds_of_block hg htk'
  have hc:=AnyG.slices_Compact_string Tryz.compactS g 0 c (sortedB xs) w hH (by omega) (by omega)
  rw[hl] at hc
  refine hc.mono ?_
  rintro e w' ⟨rfl,q,rfl⟩
  have hcl:(Lib.compact (sortedB xs)).length≤xs.length:=by
   rw[← hl]
   unfold Lib.compact Lib.compactUpTo
   rw[List.length_map]
   exact Nat.le_trans (List.length_filter_le _ _) (by simp)
  refine⟨by rw[hol],?_,?_⟩
  ·have hH2:Holds encStr (putRow encStr (Sort.ahead w q) g 0 (Lib.compact (sortedB xs)++List.replicate (xs.length-(Lib.compact (sortedB xs)).length) []).toArray) g 0 (Lib.compact (sortedB xs)++List.replicate (xs.length-(Lib.compact (sortedB xs)).length) []).toArray :=
    holds_putRow encStr (Sort.ahead w q) g 0 (sortedB xs).toArray _ hH (by simp[hl];omega)
   refine⟨by simp,by omega,hcm,fun k row hr=>?_⟩
   unfold onceN at hr
   rw[List.map_map,List.getElem?_map] at hr
   obtain⟨z,hz,rfl⟩:=Option.map_eq_some_iff.1 hr
   obtain⟨hk,hz2⟩:=List.getElem?_eq_some_iff.1 hz
   refine⟨g,0,rfl,by have:=(grownBy_row (w:=w) (g:=g) (n:=q) (Lib.compact (sortedB xs)++List.replicate (xs.length-(Lib.compact (sortedB xs)).length) []).toArray).size;omega,fun j u hu=>?_⟩
   have hj:j=0:=by have:=(List.getElem?_eq_some_iff.1 hu).1;simp[srow] at this;exact this
   subst hj
   simp[srow] at hu
   subst hu
   have hc2:=(hH2 k (by simp;omega)).1
   rw[Nat.mul_one,Nat.add_zero,hc2]
   have hd:(Lib.compact (sortedB xs)++List.replicate (xs.length-(Lib.compact (sortedB xs)).length) []).toArray[k]! = z:=by
    rw[getElem!_pos _ _ (by simp;omega)]
    simp only[List.getElem_toArray]
    rw[List.getElem_append_left hk,hz2]
   rw[hd]
   rfl
  ·exact(But.grown (But.refl (fun k=>k=g) w) (grownBy_row _) (fun k hk=>by cases hk;exact .inl rfl)).below' (by omega) (fun i hi=>by subst hi;exact hbg)
def bordN (M:List Stp) (ss:List ByteArray):List ByteArray:=onceN (ss.filter fun s=>decide (emitN M [s]=[]))
def BordRes (M:List Stp) (ss:List ByteArray) (w:World) (e:Ending) (w':World):Prop :=
 ∃ A c,e=.returned (.slice A (bordN M ss).length c)∧NamesAt w' A (bordN M ss).length c (bordN M ss)∧RowKit.Below w.heap.size w w'
theorem streamAt {F:Nat→Prop} {w:World} {A:Option Addr} {n c:Nat} {ss:List ByteArray} (h:LsAt F w 2 NmRow A n c ss) {k:Nat} (hk:k<n) :
  ∃ b o s A2 n2 c2,A=some ⟨b,o,none⟩∧b<w.heap.size∧ss[k]?=some s∧okS s∧w.cell? ⟨b,o+k*2,none⟩=some (.string s)∧w.cell? ⟨b,o+k*2+1,none⟩=some (.slice A2 n2 c2):=by
 obtain⟨b,o,r,s,hA,hb,_,hs,hl,⟨⟨A2,n2,c2,rfl⟩,ok⟩,hc⟩:=h.get hk
 exact⟨b,o,s,A2,n2,c2,hA,hb,hs,ok,by simpa using hc 0 _ rfl,hc 1 _ rfl⟩
theorem bordT_any (A1 A:Option Addr) (n1 c1 n c:Nat) (ss:List ByteArray) (ps:List Pr) (w:World) (h:CatAt w A1 n1 c1 A n c ss ps) :
  Calls Tryz.prog 11 #[catV A1 n1 c1 A n c] w (BordRes (netC ps) ss w):=by
 have hb1:∀ o,RowKit.Below w.heap.size w (w.alloc o):=fun o=>(RowKit.Below.refl _ _).alloc (Nat.le_refl _) o
 have Hof:=Lhd (fun W (hW:RowKit.Below w.heap.size w W)=>(h.below hW).of)
 have Hb1:=Lhd hb1
 have Hss:=Lhd (fun W (hW:RowKit.Below w.heap.size w W)=>(h.below hW).streams)
 have Hlen:=Lhd h.streams.len
 have hf1:=h.few1
 clear hb1 h
 unfold catV at *
 generalize hM:netC ps=M at *
 clear hM
 go_enter Tryz.func11,Tryz.ntmps11
 go_wp2_with (go_at_call 23;refine(Hof.out _ (Hb1.out _)).mono ?_;rintro e w2 ⟨b,rfl,hN,hb2⟩;have hbw2:RowKit.Below w.heap.size w w2:=(Hb1.out _).trans (hb2.mono (by simp));have HN:=Lhd hN;have hbx:=(IsBlk.laid w 29 #[.slice none 0 0,.slice A1 n1 c1,.slice none 0 0,.slice none 0 0,.slice A n c]).as_was (hb2.block _ (by simp));have hbx1:=hbx.cell 1;simp at hbx1)
 have hlw:w.heap.size<w2.heap.size:=by have:=hb2.size;simp at this;omega
 go_loopw [4,12] (fun v i wr=>∃ (k:Nat) (A5:Option Addr) (n5 c5:Nat),k≤n1∧i=.int .i64 k∧v=.slice A5 n5 c5∧n5=((ss.take k).filter fun s=>decide (emitN M [s]=[])).length∧wr.ownsRow w2.heap.size 9 1 (.slice A5 n5 c5) n5 (((ss.take k).filter fun s=>decide (emitN M [s]=[])).map fun s=>[Value.string s]).flatten∧RowKit.Below w2.heap.size w2 wr) (fun _ i _=>n1-(intOf i).toNat)
 case atStart=>exact⟨0,none,0,0,Nat.zero_le _,rfl,rfl,rfl,World.ownsRow_nil _ _ _ _,RowKit.Below.refl _ _⟩
 case round =>
  obtain⟨k,A5,n5,c5,hk,rfl,rfl,hn5,hown,hb⟩:=hrel
  have Hn5:=Lhd hn5
  have Hown:=Lhd hown
  have hbw:=hbw2.trans (hb.mono hbw2.size)
  have hn5l:n5≤100:=by rw[hn5];refine Nat.le_trans (List.length_filter_le _ _) ?_;rw[List.length_take];omega
  clear hn5 hown
  by_cases hlt:k<n1
  ·obtain⟨b5,o5,s,A6,n6,c6,rfl,hbl,hs,oks,z0,z1⟩:=streamAt (Hss.out wr hbw) hlt
   have Htk:=Lhd (take_succ_of' hs)
   have hba:RowKit.Below wr.heap.size wr ((wr.alloc (.cells #[.string s,.slice A6 n6 c6] 55)).alloc (.cells #[.string s] 9)):=((RowKit.Below.refl _ _).alloc (Nat.le_refl _) _).alloc (by simp) _
   have Hem:=Lhd (emitters_any w2.heap.size _ b M _ _ _ _ [s] (HN.out.later (hb.trans (hba.mono hb.size))) (strs_one (g:=wr.heap.size+1) 9 s (by simp) oks))
   have Hba:=Lhd hba
   clear hs hba
   have Hq0:Hid (emitN M [s]=emitN M [s]):=Lhd rfl
   rcases he:emitN M [s] with _|⟨y,r⟩
   ·rw[he] at Hem
    have Hq:Hid (decide (emitN M [s]=[])=true):=Lhd (by rw[he];rfl)
    clear he Hq0
    go_wp2_with (first
     | (go_at_call 24;refine Hem.out.mono ?_;rintro e w3 ⟨A3,c3,rfl,hown3,hb3⟩;have hb13:=Hba.out.trans (hb3.mono Hba.out.size);have hown5:=own_below Hown.out hb13;have hbx3:=((IsBlk.laid wr 55 #[.string s,.slice A6 n6 c6]).alloc (.cells #[.string s] 9)).as_was (hb3.block _ (by simp;omega));have hbx30:=hbx3.cell 0;simp at hbx30)
     | (at_builtin;refine wpList_app rfl rfl tyS1 rfl (own_below hown5 ((RowKit.Below.refl _ _).alloc (Nat.le_refl _) _)) rfl (RowsAt.lit _ [[.string s]] 1 rfl (by simp) rfl (by unfold maxLen;omega)) (by simp) (by simp[Value.oneCell']) ?_ ?_ ?_ ?_;(unfold maxLen;omega);omega;(simp;have:=hb13.size;have:=hb.size;omega);intro A4 c4 w4 hown4 hbut4 hf4))
    go_roundw
    case rel =>
     refine⟨k+1,A4,_,c4,by omega,by go_num,rfl,?_,?_,?_⟩
     ·rw[Htk.out,own_take (q:=fun s=>decide (emitN M [s]=[])),Hq.out,List.length_append,← Hn5.out];rfl
     ·rw[Htk.out,own_take (q:=fun s=>decide (emitN M [s]=[])),Hq.out,List.map_append];exact hown4
     ·have hb14:But (fun k=>A5.map (·.block)=some k) wr w4:=((But.of_below hb13).alloc _).trans' hbut4
      exact hb.trans (hb14.below' hb.size (fun i hi=>by rcases Nat.lt_or_ge i w2.heap.size with h|h;exact absurd hi (own_row_ne Hown.out h);exact h))
    case measure=>simp[intOf];omega
   ·rw[he] at Hem
    have Hq:Hid (decide (emitN M [s]=[])=false):=Lhd (by rw[he];rfl)
    clear he Hq0
    go_wp2_with (go_at_call 24;refine Hem.out.mono ?_;rintro e w3 ⟨A3,c3,rfl,hown3,hb3⟩;have hb13:=Hba.out.trans (hb3.mono Hba.out.size);have hown5:=own_below Hown.out hb13)
    go_roundw
    case rel =>
     refine⟨k+1,A5,n5,c5,by omega,by go_num,rfl,?_,?_,hb.trans (hb13.mono hb.size)⟩
     ·rw[Htk.out,own_take (q:=fun s=>decide (emitN M [s]=[])),Hq.out];simpa using Hn5.out
     ·rw[Htk.out,own_take (q:=fun s=>decide (emitN M [s]=[])),Hq.out];simpa using hown5
    case measure=>simp[intOf];omega
  ·have hke:k=n1:=by omega
   have hrow:=Hown.out
   have hnn:=Hn5.out
   rw[List.take_of_length_le (by rw[Hlen.out];omega)] at hrow hnn
   rw[strRow] at hrow
   have Hs:=Lhd (sortS_any _ A5 n5 c5 (ss.filter fun s=>decide (emitN M [s]=[])) wr hnn.symm (by omega) hrow)
   have Hnn:=Lhd hnn
   clear hrow hnn
   go_wp2_with (first
    | (go_at_call 25;refine Hs.out.mono ?_;rintro e w3 ⟨rfl,hrow3,hb3⟩;have Hc:=Lhd (compactC_any _ A5 n5 c5 _ w3 Hnn.out.symm (by omega) hrow3))
    | (go_at_call 26;refine Hc.out.mono ?_;rintro e w4 ⟨rfl,hn4,hb4⟩))
   go_ret
   exact⟨A5,c5,rfl,hn4,hbw2.trans ((hb.trans (hb3.trans hb4)).mono hbw2.size)⟩
open Go.RowKit Go.Afx Go.Maps
structure Nd where
 name:ByteArray
 src:ByteArray
 ems:List ByteArray
 odd:Bool
def NodAt (F:Nat→Prop) (w:World) (r:List Value) (x:Nd):Prop:=okS x.name∧okS x.src∧∃ A m c,r=[.string x.name,.string x.src,.slice A m c,.bool x.odd]∧LsAt F w 1 SRow A m c x.ems
theorem NodAt.kept {F:Nat→Prop} {w w':World} {r:List Value} {x:Nd} (h:NodAt F w r x) (hk:Kept F w w'):NodAt F w' r x:=by
 obtain⟨h1,h2,A,m,c,hr,hl⟩:=h
 exact⟨h1,h2,A,m,c,hr,hl.kept hk⟩
def NodsAt (F:Nat→Prop) (w:World) (A:Option Addr) (n c:Nat) (l:List Nd):Prop:=LsAt F w 4 (NodAt F w) A n c l
theorem NodsAt.below {F:Nat→Prop} {w w':World} {A:Option Addr} {n c:Nat} {l:List Nd} (h:NodsAt F w A n c l) (hb:Below w.heap.size w w'):NodsAt F w' A n c l :=
 LsAt.conv h (Kept.of_below hb) (fun _ _ _ h=>h) fun _ _ _ hx=>hx.kept (Kept.of_below hb)
theorem NodsAt.get {F:Nat→Prop} {w:World} {A:Option Addr} {n c:Nat} {l:List Nd} (h:NodsAt F w A n c l) {k:Nat} (hk:k<n) :
  ∃ b o x A2 m2 c2,A=some ⟨b,o,none⟩∧b<w.heap.size∧l[k]?=some x∧okS x.name∧okS x.src∧w.cell? ⟨b,o+k*4,none⟩=some (.string x.name)∧w.cell? ⟨b,o+k*4+1,none⟩=some (.string x.src)∧w.cell? ⟨b,o+k*4+2,none⟩=some (.slice A2 m2 c2)∧w.cell? ⟨b,o+k*4+3,none⟩=some (.bool x.odd)∧LsAt F w 1 SRow A2 m2 c2 x.ems:=by
 obtain⟨b,o,r,x,hA,hb,_,hx,hl,⟨h1,h2,A2,m2,c2,rfl,hls⟩,hc⟩:=LsAt.get h hk
 exact⟨b,o,x,A2,m2,c2,hA,hb,hx,h1,h2,by simpa using hc 0 _ rfl,hc 1 _ rfl,hc 2 _ rfl,hc 3 _ rfl,hls⟩
def oneE:Ex:=.mk 1 1 ⟨#[]⟩ ⟨#[]⟩ ⟨#[]⟩ []
def emSt (s:ByteArray):St:=.mk 8 ⟨#[]⟩ s 0 [] [oneE] [] []
def prOf (x:Nd):Pr:=⟨x.name,x.src,⟨#[]⟩,if x.odd then 0 else 1,[],x.ems.map emSt⟩
def nmRow (s:ByteArray):List Value:=[.string s,.slice none 0 0]
def catB (A1:Option Addr) (n1 c1:Nat) (A:Option Addr) (n c:Nat):Array Value:=#[.slice none 0 0,.slice A1 n1 c1,.slice none 0 0,.slice none 0 0,.slice A n c]
structure Fits (ss:List ByteArray) (l:List Nd):Prop where
 streams:ss.length≤10
 nodes:l.length≤10
 names:∀ s∈ss,s.size≤100
 each:∀ x∈l,x.ems.length≤8∧x.name.size≤100∧x.src.size≤100∧∀ s∈x.ems,s.size≤100
def CatRes (ss:List ByteArray) (l:List Nd) (w:World) (e:Ending) (w':World):Prop :=
 Below w.heap.size w w'∧∃ A1 n1 c1 A n c q,e=.returned (.tuple #[catV A1 n1 c1 A n c,.bool q])∧(q=true→CatAt w' A1 n1 c1 A n c ss (l.map prOf)∧n≤10)∧(q=false→¬ Fits ss l)
theorem okEmpty:okS ⟨#[]⟩:=by unfold okS;decide
def Fil (base:Nat) (w:World) (A:Option Addr):Nat→Prop:=fun q=>base≤q∧q<w.heap.size∧A.map (·.block)≠some q
def FillAt {α:Type} (e sz:Nat) (P:(Nat→Prop)→World→List Value→α→Prop) (base:Nat) (w:World) (A:Option Addr) (n c:Nat) (l:List α):Prop :=
 ∃ rows:List (List Value),w.ownsRow base e sz (.slice A n c) n rows.flatten∧(∀ r∈rows,r.length=sz)∧rows.length=l.length∧l.length=n∧∀ (k:Nat) (r:List Value) (x:α),rows[k]?=some r→l[k]?=some x→P (Fil base w A) w r x
def Stays {α:Type} (P:(Nat→Prop)→World→List Value→α→Prop):Prop:=∀ (F F':Nat→Prop) (w w':World) (r:List Value) (x:α),(∀ k,F k→F' k)→Kept F w w'→P F w r x→P F' w' r x
section
variable {α:Type} {e sz:Nat} {P:(Nat→Prop)→World→List Value→α→Prop} {base:Nat} {w w' w6:World} {A A6:Option Addr} {n c c6:Nat} {l:List α}
theorem FillAt.nil_ (e sz:Nat) (P:(Nat→Prop)→World→List Value→α→Prop) (base:Nat) (w:World):FillAt e sz P base w none 0 0 [] :=
 ⟨[],World.ownsRow_nil _ _ _ _,by simp,rfl,rfl,fun k r x h=>by simp at h⟩
theorem FillAt.but {S:Nat→Prop} (hP:Stays P) (h:FillAt e sz P base w A n c l) (hb:But S w w') (hS:∀ k,S k→k<base):FillAt e sz P base w' A n c l:=by
 obtain⟨rows,h1,h2,h3,h4,h5⟩:=h
 refine⟨rows,own_but h1 hb (fun g hg hs=>?_),h2,h3,h4,fun k r x hr hx=>hP _ _ _ _ _ _ (fun q hq=>⟨hq.1,Nat.lt_of_lt_of_le hq.2.1 hb.size,hq.2.2⟩) (Kept.of_but hb fun q hq hs=>?_) (h5 k r x hr hx)⟩
 ·have:=hS g hs
  have hlt:=h1.lt g hg
  omega
 ·have:=hS q hs
  have:=hq.1
  omega
theorem FillAt.below (hP:Stays P) (h:FillAt e sz P base w A n c l) (hb:Below w.heap.size w w'):FillAt e sz P base w' A n c l:=h.but hP (But.of_below (S:=fun _=>False) hb) fun _ hf=>hf.elim
theorem FillAt.push (hP:Stays P) {rows:List (List Value)} {row:List Value} {x:α} {w5:World} (h2:∀ r∈rows,r.length=sz) (h3:rows.length=l.length) (h4:l.length=n) (h5:∀ (k:Nat) (r:List Value) (x:α),rows[k]?=some r→l[k]?=some x→P (Fil base w A) w r x)
  (hbase:base≤w.heap.size) (hA:∀ q,A.map (·.block)=some q→q<w.heap.size) (hb:Below w.heap.size w w5) (hrow:P (fun q=>w.heap.size≤q∧q<w5.heap.size) w5 row x) (hl:row.length=sz)
  (hown:w6.ownsRow base e sz (.slice A6 (n+1) c6) (n+1) (rows++[row]).flatten) (hbut:But (fun k=>A.map (·.block)=some k) w5 w6) (hf:∀ a2,A6=some a2→A=some a2∨w5.heap.size≤a2.block):FillAt e sz P base w6 A6 (n+1) c6 (l++[x]):=by
 have hs1:=hb.size
 have hs2:=hbut.size
 have hne:∀ q,q<w5.heap.size→A.map (·.block)≠some q→A6.map (·.block)≠some q:=by
  intro q hq hA e
  obtain⟨a2,ha,rfl⟩:=Option.map_eq_some_iff.1 e
  rcases hf a2 ha with h|h
  ·exact hA (by rw[h];rfl)
  ·omega
 refine⟨rows++[row],hown,fun r hr=>?_,by simp[h3],by simp[h4],fun k r y hr hy=>?_⟩
 ·rcases List.mem_append.1 hr with hr|hr
  ·exact h2 r hr
  ·rw[List.mem_singleton.1 hr];exact hl
 ·by_cases hk:k<rows.length
  ·rw[List.getElem?_append_left hk] at hr
   rw[List.getElem?_append_left (by omega)] at hy
   refine hP _ _ _ _ _ _ (fun q hq=>⟨hq.1,by have:=hq.2.1;omega,hne q (by have:=hq.2.1;omega) hq.2.2⟩) ((Kept.of_below hb).sub (fun _ h=>h) |>.trans (Kept.of_but hbut fun q hq hs=>hq.2.2 hs)) (h5 k r y hr hy)
  ·rw[List.getElem?_append_right (by omega)] at hr
   rw[List.getElem?_append_right (by omega)] at hy
   have hk0:k-rows.length=0:=by have:=(List.getElem?_eq_some_iff.1 hr).1;simp at this;omega
   rw[hk0] at hr
   rw[show k-l.length=0 by omega] at hy
   simp at hr hy
   subst hr hy
   have hAq:∀ q,w.heap.size≤q→A.map (·.block)≠some q:=fun q hq e=>by have:=hA q e;omega
   exact hP _ _ _ _ _ _ (fun q hq=>⟨by have:=hq.1;omega,by have:=hq.2;omega,hne q hq.2 (hAq q hq.1)⟩) (Kept.of_but hbut fun q hq hs=>hAq q hq.1 hs) hrow
theorem FillAt.ls (hP:Stays P) (h:FillAt e sz P base w A n c l):LsAt (fun q=>base≤q∧q<w.heap.size) w sz (P (fun q=>base≤q∧q<w.heap.size) w) A n c l:=by
 obtain⟨rows,h1,h2,h3,h4,h5⟩:=h
 refine⟨rows,RowsAt.of_own h1 h2 (by omega),fun a ha h0=>?_,h3,fun k r x hr hx=>⟨h2 r (List.mem_of_getElem? hr),hP _ _ _ _ _ _ (fun q hq=>⟨hq.1,hq.2.1⟩) (Kept.refl _ _) (h5 k r x hr hx)⟩⟩
 subst ha
 exact h1.lt a.block rfl
theorem FillAt.addr (h:FillAt e sz P base w A n c l):∀ q,A.map (·.block)=some q→base≤q∧q<w.heap.size:=by
 obtain⟨rows,h1,_⟩:=h
 intro q hq
 obtain⟨a,rfl,rfl⟩:=Option.map_eq_some_iff.1 hq
 exact h1.lt a.block rfl
end
def BodAt (base:Nat) (w:World) (A:Option Addr) (n c:Nat) (l:List ByteArray):Prop:=FillAt 60 8 (fun F w r s=>StAt F 2 w r (emSt s)) base w A n c l
theorem bodStays:Stays (fun F w r s=>StAt F 2 w r (emSt s)):=fun _ _ _ _ _ _ hF hk h=>StAt.conv hF hk 2 (Nat.le_refl _) h
def PrsAt (base:Nat) (w:World) (A:Option Addr) (n c:Nat) (l:List Nd):Prop:=FillAt 46 6 (fun F w r x=>PrAt F 2 w r (prOf x)) base w A n c l
theorem prsStays:Stays (fun F w r x=>PrAt F 2 w r (prOf x)):=fun _ _ _ _ _ _ hF hk h=>PrAt.conv hF hk (Nat.le_refl _) h
def StrsAt (base:Nat) (w:World) (A:Option Addr) (n c:Nat) (l:List ByteArray):Prop:=FillAt 55 2 (fun _ _ r s=>NmRow r s) base w A n c l
theorem strsStays:Stays (fun (_:Nat→Prop) (_:World) r s=>NmRow r s):=fun _ _ _ _ _ _ _ _ h=>h
theorem emRow {w:World} {g:Nat} {s:ByteArray} (hg:g=w.heap.size) (hs:okS s) (T:TypeId) :
  StAt (fun q=>w.heap.size≤q∧q<w.heap.size+1) 2 (w.alloc (.cells #[.int .i64 1,.int .i64 1,.string ⟨#[]⟩,.string ⟨#[]⟩,.string ⟨#[]⟩,.slice none 0 0] T)) [.int .i64 8,.string ⟨#[]⟩,.string s,.int .i64 0,.slice none 0 0,.slice (some ⟨g,0,none⟩) 1 1,.slice none 0 0,.slice none 0 0] (emSt s):=by
 subst hg
 have i0:∀ k:Int,0≤k→k≤8→okI k:=fun k h1 h2=>by unfold okI;omega
 refine⟨i0 8 (by omega) (by omega),i0 0 (by omega) (by omega),okEmpty,hs,none,0,0,some ⟨w.heap.size,0,none⟩,1,1,none,0,0,none,0,0,rfl,LsAt.nil_ _ _ _ _,?_,LsAt.nil_ _ _ _ _,LsAt.nil_ _ _ _ _⟩
 refine⟨[[.int .i64 1,.int .i64 1,.string ⟨#[]⟩,.string ⟨#[]⟩,.string ⟨#[]⟩,.slice none 0 0]],RowsAt.lit _ _ 1 rfl (by simp) rfl (by unfold maxLen;omega),fun a ha _=>?_,rfl,fun k r x hr hx=>?_⟩
 ·cases ha
  exact⟨Nat.le_refl _,Nat.lt_succ_self _⟩
 ·cases k with
  | zero =>
   simp at hr
   subst hr
   have hx':oneE=x:=by simpa [emSt,St.exprs] using hx
   subst hx'
   exact⟨rfl,i0 1 (by omega) (by omega),i0 1 (by omega) (by omega),okEmpty,okEmpty,okEmpty,none,0,0,rfl,LsAt.nil_ _ _ _ _⟩
  | succ k=>simp at hr
end Go.Proofs.YtomfpjgcficlgaaGreat

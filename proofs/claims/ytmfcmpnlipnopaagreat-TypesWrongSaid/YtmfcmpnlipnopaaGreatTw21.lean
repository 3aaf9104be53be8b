/- Parts of this proof, one behind the other: SynI, SynJ, SynJ1, SynJ2. -/
import Derived.Test.YtmfcmpnlipnopaaGreatTw20
import Derived.Test.YtmfcmpnlipnopaaGreatTw18
import Derived.Test.YtmfcmpnlipnopaaGreatShelfS
import Derived.Sort.OwnSorted
import Derived.RangeFuncNested
import Derived.RangeFuncBound
import Derived.RangeFuncCalls
import Derived.RangeFuncLeaves
import Derived.RangeFuncWrites
import Derived.RangeFuncBox
import Derived.Maps.AppendAt
import Derived.Shelf.Abstract
import Derived.Shelf.RegionOpen
import Derived.OwnWalkIn
import Derived.TacticsInMore
import Derived.LoopNIn
import Derived.LoopIn
import Derived.Deep.Cut
set_option maxRecDepth 1000000
set_option maxHeartbeats 40000000
namespace Go.Proofs.YtmfcmpnlipnopaaGreat
open Go.RowKit Go.Afx Go.Shelf Go.Sort
theorem take_succ_of' {α:Type} {l:List α} {k:Nat} {x:α} (h:l[k]?=some x):l.take (k+1)=l.take k++[x]:=by
 obtain⟨hk,rfl⟩:=List.getElem?_eq_some_iff.1 h
 exact List.take_succ_eq_append_getElem hk
section
attribute [local go_sem] Oper.semAt_some
theorem values1_in (d:Nat) (hd:1≤d) (l Bs n₀:Nat) (A:Option Addr) (n c:Nat) (xs:List ByteArray) (J Jx:List ByteArray→World→Prop)
  (hY:∀ pre x W,J pre W→pre.length<n→YieldAt Fence.wide (d-1) Tryz.prog l #[.string x] W fun e W' =>
   (e=.returned (.bool true)∧J (pre++[x]) W'∧Below n₀ W W')∨(e=.returned (.bool false)∧Jx (pre++[x]) W'))
  (W:World) (hBs:W.cell? ⟨Bs,0,none⟩=some (.slice A n c)) (hL:LsAt (fun b=>b<n₀) W 1 SRow A n c xs) (h0:J [] W) :
  CallsIn Fence.wide d Tryz.prog 134 #[.func (.yield l) #[] #[],.pointer (some ⟨Bs,0,none⟩)] W fun e W'=>(∃ v,e=.returned v) ∧
   ((∃ ys,ys=xs∧J ys W')∨(∃ pre,True∧Jx pre W')):=by
 have hn:=hL.n_le
 have Hl:=Lhd hL.len
 refine callsIn_of_wp Tryz.func134 rfl trivial ?_ rfl
 simp only[Tryz.ntmps134,List.size_toArray,List.length_cons,List.length_nil,Nat.reduceAdd,Nat.reduceSub,Array.replicate_succ,Array.replicate_zero,List.push_toArray,List.append_toArray,List.nil_append,List.cons_append]
 gi_wp2
 gi_loopw [7] (fun i wr=>∃ k:Nat,k≤n∧i=.int .i64 k∧J (xs.take k) wr∧Below n₀ W wr) (fun i _=>n-(intOf i).toNat)
 case atStart=>exact⟨0,Nat.zero_le _,rfl,by simpa using h0,Below.refl _ _⟩
 case round =>
  obtain⟨k,hk,rfl,hJs,hnx⟩:=hrel
  by_cases hlt:k<n
  ·obtain⟨b,o,r,x,rfl,hbl,hb0,hx,hrl,⟨rfl,hs⟩,hc⟩:=hL.get hlt
   have hcx:wr.cell? ⟨b,o+k,none⟩=some (.string x):=(hnx.cell (p:=⟨b,o+k,none⟩) hb0).trans (by simpa using hc 0 _ rfl)
   have Hx:=Lhd (take_succ_of' hx)
   clear hc hx
   obtain⟨fn,tmps,assign,body,hy,hR⟩:=hY _ x wr hJs (by rw[List.length_take];omega)
   gi_wp2
   refine hR.mono ?_
   rintro e W3 (⟨rfl,hJ3,hk3⟩|⟨rfl,hJx3⟩)
   ·gi_wp2
    go_roundw
    case rel=>exact⟨k+1,by omega,by simp,by rw[Hx.out];exact hJ3,hnx.trans hk3⟩
    case measure=>simp[intOf];omega
   ·gi_wp2
    refine bodyPost_ret (results_none rfl _ _ _) rfl ?_
    exact⟨⟨_,rfl⟩,.inr ⟨_,trivial,hJx3⟩⟩
  ·obtain rfl:k=n:=by omega
   gi_wp2
   go_end0
   rw[List.take_of_length_le (by rw[Hl.out];omega)] at hJs
   exact⟨⟨_,rfl⟩,.inl ⟨_,rfl,hJs⟩⟩
theorem values_in (d:Nat) (A:Option Addr) (n c:Nat) (w:World) :
  CallsIn Fence.wide d Tryz.prog 113 #[.slice A n c] w fun e w'=>e=.returned (.func (.func 134) #[] #[.pointer (some ⟨w.heap.size,0,none⟩)])∧w'=w.alloc (.cells #[.slice A n c] 53):=by
 refine callsIn_of_wp Tryz.func113 rfl trivial ?_ rfl
 simp only[Tryz.ntmps113,List.size_toArray,List.length_cons,List.length_nil,Nat.reduceAdd,Nat.reduceSub,Array.replicate_succ,Array.replicate_zero,List.push_toArray,List.append_toArray,List.nil_append,List.cons_append]
 gi_wp2
 go_ret
 exact⟨rfl,rfl⟩
theorem values_stops (d:Nat) (hd:1≤d) (Bs n₀:Nat) (A:Option Addr) (n c:Nat) (xs:List ByteArray) (w:World) (hBs:Bs<w.heap.size)
  (hc:w.cell? ⟨Bs,0,none⟩=some (.slice A n c)) (hL:LsAt (fun b=>b<n₀) w 1 SRow A n c xs) :
  SeqStopsK Fence.wide d Tryz.prog 134 #[.pointer (some ⟨Bs,0,none⟩)] (fun x:ByteArray=>#[Value.string x]) (Below n₀) (fun ys=>ys=xs) (fun _=>True) n w:=fun l J Jx W hW _ _ hY h0 =>
 values1_in d hd l Bs n₀ A n c xs J Jx hY W ((hW.cell (p:=⟨Bs,0,none⟩) hBs).trans hc) (hL.below hW) h0
theorem tyStr:ElemTy Tryz.prog 53 9 1 16 (.string ByteArray.empty):=⟨Tryz.underlying53,by kernel_rfl,rfl,by decide⟩
theorem appendSeq_in (d:Nat) (hd:3≤d) (g:Nat) (lb:Array Value) (eg:∀ args w,(callFunc g args).run Tryz.prog w=.ok (.enter g args) w) (xs:List ByteArray) (hN:xs.length≤maxLen) (hNb:xs.length*16≤140737488355328) (w:World) (n₀:Nat) (hn₀:n₀≤w.heap.size)
  (hseq:SeqStopsK Fence.wide (d-1) Tryz.prog g lb (fun x:ByteArray=>#[Value.string x]) (Below n₀) (fun ys=>ys=xs) (fun _=>True) xs.length w) :
  CallsIn Fence.wide d Tryz.prog 123 #[.slice none 0 0,.func (.func g) #[] lb] w fun e W'=>∃ v,e=.returned v∧W'.ownsRow w.heap.size 9 1 v xs.length (xs.map Value.string)∧(v=.slice none 0 0 ↔ xs=[])∧Below w.heap.size w W':=by
 have h1:1≤d:=by omega
 obtain⟨i0,hi,hz0,hz1,hz2⟩:=tyStr.at_
 refine callsIn_of_wp_marks Tryz.func123 rfl trivial ?_ rfl
 simp only[Tryz.ntmps123,List.size_toArray,List.length_cons,List.length_nil,Nat.reduceAdd,Nat.reduceSub,Array.replicate_succ,Array.replicate_zero,List.push_toArray,List.append_toArray,List.nil_append,List.cons_append]
 gi_wp2
 have bO:=Boxed.new w 53 (.slice none 0 0)
 have hB0:Below w.heap.size w (w.alloc (.cells #[.slice none 0 0] 53)):=(Below.refl _ w).alloc (Nat.le_refl _) _
 refine wpIn_rangeFunc_ownG rfl h1 (gf:=g) (lb:=lb) rfl trivial eg hseq belowK_t (belowK_b (by simp;omega)) hB0 (fun _=>rfl)
  (fun pre W=>(∃ v,Boxed W w.heap.size 53 v∧W.ownsRow w.heap.size 9 1 v pre.length (pre.map Value.string)∧(v=.slice none 0 0 ↔ pre=[]))∧Below w.heap.size w W)
  (fun _ _ _=>False)
  (OwnFrom.and (Own.from (holdsRow_own w.heap.size w.heap.size 53 9 1 (fun pre=>pre.length) (fun pre=>pre.map Value.string) (fun pre v=>v=.slice none 0 0 ↔ pre=[])) _) (ownFrom_below (Nat.le_refl _) (by simp)))
  (fun _ _ _ _ _ hs _ _=>hs)
  ⟨⟨_,bO,World.ownsRow_nil _ _ _ _,by simp⟩,hB0⟩
  (fun x=>{ tmps:=#[.slice none 0 0,.func (.func g) #[] lb,.pointer (some ⟨w.heap.size,0,none⟩),undef,.slice none 0 0,.string x,.func (.func g) #[] lb,.string x,undef,undef,undef,undef,undef],defers:=[] }) ?assign ?body ?done ?stop
 case assign =>
  intro l x W K hK
  gi_wp2
  exact hK
 case body =>
  rintro l pre x W ⟨⟨v,hv,hrow,hnil⟩,hB⟩ hlt
  have hc:=hv.cell
  gi_wp2_with (gi_at_builtin;refine wpListIn_append_own _ rfl _ _ 53 rfl w.heap.size 9 i0 (.string ByteArray.empty) 1 16 Tryz.underlying53 hi hz0 hz1 hz2 rfl (by decide) _ _ _ rfl (hrow.alloc _) ⟨W.heap.size,0,none⟩ 1 1 [.string x] rfl rfl (cell_one_new _ _ _) (by simp[Value.oneCell']) (by omega) (by omega) (by have:=hB.size;simp;omega) ?_;intro v' w1 hown' hgrow _;obtain⟨g',cap',rfl⟩:=ownsRow_succ hown';obtain⟨hv1,hv2,hr2,hk2,hb2⟩:=hv.appended (by decide) hrow hB.size (Nat.le_refl _) hown' hgrow;have hc1:=hv1.cell;have hf1:=hv1.frozen)
  exact⟨hk2.from _,hb2.mono hn₀,⟨_,hv2,by simpa using hr2,by simp⟩,hB.trans hb2⟩
 case done =>
  rintro D ys W hD rfl ⟨⟨v,hv,hrow,hnil⟩,hB⟩ hK
  have hc:=hv.cell
  gi_wp2
  refine⟨by simp,.inl ⟨_,_,rfl,run_takeDeferred hK,?_⟩⟩
  exact⟨_,results_tmp rfl _ _ _,v,rfl,ownsRow_putObj hrow _ hK rfl,hnil,hB.trans (belowK_b (w:=w) (Nat.le_refl _) W D _ _ (by simp at hD;omega) hK rfl rfl)⟩
 case stop =>
  rintro D c pre W _ _ h _
  exact h.elim
end
theorem collect_any (g:Nat) (lb:Array Value) (eg:∀ args w,(callFunc g args).run Tryz.prog w=.ok (.enter g args) w) (xs:List ByteArray) (hN:xs.length≤1000000) (w:World) (n₀:Nat) (hn₀:n₀≤w.heap.size)
  (hseq:SeqStopsK Fence.wide 3 Tryz.prog g lb (fun x:ByteArray=>#[Value.string x]) (Below n₀) (fun ys=>ys=xs) (fun _=>True) xs.length w) :
  Calls Tryz.prog 99 #[.func (.func g) #[] lb] w fun e W'=>∃ v,e=.returned v∧W'.ownsRow w.heap.size 9 1 v xs.length (xs.map Value.string)∧(v=.slice none 0 0 ↔ xs=[])∧Below w.heap.size w W':=by
 have Hc:=Lhd (callsIn_wide.1 (appendSeq_in 4 (by omega) g lb eg xs (by unfold maxLen;omega) (by omega) w n₀ hn₀ hseq))
 go_enter Tryz.func99,Tryz.ntmps99
 go_wp2_with (go_at_call 123;refine Hc.out.mono ?_;rintro e w1 ⟨v,rfl,hrow,hnil,hb⟩)
 go_ret
 exact⟨v,rfl,hrow,hnil,hb⟩
def sortedB (xs:List ByteArray):List (List UInt8):=(bytesL xs).mergeSort fun x y=>decide (x≤y)
theorem sortS_any (base:Nat) (A:Option Addr) (n c:Nat) (xs:List ByteArray) (w:World) (hn:xs.length=n) (hbig:n≤1000000) (hown:w.ownsRow base 9 1 (.slice A n c) n (xs.map Value.string)) :
  Calls Tryz.prog 100 #[.slice A n c] w fun e w'=>e=.returned (.tuple #[])∧w'.ownsRow base 9 1 (.slice A n c) n ((sortedB xs).map encStr)∧Below base w w':=by
 subst hn
 rcases hown.2 with ⟨hv,h0⟩|⟨g,cap,cur,hv,hbg,hg,hnc,hcm,hcs,htk⟩
 ·injection hv with h1 h2 h3
  subst h1 h3
  have hx:xs=[]:=List.eq_nil_of_length_eq_zero h0
  subst hx
  refine(AnyM.slices_Sort_string_none Tryz.sortS none 0 w).mono ?_
  rintro e w' ⟨rfl,rfl⟩
  exact⟨rfl,by rw[show sortedB []=[] by simp[sortedB,bytesL]];exact hown,Below.refl _ _⟩
 ·injection hv with h1 h2 h3
  subst h1 h3
  have hlt:g<w.heap.size:=(Array.getElem?_eq_some_iff.1 hg).1
  have hl:(bytesL xs).length=xs.length:=bytesL_length xs
  have htk':cur.toList.take (bytesL xs).length=(bytesL xs).map encStr:=by rw[bytesL_enc,← htk,hl,Nat.mul_one]
  have hc:=AnyM.slices_Sort_string Tryz.sortS g 0 c (bytesL xs) w (holds_of_block hg htk') hlt (by omega)
  rw[hl] at hc
  refine hc.mono ?_
  rintro e w' ⟨rfl,k,os,rfl⟩
  refine⟨rfl,?_,?_⟩
  ·have h:=ownsRow_sorted (ss:=bytesL xs) (ts:=sortedB xs) (n:=k) (os:=os) (List.length_mergeSort _) hbg hg (by omega) hcm hcs
   rw[hl] at h
   exact h
  ·exact(But.grown (But.refl (fun k=>k=g) w) (grownBy_sorted _) (fun k hk=>by cases hk;exact .inl rfl)).below' (by omega) (fun i hi=>by subst hi;exact hbg)
theorem sortedS_any (g:Nat) (lb:Array Value) (eg:∀ args w,(callFunc g args).run Tryz.prog w=.ok (.enter g args) w) (xs:List ByteArray) (hN:xs.length≤1000000) (w:World) (n₀:Nat) (hn₀:n₀≤w.heap.size)
  (hseq:SeqStopsK Fence.wide 3 Tryz.prog g lb (fun x:ByteArray=>#[Value.string x]) (Below n₀) (fun ys=>ys=xs) (fun _=>True) xs.length w) :
  Calls Tryz.prog 68 #[.func (.func g) #[] lb] w fun e W'=>∃ A c,e=.returned (.slice A xs.length c)∧W'.ownsRow w.heap.size 9 1 (.slice A xs.length c) xs.length ((sortedB xs).map encStr)∧Below w.heap.size w W':=by
 have Hc:=Lhd (collect_any g lb eg xs hN w n₀ hn₀ hseq)
 go_enter Tryz.func68,Tryz.ntmps68
 go_wp2_with (first|(go_at_call 99;refine Hc.out.mono ?_;rintro e w1 ⟨v,rfl,hrow,hnil,hb⟩;obtain⟨A,c,rfl,hnc⟩:=ownsRow_form hrow;have Hs:=Lhd (sortS_any _ A xs.length c xs w1 rfl hN hrow))|(go_at_call 100;refine Hs.out.mono ?_;rintro e w2 ⟨rfl,hrow2,hb2⟩))
 go_ret
 exact⟨A,c,rfl,hrow2,hb.trans (hb2.mono (Nat.le_refl _))⟩
theorem grownBy_row {w:World} {g n:Nat} (d:Array (List UInt8)):w.grownBy (putRow encStr (Sort.ahead w n) g 0 d) (some g):=by
 refine⟨rfl,rfl,rfl,by simp,fun k hk hne=>?_⟩
 have:g≠k:=fun e=>hne (by rw[e])
 simp[putRow,mapBlock,Sort.ahead,Array.getElem?_modify,this]
theorem compactS_any (base:Nat) (A:Option Addr) (n c:Nat) (xs:List ByteArray) (w:World) (hn:xs.length=n) (hbig:n≤1000000) (hown:w.ownsRow base 9 1 (.slice A n c) n ((sortedB xs).map encStr)) :
  Calls Tryz.prog 112 #[.slice A n c] w fun e w'=>e=.returned (.slice A (Lib.compact (sortedB xs)).length c)∧Below base w w':=by
 subst hn
 have hl:(sortedB xs).length=xs.length:=by rw[sortedB,List.length_mergeSort,bytesL_length]
 rcases hown.2 with ⟨hv,h0⟩|⟨g,cap,cur,hv,hbg,hg,hnc,hcm,hcs,htk⟩
 ·injection hv with h1 h2 h3
  subst h1 h3
  have hx:xs=[]:=List.eq_nil_of_length_eq_zero h0
  subst hx
  refine(AnyG.slices_Compact_string_empty Tryz.compactS none 0 w).mono ?_
  rintro e w' ⟨rfl,rfl⟩
  exact⟨by rw[show sortedB []=[] by simp[sortedB,bytesL]];rfl,Below.refl _ _⟩
 ·injection hv with h1 h2 h3
  subst h1 h3
  have hlt:g<w.heap.size:=(Array.getElem?_eq_some_iff.1 hg).1
  have htk':cur.toList.take (sortedB xs).length=(sortedB xs).map encStr:=by rw[← htk,hl,Nat.mul_one]
  have hc:=AnyG.slices_Compact_string Tryz.compactS g 0 c (sortedB xs) w (holds_of_block hg htk') (by omega) (by omega)
  rw[hl] at hc
  refine hc.mono ?_
  rintro e w' ⟨rfl,k,rfl⟩
  refine⟨rfl,?_⟩
  exact(But.grown (But.refl (fun k=>k=g) w) (grownBy_row _) (fun k hk=>by cases hk;exact .inl rfl)).below' (by omega) (fun i hi=>by subst hi;exact hbg)
theorem unlike_any (F:Nat→Prop) (A:Option Addr) (n c:Nat) (xs:List ByteArray) (w:World) (h:LsAt F w 1 SRow A n c xs) (hbig:n≤1000000) :
  Calls Tryz.prog 86 #[.slice A n c] w fun e w'=>e=.returned (.bool (decide xs.Nodup))∧Below w.heap.size w w':=by
 have hl:=h.len
 have hL:LsAt (fun b=>b<w.heap.size) w 1 SRow A n c xs:=h.conv (Kept.refl _ _) (fun a ha h0 _=>h.lt h0 a ha) (fun _ _ _ h=>h)
 have hb1:Below w.heap.size w (w.alloc (.cells #[.slice A n c] 53)):=(Below.refl _ _).alloc (Nat.le_refl _) _
 have hbx:=Boxed.new w 53 (.slice A n c)
 have Hv:=Lhd (callsIn_wide.1 (values_in 4 A n c w))
 have Hs:=Lhd (sortedS_any 134 #[.pointer (some ⟨w.heap.size,0,none⟩)] (enters_of Tryz.func134 (by kernel_rfl) rfl) xs (by omega) _ w.heap.size hb1.size
  (hl▸values_stops 3 (by omega) w.heap.size w.heap.size A n c xs _ (by simp) hbx.cell (hL.below hb1)))
 have ho:decide ((Lib.compact (sortedB xs)).length=n)=decide xs.Nodup:=by
  rw[decide_eq_decide,← hl];exact once_sorted xs
 have Ho:=Lhd ho
 clear ho
 subst hl
 go_enter Tryz.func86,Tryz.ntmps86
 go_wp2_with (first|(go_at_call 113;refine Hv.out.mono ?_;rintro e w1 ⟨rfl,rfl⟩)|(go_at_call 68;refine Hs.out.mono ?_;rintro e w2 ⟨A2,c2,rfl,hrow,hb2⟩;have Hk:=Lhd (compactS_any _ A2 xs.length c2 xs w2 rfl hbig hrow))|(go_at_call 112;refine Hk.out.mono ?_;rintro e w3 ⟨rfl,hb3⟩))
 go_ret
 refine⟨ret_bool ?_,(hb1.trans (hb2.mono hb1.size)).trans (hb3.mono (hb1.size))⟩
 rw[← Ho.out]
 rw[Bool.eq_iff_iff]
 simp
 omega
open Go.RowKit Go.Afx
theorem hasT_any (s:ByteArray) (w:World) (hs:okS s):Calls Tryz.prog 135 #[.bool true,.string s] w fun x w'=>∃ A n c,x=.returned (.slice A n c)∧LsAt (fun _=>True) w' 1 SRow A n c [s]∧Below w.heap.size w w':=has_any true s w hs
theorem hasF_any (s:ByteArray) (w:World):Calls Tryz.prog 135 #[.bool false,.string s] w fun x w'=>x=.returned (.slice none 0 0)∧w=w':=by
 go_enter Tryz.func135,Tryz.ntmps135
 go_wp2
 go_ret
 exact⟨rfl,rfl⟩
theorem freeN_any (w:World):Calls Tryz.prog 85 #[.slice none 0 0] w fun x w'=>x=.returned (.bool true)∧Below w.heap.size w w':=free_any (fun _=>True) none 0 0 [] w (LsAt.nil_ _ _ _ _)
theorem freesB_one (s:ByteArray):freesB [s]=freeB s:=by rw[freesB_all];simp
theorem str_empty {s:ByteArray} (h:noS s=true):s.toList=[]:=by rw[noS_nil] at h;simpa using h
theorem nat_nz {n:Nat} (h:decide (n=0)=false):((n:Int)==0)=false:=by simp at h ⊢;omega
theorem int_nz {n:Int} (h:decide (n=0)=false):(n==0)=false:=by simp at h ⊢;omega
theorem str_some {s:ByteArray} (h:noS s=false):s.toList.isEmpty=false:=by rw[noS_nil] at h;exact h
theorem stBox {w:World} {g:Nat} {T:TypeId} {op n:Int} {name src:ByteArray} {Ac Ae Ab Al:Option Addr} {nc cc ne ce nb cb nl cl:Nat}
  (h:IsBlk w g T #[.int .i64 op,.string name,.string src,.int .i64 n,.slice Ac nc cc,.slice Ae ne ce,.slice Ab nb cb,.slice Al nl cl]) :
  w.cell? ⟨g,1,none⟩=some (.string name)∧w.cell? ⟨g,2,none⟩=some (.string src)∧w.cell? ⟨g,3,none⟩=some (.int .i64 n)∧w.cell? ⟨g,4,none⟩=some (.slice Ac nc cc)∧w.cell? ⟨g,5,none⟩=some (.slice Ae ne ce)∧w.cell? ⟨g,6,none⟩=some (.slice Ab nb cb)∧w.cell? ⟨g,7,none⟩=some (.slice Al nl cl)∧g<w.heap.size:=by
 have h1:=h.cell 1;have h2:=h.cell 2;have h3:=h.cell 3;have h4:=h.cell 4;have h5:=h.cell 5;have h6:=h.cell 6;have h7:=h.cell 7
 simp at h1 h2 h3 h4 h5 h6 h7
 exact⟨h1,h2,h3,h4,h5,h6,h7,h.lt⟩
theorem grow {w W W':World} {o:Obj} (hX:Below (w.heap.size+1) (w.alloc o) W) (hb:Below W.heap.size W W'):Below (w.heap.size+1) (w.alloc o) W' :=
 hX.trans (hb.mono (by have:=hX.size;simp at this;omega))
theorem shStart (op:Int) (name src:ByteArray) (n:Int) (Ac Ae Ab Al:Option Addr) (nc cc ne ce nb cb nl cl:Nat) (w:World):Below w.heap.size w (w.alloc (.cells #[.int .i64 op,.string name,.string src,.int .i64 n,.slice Ac nc cc,.slice Ae ne ce,.slice Ab nb cb,.slice Al nl cl] 65))∧Below (w.heap.size+1) (w.alloc (.cells #[.int .i64 op,.string name,.string src,.int .i64 n,.slice Ac nc cc,.slice Ae ne ce,.slice Ab nb cb,.slice Al nl cl] 65)) (w.alloc (.cells #[.int .i64 op,.string name,.string src,.int .i64 n,.slice Ac nc cc,.slice Ae ne ce,.slice Ab nb cb,.slice Al nl cl] 65))∧Hid (∀ W,Below (w.heap.size+1) (w.alloc (.cells #[.int .i64 op,.string name,.string src,.int .i64 n,.slice Ac nc cc,.slice Ae ne ce,.slice Ab nb cb,.slice Al nl cl] 65)) W→W.cell? ⟨w.heap.size,1,none⟩=some (.string name)∧W.cell? ⟨w.heap.size,2,none⟩=some (.string src)∧W.cell? ⟨w.heap.size,3,none⟩=some (.int .i64 n)∧W.cell? ⟨w.heap.size,4,none⟩=some (.slice Ac nc cc)∧W.cell? ⟨w.heap.size,5,none⟩=some (.slice Ae ne ce)∧W.cell? ⟨w.heap.size,6,none⟩=some (.slice Ab nb cb)∧W.cell? ⟨w.heap.size,7,none⟩=some (.slice Al nl cl)∧w.heap.size<W.heap.size) :=
 have hx1:IsBlk (w.alloc (.cells #[.int .i64 op,.string name,.string src,.int .i64 n,.slice Ac nc cc,.slice Ae ne ce,.slice Ab nb cb,.slice Al nl cl] 65)) w.heap.size 65 #[.int .i64 op,.string name,.string src,.int .i64 n,.slice Ac nc cc,.slice Ae ne ce,.slice Ab nb cb,.slice Al nl cl]:=IsBlk.laid _ _ _
 ⟨(Below.refl _ _).alloc (Nat.le_refl _) _,Below.refl _ _,Lhd (fun _ hW=>stBox (hx1.as_was (hW.block _ (Nat.lt_succ_self _))))⟩
theorem shStart4 (op:Int) (name src:ByteArray) (n:Int) (Ac Ae Ab Al:Option Addr) (nc cc ne ce nb cb nl cl:Nat) (w:World):Below w.heap.size w (w.alloc (.cells #[.int .i64 op,.string name,.string src,.int .i64 n,.slice Ac nc cc,.slice Ae ne ce,.slice Ab nb cb,.slice Al nl cl] 65))∧(∀ k,Below (w.heap.size+1) (w.alloc (.cells #[.int .i64 op,.string name,.string src,.int .i64 n,.slice Ac nc cc,.slice Ae ne ce,.slice Ab nb cb,.slice Al nl cl] 65)) ((w.alloc (.cells #[.int .i64 op,.string name,.string src,.int .i64 n,.slice Ac nc cc,.slice Ae ne ce,.slice Ab nb cb,.slice Al nl cl] 65)).drewN k))∧Hid (∀ W,Below (w.heap.size+1) (w.alloc (.cells #[.int .i64 op,.string name,.string src,.int .i64 n,.slice Ac nc cc,.slice Ae ne ce,.slice Ab nb cb,.slice Al nl cl] 65)) W→W.cell? ⟨w.heap.size,1,none⟩=some (.string name)∧W.cell? ⟨w.heap.size,2,none⟩=some (.string src)∧W.cell? ⟨w.heap.size,3,none⟩=some (.int .i64 n)∧W.cell? ⟨w.heap.size,4,none⟩=some (.slice Ac nc cc)∧W.cell? ⟨w.heap.size,5,none⟩=some (.slice Ae ne ce)∧W.cell? ⟨w.heap.size,6,none⟩=some (.slice Ab nb cb)∧W.cell? ⟨w.heap.size,7,none⟩=some (.slice Al nl cl)∧w.heap.size<W.heap.size) :=
 have h:=shStart op name src n Ac Ae Ab Al nc cc ne ce nb cb nl cl w
 ⟨h.1,fun k=>below_drewN (Below.refl _ _) k,h.2.2⟩
theorem shapeK_1 (F:Nat→Prop) (name src:ByteArray) (n:Int) (Ac Ae Ab Al:Option Addr) (nc cc ne ce nb cb nl cl:Nat) (cols:List ByteArray) (w:World) (hc:LsAt F w 1 SRow Ac nc cc cols) (okn:okS name) :
  Calls Tryz.prog 116 #[.agg #[.int .i64 1,.string name,.string src,.int .i64 n,.slice Ac nc cc,.slice Ae ne ce,.slice Ab nb cb,.slice Al nl cl]] w fun x w'=>x=.returned (.bool (shapeR 1 name src n cols ne nb nl))∧Below w.heap.size w w':=by
 have hcl:=hc.len
 obtain⟨hbase,hX,Hx⟩:=shStart 1 name src n Ac Ae Ab Al nc cc ne ce nb cb nl cl w
 have HF0:=Lhd (fun (W:World) A m c (h:LsAt (fun _=>True) W 1 SRow A m c [name])=>free_any _ A m c _ W h)
 rw[freesB_one] at HF0
 have HW4:=Lhd (fun W=>within_any ne 1 1 W)
 generalize hfin:shapeR 1 name src n cols ne nb nl=fin
 cases t0:freeB name
 rotate_left
 cases t1:noS src
 rotate_left
 cases t2:decide (nc=0)
 rotate_left
 cases t3:decide (n=0)
 rotate_left
 cases t4:(decide (1≤(ne:Int))&&decide ((ne:Int)≤1))
 rotate_left
 cases t5:decide (nb=0)
 rotate_left
 cases t6:decide (nl=0)
 rotate_left
 all_goals
  simp[shapeR,shapeP, *] at hfin
  subst hfin
  try (rw[t0] at HF0;clear t0)
  first|replace t1:=str_empty t1|replace t1:=str_some t1|skip
  first|(obtain rfl:=of_decide_eq_true t2;clear t2)|replace t2:=nat_nz t2|skip
  first|(obtain rfl:=of_decide_eq_true t3;clear t3)|replace t3:=int_nz t3|skip
  try (rw[t4] at HW4;clear t4)
  first|(obtain rfl:=of_decide_eq_true t5;clear t5)|replace t5:=nat_nz t5|skip
  first|(obtain rfl:=of_decide_eq_true t6;clear t6)|replace t6:=nat_nz t6|skip
  clear hcl hc
  go_enter Tryz.func116,Tryz.ntmps116
  go_upto_region 25 with (fail)
  simp only[List.append_eq,List.cons_append,List.nil_append]
  go_wp2_with (first|(go_at_call 135;with_reducible refine(hasT_any name _ okn).mono ?_;rintro x w10 ⟨A0,n0,c0,rfl,hl0,hb0⟩;replace hX:=grow hX hb0;obtain⟨x1,x2,x3,x4,x5,x6,x7,xl⟩:=Hx.out _ hX)|(go_at_call 85;with_reducible refine(HF0.out _ _ _ _ hl0).mono ?_;rintro x w20 ⟨rfl,hc0⟩;replace hX:=grow hX hc0;obtain⟨x1,x2,x3,x4,x5,x6,x7,xl⟩:=Hx.out _ hX)|(go_at_call 84;with_reducible refine(HW4.out _).mono ?_;rintro x w' ⟨rfl,rfl⟩)|(go_at_call 135;with_reducible refine(hasF_any src _).mono ?_;rintro x w' ⟨rfl,rfl⟩)|(go_at_call 85;with_reducible refine(freeN_any _).mono ?_;rintro x w6 ⟨rfl,hb6⟩;replace hX:=grow hX hb6;obtain⟨x1,x2,x3,x4,x5,x6,x7,xl⟩:=Hx.out _ hX))
  go_ret
  exact⟨rfl,hbase.trans (hX.mono (by simp))⟩
theorem shapeK_2 (F:Nat→Prop) (name src:ByteArray) (n:Int) (Ac Ae Ab Al:Option Addr) (nc cc ne ce nb cb nl cl:Nat) (cols:List ByteArray) (w:World) (hc:LsAt F w 1 SRow Ac nc cc cols) (okn:okS name) :
  Calls Tryz.prog 116 #[.agg #[.int .i64 2,.string name,.string src,.int .i64 n,.slice Ac nc cc,.slice Ae ne ce,.slice Ab nb cb,.slice Al nl cl]] w fun x w'=>x=.returned (.bool (shapeR 2 name src n cols ne nb nl))∧Below w.heap.size w w':=by
 have hcl:=hc.len
 obtain⟨hbase,hX,Hx⟩:=shStart 2 name src n Ac Ae Ab Al nc cc ne ce nb cb nl cl w
 have HF0:=Lhd (fun (W:World) A m c (h:LsAt (fun _=>True) W 1 SRow A m c [name])=>free_any _ A m c _ W h)
 rw[freesB_one] at HF0
 have HW4:=Lhd (fun W=>within_any ne 1 1 W)
 generalize hfin:shapeR 2 name src n cols ne nb nl=fin
 cases t0:freeB name
 rotate_left
 cases t1:noS src
 rotate_left
 cases t2:decide (nc=0)
 rotate_left
 cases t3:decide (n=0)
 rotate_left
 cases t4:(decide (1≤(ne:Int))&&decide ((ne:Int)≤1))
 rotate_left
 cases t5:decide (nb=0)
 rotate_left
 cases t6:decide (nl=0)
 rotate_left
 all_goals
  simp[shapeR,shapeP, *] at hfin
  subst hfin
  try (rw[t0] at HF0;clear t0)
  first|replace t1:=str_empty t1|replace t1:=str_some t1|skip
  first|(obtain rfl:=of_decide_eq_true t2;clear t2)|replace t2:=nat_nz t2|skip
  first|(obtain rfl:=of_decide_eq_true t3;clear t3)|replace t3:=int_nz t3|skip
  try (rw[t4] at HW4;clear t4)
  first|(obtain rfl:=of_decide_eq_true t5;clear t5)|replace t5:=nat_nz t5|skip
  first|(obtain rfl:=of_decide_eq_true t6;clear t6)|replace t6:=nat_nz t6|skip
  clear hcl hc
  go_enter Tryz.func116,Tryz.ntmps116
  go_upto_region 25 with (fail)
  simp only[List.append_eq,List.cons_append,List.nil_append]
  go_wp2_with (first|(go_at_call 135;with_reducible refine(hasT_any name _ okn).mono ?_;rintro x w10 ⟨A0,n0,c0,rfl,hl0,hb0⟩;replace hX:=grow hX hb0;obtain⟨x1,x2,x3,x4,x5,x6,x7,xl⟩:=Hx.out _ hX)|(go_at_call 85;with_reducible refine(HF0.out _ _ _ _ hl0).mono ?_;rintro x w20 ⟨rfl,hc0⟩;replace hX:=grow hX hc0;obtain⟨x1,x2,x3,x4,x5,x6,x7,xl⟩:=Hx.out _ hX)|(go_at_call 84;with_reducible refine(HW4.out _).mono ?_;rintro x w' ⟨rfl,rfl⟩)|(go_at_call 135;with_reducible refine(hasF_any src _).mono ?_;rintro x w' ⟨rfl,rfl⟩)|(go_at_call 85;with_reducible refine(freeN_any _).mono ?_;rintro x w6 ⟨rfl,hb6⟩;replace hX:=grow hX hb6;obtain⟨x1,x2,x3,x4,x5,x6,x7,xl⟩:=Hx.out _ hX))
  go_ret
  exact⟨rfl,hbase.trans (hX.mono (by simp))⟩
theorem shapeK_5 (F:Nat→Prop) (name src:ByteArray) (n:Int) (Ac Ae Ab Al:Option Addr) (nc cc ne ce nb cb nl cl:Nat) (cols:List ByteArray) (w:World) (hc:LsAt F w 1 SRow Ac nc cc cols) (okn:okS name) (oks:okS src) :
  Calls Tryz.prog 116 #[.agg #[.int .i64 5,.string name,.string src,.int .i64 n,.slice Ac nc cc,.slice Ae ne ce,.slice Ab nb cb,.slice Al nl cl]] w fun x w'=>x=.returned (.bool (shapeR 5 name src n cols ne nb nl))∧Below w.heap.size w w':=by
 have hcl:=hc.len
 obtain⟨hbase,hX,Hx⟩:=shStart 5 name src n Ac Ae Ab Al nc cc ne ce nb cb nl cl w
 have HF0:=Lhd (fun (W:World) A m c (h:LsAt (fun _=>True) W 1 SRow A m c [name])=>free_any _ A m c _ W h)
 rw[freesB_one] at HF0
 have HF1:=Lhd (fun (W:World) A m c (h:LsAt (fun _=>True) W 1 SRow A m c [src])=>free_any _ A m c _ W h)
 rw[freesB_one] at HF1
 have HW4:=Lhd (fun W=>within_any ne 1 1 W)
 generalize hfin:shapeR 5 name src n cols ne nb nl=fin
 cases t0:freeB name
 rotate_left
 cases t1:freeB src
 rotate_left
 cases t2:decide (nc=0)
 rotate_left
 cases t3:decide (n=0)
 rotate_left
 cases t4:(decide (1≤(ne:Int))&&decide ((ne:Int)≤1))
 rotate_left
 cases t5:decide (nb=0)
 rotate_left
 cases t6:decide (nl=0)
 rotate_left
 all_goals
  simp[shapeR,shapeP, *] at hfin
  subst hfin
  try (rw[t0] at HF0;clear t0)
  try (rw[t1] at HF1;clear t1)
  first|(obtain rfl:=of_decide_eq_true t2;clear t2)|replace t2:=nat_nz t2|skip
  first|(obtain rfl:=of_decide_eq_true t3;clear t3)|replace t3:=int_nz t3|skip
  try (rw[t4] at HW4;clear t4)
  first|(obtain rfl:=of_decide_eq_true t5;clear t5)|replace t5:=nat_nz t5|skip
  first|(obtain rfl:=of_decide_eq_true t6;clear t6)|replace t6:=nat_nz t6|skip
  clear hcl hc
  go_enter Tryz.func116,Tryz.ntmps116
  go_upto_region 25 with (fail)
  simp only[List.append_eq,List.cons_append,List.nil_append]
  go_wp2_with (first|(go_at_call 135;with_reducible refine(hasT_any name _ okn).mono ?_;rintro x w10 ⟨A0,n0,c0,rfl,hl0,hb0⟩;replace hX:=grow hX hb0;obtain⟨x1,x2,x3,x4,x5,x6,x7,xl⟩:=Hx.out _ hX)|(go_at_call 85;with_reducible refine(HF0.out _ _ _ _ hl0).mono ?_;rintro x w20 ⟨rfl,hc0⟩;replace hX:=grow hX hc0;obtain⟨x1,x2,x3,x4,x5,x6,x7,xl⟩:=Hx.out _ hX)|(go_at_call 135;with_reducible refine(hasT_any src _ oks).mono ?_;rintro x w11 ⟨A1,n1,c1,rfl,hl1,hb1⟩;replace hX:=grow hX hb1;obtain⟨x1,x2,x3,x4,x5,x6,x7,xl⟩:=Hx.out _ hX)|(go_at_call 85;with_reducible refine(HF1.out _ _ _ _ hl1).mono ?_;rintro x w21 ⟨rfl,hc1⟩;replace hX:=grow hX hc1;obtain⟨x1,x2,x3,x4,x5,x6,x7,xl⟩:=Hx.out _ hX)|(go_at_call 84;with_reducible refine(HW4.out _).mono ?_;rintro x w' ⟨rfl,rfl⟩))
  go_ret
  exact⟨rfl,hbase.trans (hX.mono (by simp))⟩
theorem shapeK_3 (F:Nat→Prop) (name src:ByteArray) (n:Int) (Ac Ae Ab Al:Option Addr) (nc cc ne ce nb cb nl cl:Nat) (cols:List ByteArray) (w:World) (hc:LsAt F w 1 SRow Ac nc cc cols) (oks:okS src) :
  Calls Tryz.prog 116 #[.agg #[.int .i64 3,.string name,.string src,.int .i64 n,.slice Ac nc cc,.slice Ae ne ce,.slice Ab nb cb,.slice Al nl cl]] w fun x w'=>x=.returned (.bool (shapeR 3 name src n cols ne nb nl))∧Below w.heap.size w w':=by
 have hcl:=hc.len
 obtain⟨hbase,hX,Hx⟩:=shStart 3 name src n Ac Ae Ab Al nc cc ne ce nb cb nl cl w
 have HF0:=Lhd (fun (W:World) A m c (h:LsAt (fun _=>True) W 1 SRow A m c [src])=>free_any _ A m c _ W h)
 rw[freesB_one] at HF0
 have HW4:=Lhd (fun W=>within_any ne 1 8 W)
 generalize hfin:shapeR 3 name src n cols ne nb nl=fin
 cases t0:freeB src
 rotate_left
 cases t1:noS name
 rotate_left
 cases t2:decide (nc=0)
 rotate_left
 cases t3:decide (n=0)
 rotate_left
 cases t4:(decide (1≤(ne:Int))&&decide ((ne:Int)≤8))
 rotate_left
 cases t5:decide (nb=0)
 rotate_left
 cases t6:decide (nl=0)
 rotate_left
 all_goals
  simp[shapeR,shapeP, *] at hfin
  subst hfin
  try (rw[t0] at HF0;clear t0)
  first|replace t1:=str_empty t1|replace t1:=str_some t1|skip
  first|(obtain rfl:=of_decide_eq_true t2;clear t2)|replace t2:=nat_nz t2|skip
  first|(obtain rfl:=of_decide_eq_true t3;clear t3)|replace t3:=int_nz t3|skip
  try (rw[t4] at HW4;clear t4)
  first|(obtain rfl:=of_decide_eq_true t5;clear t5)|replace t5:=nat_nz t5|skip
  first|(obtain rfl:=of_decide_eq_true t6;clear t6)|replace t6:=nat_nz t6|skip
  clear hcl hc
  go_enter Tryz.func116,Tryz.ntmps116
  go_upto_region 25 with (fail)
  simp only[List.append_eq,List.cons_append,List.nil_append]
  go_wp2_with (first|(go_at_call 135;with_reducible refine(hasT_any src _ oks).mono ?_;rintro x w10 ⟨A0,n0,c0,rfl,hl0,hb0⟩;replace hX:=grow hX hb0;obtain⟨x1,x2,x3,x4,x5,x6,x7,xl⟩:=Hx.out _ hX)|(go_at_call 85;with_reducible refine(HF0.out _ _ _ _ hl0).mono ?_;rintro x w20 ⟨rfl,hc0⟩;replace hX:=grow hX hc0;obtain⟨x1,x2,x3,x4,x5,x6,x7,xl⟩:=Hx.out _ hX)|(go_at_call 84;with_reducible refine(HW4.out _).mono ?_;rintro x w' ⟨rfl,rfl⟩)|(go_at_call 135;with_reducible refine(hasF_any name _).mono ?_;rintro x w' ⟨rfl,rfl⟩)|(go_at_call 85;with_reducible refine(freeN_any _).mono ?_;rintro x w6 ⟨rfl,hb6⟩;replace hX:=grow hX hb6;obtain⟨x1,x2,x3,x4,x5,x6,x7,xl⟩:=Hx.out _ hX))
  go_ret
  exact⟨rfl,hbase.trans (hX.mono (by simp))⟩
theorem shapeK_8 (F:Nat→Prop) (name src:ByteArray) (n:Int) (Ac Ae Ab Al:Option Addr) (nc cc ne ce nb cb nl cl:Nat) (cols:List ByteArray) (w:World) (hc:LsAt F w 1 SRow Ac nc cc cols) (oks:okS src) :
  Calls Tryz.prog 116 #[.agg #[.int .i64 8,.string name,.string src,.int .i64 n,.slice Ac nc cc,.slice Ae ne ce,.slice Ab nb cb,.slice Al nl cl]] w fun x w'=>x=.returned (.bool (shapeR 8 name src n cols ne nb nl))∧Below w.heap.size w w':=by
 have hcl:=hc.len
 obtain⟨hbase,hX,Hx⟩:=shStart 8 name src n Ac Ae Ab Al nc cc ne ce nb cb nl cl w
 have HF0:=Lhd (fun (W:World) A m c (h:LsAt (fun _=>True) W 1 SRow A m c [src])=>free_any _ A m c _ W h)
 rw[freesB_one] at HF0
 have HW4:=Lhd (fun W=>within_any ne 1 8 W)
 generalize hfin:shapeR 8 name src n cols ne nb nl=fin
 cases t0:freeB src
 rotate_left
 cases t1:noS name
 rotate_left
 cases t2:decide (nc=0)
 rotate_left
 cases t3:decide (n=0)
 rotate_left
 cases t4:(decide (1≤(ne:Int))&&decide ((ne:Int)≤8))
 rotate_left
 cases t5:decide (nb=0)
 rotate_left
 cases t6:decide (nl=0)
 rotate_left
 all_goals
  simp[shapeR,shapeP, *] at hfin
  subst hfin
  try (rw[t0] at HF0;clear t0)
  first|replace t1:=str_empty t1|replace t1:=str_some t1|skip
  first|(obtain rfl:=of_decide_eq_true t2;clear t2)|replace t2:=nat_nz t2|skip
  first|(obtain rfl:=of_decide_eq_true t3;clear t3)|replace t3:=int_nz t3|skip
  try (rw[t4] at HW4;clear t4)
  first|(obtain rfl:=of_decide_eq_true t5;clear t5)|replace t5:=nat_nz t5|skip
  first|(obtain rfl:=of_decide_eq_true t6;clear t6)|replace t6:=nat_nz t6|skip
  clear hcl hc
  go_enter Tryz.func116,Tryz.ntmps116
  go_upto_region 25 with (fail)
  simp only[List.append_eq,List.cons_append,List.nil_append]
  go_wp2_with (first|(go_at_call 135;with_reducible refine(hasT_any src _ oks).mono ?_;rintro x w10 ⟨A0,n0,c0,rfl,hl0,hb0⟩;replace hX:=grow hX hb0;obtain⟨x1,x2,x3,x4,x5,x6,x7,xl⟩:=Hx.out _ hX)|(go_at_call 85;with_reducible refine(HF0.out _ _ _ _ hl0).mono ?_;rintro x w20 ⟨rfl,hc0⟩;replace hX:=grow hX hc0;obtain⟨x1,x2,x3,x4,x5,x6,x7,xl⟩:=Hx.out _ hX)|(go_at_call 84;with_reducible refine(HW4.out _).mono ?_;rintro x w' ⟨rfl,rfl⟩)|(go_at_call 135;with_reducible refine(hasF_any name _).mono ?_;rintro x w' ⟨rfl,rfl⟩)|(go_at_call 85;with_reducible refine(freeN_any _).mono ?_;rintro x w6 ⟨rfl,hb6⟩;replace hX:=grow hX hb6;obtain⟨x1,x2,x3,x4,x5,x6,x7,xl⟩:=Hx.out _ hX))
  go_ret
  exact⟨rfl,hbase.trans (hX.mono (by simp))⟩
theorem shapeK_7 (F:Nat→Prop) (name src:ByteArray) (n:Int) (Ac Ae Ab Al:Option Addr) (nc cc ne ce nb cb nl cl:Nat) (cols:List ByteArray) (w:World) (hc:LsAt F w 1 SRow Ac nc cc cols) :
  Calls Tryz.prog 116 #[.agg #[.int .i64 7,.string name,.string src,.int .i64 n,.slice Ac nc cc,.slice Ae ne ce,.slice Ab nb cb,.slice Al nl cl]] w fun x w'=>x=.returned (.bool (shapeR 7 name src n cols ne nb nl))∧Below w.heap.size w w':=by
 have hcl:=hc.len
 obtain⟨hbase,hX,Hx⟩:=shStart 7 name src n Ac Ae Ab Al nc cc ne ce nb cb nl cl w
 have HW4:=Lhd (fun W=>within_any ne 1 1 W)
 generalize hfin:shapeR 7 name src n cols ne nb nl=fin
 cases t0:noS name
 rotate_left
 cases t1:noS src
 rotate_left
 cases t2:decide (nc=0)
 rotate_left
 cases t3:decide (n=0)
 rotate_left
 cases t4:(decide (1≤(ne:Int))&&decide ((ne:Int)≤1))
 rotate_left
 all_goals
  simp[shapeR,shapeP, *] at hfin
  subst hfin
  first|replace t0:=str_empty t0|replace t0:=str_some t0|skip
  first|replace t1:=str_empty t1|replace t1:=str_some t1|skip
  first|(obtain rfl:=of_decide_eq_true t2;clear t2)|replace t2:=nat_nz t2|skip
  first|(obtain rfl:=of_decide_eq_true t3;clear t3)|replace t3:=int_nz t3|skip
  try (rw[t4] at HW4;clear t4)
  clear hcl hc
  go_enter Tryz.func116,Tryz.ntmps116
  go_upto_region 25 with (fail)
  simp only[List.append_eq,List.cons_append,List.nil_append]
  go_wp2_with (first|(go_at_call 84;with_reducible refine(HW4.out _).mono ?_;rintro x w' ⟨rfl,rfl⟩)|(go_at_call 135;with_reducible refine(hasF_any name _).mono ?_;rintro x w' ⟨rfl,rfl⟩)|(go_at_call 135;with_reducible refine(hasF_any src _).mono ?_;rintro x w' ⟨rfl,rfl⟩)|(go_at_call 85;with_reducible refine(freeN_any _).mono ?_;rintro x w6 ⟨rfl,hb6⟩;replace hX:=grow hX hb6;obtain⟨x1,x2,x3,x4,x5,x6,x7,xl⟩:=Hx.out _ hX))
  go_ret
  exact⟨rfl,hbase.trans (hX.mono (by simp))⟩
end Go.Proofs.YtmfcmpnlipnopaaGreat

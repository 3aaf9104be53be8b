/- Parts of this proof, one behind the other: SynG, SynH, SynQ, SynI, SynJ, SynJ1, SynJ2, SynJ3, SynJ4, SynK, SynL, SynM, SynN, SynO, SynS, SynT0, SynT, SynU, SynV, SynW, SynY, SynZ, SynZ1, RefP. -/
import Derived.Test.YtdgapmnojmhllaaGreatDoorPf4
import Derived.Test.YtdgapmnojmhllaaGreatDoorPf3
import Derived.Lib.RowBridge
import Derived.Sort.KeysCollected
import Derived.Test.YtdgapmnojmhllaaGreatDoorShelfS
import Derived.Sort.OwnSorted
import Derived.RangeFuncNested
import Derived.RangeFuncBound
import Derived.RangeFuncCalls
import Derived.RangeFuncLeaves
import Derived.RangeFuncWrites
import Derived.RangeFuncBox
import Derived.Maps.AppendAt
import Derived.Shelf.Abstract
import Derived.Shelf.RegionOpen
import Derived.OwnWalkIn
import Derived.TacticsInMore
import Derived.LoopNIn
import Derived.LoopIn
import Derived.Deep.Cut
import Derived.Maps.Own
import Derived.Maps.Views
import Derived.Deep.RegionLaw
import Derived.Deep.CutRange
import Derived.Maps.OwnSet
set_option maxRecDepth 1000000
set_option maxHeartbeats 40000000
namespace Go.Proofs.YtdgapmnojmhllaaGreatDoor
open Go.RowKit Go.Afx
def BuiltsE (F:Nat→Prop) (d:Nat):Prop:=∀ (e:Ex) (row:List Value) (w:World),ExAt F d w row e →
 Calls Tryz.prog 44 #[.agg row.toArray] w fun x w'=>x=.returned (.bool (builtE d e))∧Below w.heap.size w w'
theorem builtC_any (F:Nat→Prop) (d:Nat) (ih:BuiltsE F d) (e:Ex) (row:List Value) (w:World) (h:ExAt F d w row e) :
  Calls Tryz.prog 92 #[.agg row.toArray] w fun x w'=>x=.returned (.bool (!builtE d e))∧Below w.heap.size w w':=by
 cases d with
 | zero=>exact h.elim
 | succ d =>
  have h':=h
  obtain⟨A,m,c,rfl,hl⟩:=h.open_.2.2.2.2.2
  have hb1:Below w.heap.size w (w.alloc (.cells #[.int .i64 e.op,.int .i64 e.n,.string e.s,.string e.name,.string e.src,.slice A m c] 32)):=(Below.refl _ _).alloc (Nat.le_refl _) _
  have Hc:=Lhd (ih e _ _ (h'.below hb1))
  generalize builtE (d+1) e=r at *
  go_enter Tryz.func92,Tryz.ntmps92
  go_wp2_with (go_at_call 44;refine Hc.out.mono ?_;rintro x w1 ⟨rfl,hb⟩)
  go_ret
  exact⟨ret_bool (by simp),hb1.trans (hb.mono hb1.size)⟩
theorem indexBuilt_any (F:Nat→Prop) (d:Nat) (ih:BuiltsE F d) (A:Option Addr) (n c:Nat) (es:List Ex) (w:World) (h:ExsAt F d w A n c es) :
  Calls Tryz.prog 134 #[.slice A n c,.func (.func 92) #[] #[]] w fun x w'=>x=.returned (.int .i64 (posB (fun e=>!builtE d e) es))∧Below w.heap.size w w':=by
 have hn:=LsAt.n_le h
 have Hl:=Lhd (LsAt.len h)
 go_enter Tryz.func134,Tryz.ntmps134
 go_wp2
 go_loopw [8] (fun i wr=>∃ k:Nat,k≤n∧i=.int .i64 k∧(∀ y∈es.take k,(!builtE d y)=false)∧Below w.heap.size w wr) (fun i _=>n-(intOf i).toNat)
 case atStart=>exact⟨0,Nat.zero_le _,rfl,by simp,Below.refl _ _⟩
 case round =>
  obtain⟨k,hk,rfl,hall,hb⟩:=hrel
  have Hall:=Lhd hall;clear hall
  by_cases hlt:k<n
  ·cases d with
   | zero =>
    obtain⟨b,o,r,e,hA,hbl,_,he,hl,hp,hc⟩:=LsAt.get (h.below hb) hlt
    exact hp.elim
   | succ d =>
    obtain⟨b,o,e,A2,m2,c2,rfl,hbl,hx,hc0,hc1,hc2,hc3,hc4,hc5,hp,_⟩:=ExsAt.get (h.below hb) hlt
    have hc:=builtC_any F (d+1) ih e _ wr hp
    obtain⟨q,hq⟩:∃ q,(!builtE (d+1) e)=q:=⟨_,rfl⟩
    rw[hq] at hc
    have Hc:=Lhd hc
    have Hq:=Lhd hq
    have Hx:=Lhd hx
    clear hc hq hx
    cases q
    ·have Hnx:=Lhd (mem_take_succ Hx.out Hall.out Hq.out)
     go_wp2_with (go_at_call 92;refine Hc.out.mono ?_;rintro y w1 ⟨rfl,hb1⟩)
     go_roundw
     case rel=>exact⟨k+1,by omega,by go_num,Hnx.out,hb.trans (hb1.mono hb.size)⟩
     case measure=>simp[intOf];omega
    ·have Hf:=Lhd (posB_yes (p:=fun e=>!builtE (d+1) e) Hx.out Hq.out Hall.out)
     go_wp2_with (go_at_call 92;refine Hc.out.mono ?_;rintro y w1 ⟨rfl,hb1⟩)
     go_ret
     exact⟨by rw[Hf.out];rfl,hb.trans (hb1.mono hb.size)⟩
  ·go_wp2
   go_ret
   have h1:=Hall.out
   rw[List.take_of_length_le (by rw[Hl.out];omega)] at h1
   exact⟨by rw[posB_no h1];rfl,hb⟩
theorem containsBuilt_any (F:Nat→Prop) (d:Nat) (ih:BuiltsE F d) (A:Option Addr) (n c:Nat) (es:List Ex) (w:World) (h:ExsAt F d w A n c es) :
  Calls Tryz.prog 91 #[.slice A n c,.func (.func 92) #[] #[]] w fun x w'=>x=.returned (.bool (!es.all (builtE d)))∧Below w.heap.size w w':=by
 have hi:=indexBuilt_any F d ih A n c es w h
 have hp:=posB_any (fun e=>!builtE d e) es
 have hq:(es.any fun e=>!builtE d e) = !es.all (builtE d):=by
  induction es with
  | nil=>rfl
  | cons a r _=>simp[List.any_eq_not_all_not]
 rw[hq] at hp
 generalize es.all (builtE d)=r at *
 generalize posB (fun e=>!builtE d e) es=i at *
 have Hp:=Lhd hp
 have Hi:=Lhd hi
 clear hp hi hq
 go_enter Tryz.func91,Tryz.ntmps91
 go_wp2_with (go_at_call 134;refine Hi.out.mono ?_;rintro x w' ⟨rfl,hb⟩)
 go_ret
 exact⟨ret_bool Hp.out,hb⟩
theorem builtE_any (F:Nat→Prop) (d:Nat):BuiltsE F d:=by
 induction d with
 | zero=>intro e row w h;exact h.elim
 | succ d ih =>
  intro e row w h
  obtain⟨ho,hn,hs,hnm,hsr,A,m,c,rfl,hl⟩:=h.open_
  have hlen:=LsAt.len hl
  have hb1:Below w.heap.size w (w.alloc (.cells #[.int .i64 e.op,.int .i64 e.n,.string e.s,.string e.name,.string e.src,.slice A m c] 32)):=(Below.refl _ _).alloc (Nat.le_refl _) _
  have hx1:IsBlk (w.alloc (.cells #[.int .i64 e.op,.int .i64 e.n,.string e.s,.string e.name,.string e.src,.slice A m c] 32)) w.heap.size 32 #[.int .i64 e.op,.int .i64 e.n,.string e.s,.string e.name,.string e.src,.slice A m c]:=IsBlk.laid _ _ _
  have Hx1:=Lhd hx1
  have Ha:=Lhd (args_any e.op)
  have Hf:=Lhd (fun W=>fields_any e.op e.n e.s e.name e.src A m c W hnm hs hsr)
  have Hc:=Lhd (fun W (hW:Below w.heap.size w W)=>containsBuilt_any F d ih A m c e.args W (hl.below hW))
  have hfin:builtE (d+1) e=(decide (arityB e.op=(m:Int))&&fieldsR e.op e.n e.s e.name e.src&&e.args.all (builtE d)):=by
   rw[← hlen];rfl
  generalize fieldsR e.op e.n e.s e.name e.src=q at *
  generalize e.args.all (builtE d)=r at *
  generalize builtE (d+1) e=fin at *
  have Hfin:=Lhd hfin
  clear hfin hlen hx1
  generalize arityB e.op=ar at *
  by_cases har:ar=(m:Int)
  ·have hb:(ar==(m:Int))=true:=by simpa using har
   have Har:=Lhd har
   clear har
   cases q
   ·go_enter Tryz.func44,Tryz.ntmps44
    go_wp2_with (first|(go_at_call 89;refine(Ha.out _).mono ?_;rintro x w' ⟨rfl,rfl⟩)|(go_at_call 90;refine(Hf.out _).mono ?_;rintro x w2 ⟨rfl,hb2⟩))
    go_ret
    exact⟨ret_bool (by rw[Hfin.out];simp),hb1.trans (hb2.mono hb1.size)⟩
   ·go_enter Tryz.func44,Tryz.ntmps44
    go_wp2_with (first|(go_at_call 89;refine(Ha.out _).mono ?_;rintro x w' ⟨rfl,rfl⟩)|(go_at_call 90;refine(Hf.out _).mono ?_;rintro x w2 ⟨rfl,hb2⟩;have hb02:=hb1.trans (hb2.mono hb1.size);have hx2:=Hx1.out.as_was (hb2.block _ Hx1.out.lt);have x25:=hx2.cell 5;simp at x25)|(go_at_call 91;refine(Hc.out _ hb02).mono ?_;rintro x w3 ⟨rfl,hb3⟩))
    go_ret
    exact⟨ret_bool (by rw[Hfin.out];simp[Har.out]),hb02.trans (hb3.mono hb02.size)⟩
  ·have hb:(ar==(m:Int))=false:=by simpa using har
   have Har:=Lhd har
   clear har
   go_enter Tryz.func44,Tryz.ntmps44
   go_wp2_with (go_at_call 89;refine(Ha.out _).mono ?_;rintro x w' ⟨rfl,rfl⟩)
   go_ret
   exact⟨ret_bool (by rw[Hfin.out];simp[Har.out]),hb1⟩
end Go.Proofs.YtdgapmnojmhllaaGreatDoor
namespace Go.Afx
open Go.RowKit Go.Proofs
def bytesL (xs:List ByteArray):List (List UInt8):=xs.map (·.data.toList)
end Go.Afx
namespace Go.Proofs.YtdgapmnojmhllaaGreatDoor
open Go.RowKit Go.Afx Go.Shelf Go.Sort
theorem take_succ_of' {α:Type} {l:List α} {k:Nat} {x:α} (h:l[k]?=some x):l.take (k+1)=l.take k++[x]:=by
 obtain⟨hk,rfl⟩:=List.getElem?_eq_some_iff.1 h
 exact List.take_succ_eq_append_getElem hk
section
attribute [local go_sem] Oper.semAt_some
end
def sortedB (xs:List ByteArray):List (List UInt8):=(bytesL xs).mergeSort fun x y=>decide (x≤y)
open Go.RowKit Go.Afx
theorem str_empty {s:ByteArray} (h:noS s=true):s.toList=[]:=by rw[noS_nil] at h;simpa using h
theorem str_some {s:ByteArray} (h:noS s=false):s.toList.isEmpty=false:=by rw[noS_nil] at h;exact h
theorem grow {w W W':World} {o:Obj} (hX:Below (w.heap.size+1) (w.alloc o) W) (hb:Below W.heap.size W W'):Below (w.heap.size+1) (w.alloc o) W' :=
 hX.trans (hb.mono (by have:=hX.size;simp at this;omega))
def BuiltsS (F:Nat→Prop) (d:Nat):Prop:=∀ (e:St) (row:List Value) (w:World),StAt F d w row e →
 Calls Tryz.prog 124 #[.agg row.toArray] w fun x w'=>x=.returned (.bool (builtS d e))∧Below w.heap.size w w'
def CoRow (r:List Value) (c:Co):Prop:=r=[.string c.name,.int .i64 c.kind]∧okS c.name∧okI c.kind
def PrAt (F:Nat→Prop) (d:Nat) (w:World) (r:List Value) (p:Pr):Prop:=okS p.name∧okS p.src∧okS p.part∧okI p.fuel ∧
 ∃ Ap np cp Ab nb cb,r=[.string p.name,.string p.src,.string p.part,.int .i64 p.fuel,.slice Ap np cp,.slice Ab nb cb]∧LsAt F w 2 CoRow Ap np cp p.params∧StsAt F d w Ab nb cb p.body
theorem PrAt.conv {F F':Nat→Prop} (hF:∀ k,F k→F' k) {w w':World} (hk:Kept F w w') {d d':Nat} (hd:d≤d') {r:List Value} {p:Pr} (h:PrAt F d w r p):PrAt F' d' w' r p:=by
 obtain⟨h1,h2,h3,h4,Ap,np,cp,Ab,nb,cb,hr,k1,k2⟩:=h
 exact⟨h1,h2,h3,h4,Ap,np,cp,Ab,nb,cb,hr,k1.conv hk (fun _ _ _ h=>hF _ h) (fun _ _ _ h=>h),StsAt.conv hF hk hd k2⟩
theorem PrAt.below {F:Nat→Prop} {w w':World} {d:Nat} {r:List Value} {p:Pr} (h:PrAt F d w r p) (hb:Below w.heap.size w w'):PrAt F d w' r p:=PrAt.conv (fun _ h=>h) (Kept.of_below hb) (Nat.le_refl _) h
def srow (s:ByteArray):List Value:=[.string s]
theorem srow_len:∀ {xs:List ByteArray} (r:List Value),r∈xs.map srow→r.length=1:=by
 intro xs r hr;obtain⟨p,_,rfl⟩:=List.mem_map.1 hr;rfl
theorem LsAt.of_own {w:World} {base:Nat} {T:TypeId} {A:Option Addr} {n c:Nat} {xs:List ByteArray} (h:w.ownsRow base T 1 (.slice A n c) n (xs.map srow).flatten) (hn:xs.length=n) (hok:∀ x∈xs,okS x):LsAt (fun _=>True) w 1 SRow A n c xs :=
 ⟨xs.map srow,RowsAt.of_own h srow_len (by simpa using hn),fun _ _ _=>trivial,by simp,fun k r x hr hx=>by
  rw[List.getElem?_map,hx] at hr
  simp at hr
  subst hr
  exact⟨rfl,rfl,hok x (List.mem_of_getElem? hx)⟩⟩
open Go.RowKit Go.Afx Go.Maps Go.WideMaps
def litS (s:ByteArray):Lit:=.string s.data.toList
def UseAt (w:World) (b:Nat) (L:List ByteArray):Prop:=w.ownsMap Tryz.prog 9 (plainElem (H:=Unit) Tryz.prog 4) b L.length (setOf (.lit (.bool true)) (L.map litS))
section
variable {w w':World} {b:Nat} {L:List ByteArray}
theorem UseAt.lt (h:UseAt w b L):b<w.heap.size:=World.ownsMap.lt h
theorem UseAt.as_was (h:UseAt w b L) (e:w'.heap[b]?=w.heap[b]?):UseAt w' b L:=by
 obtain⟨es,clock,hb,rest⟩:=h
 exact⟨es,clock,e.trans hb,rest⟩
theorem UseAt.but {S:Nat→Prop} (h:UseAt w b L) (hb:But S w w') (hn:¬ S b):UseAt w' b L:=h.as_was (hb.block b h.lt hn)
theorem UseAt.below (h:UseAt w b L) (hb:Below w.heap.size w w'):UseAt w' b L:=h.as_was (hb.block b h.lt)
end
theorem setOf_put (L:List ByteArray) (s:ByteArray):(setOf (.lit (.bool true)) (L.map litS):DataW Unit).put (litS s) (.lit (.bool true))=setOf (.lit (.bool true)) ((L++[s]).map litS):=by
 rw[List.map_append,List.map_singleton,setOf_snoc]
theorem UseAt.put {w':World} {b:Nat} {L:List ByteArray} {s:ByteArray} (h:w'.ownsMap Tryz.prog 9 (plainElem (H:=Unit) Tryz.prog 4) b (L.length+1) ((setOf (.lit (.bool true)) (L.map litS):DataW Unit).put (litS s) (.lit (.bool true)))):UseAt w' b (L++[s]):=by
 rw[setOf_put] at h
 unfold UseAt
 rw[List.length_append]
 exact h
theorem exBox {w:World} {g:Nat} {T:TypeId} {op n:Int} {s name src:ByteArray} {A:Option Addr} {m c:Nat} (h:IsBlk w g T #[.int .i64 op,.int .i64 n,.string s,.string name,.string src,.slice A m c]) :
  w.cell? ⟨g,0,none⟩=some (.int .i64 op)∧w.cell? ⟨g,1,none⟩=some (.int .i64 n)∧w.cell? ⟨g,2,none⟩=some (.string s)∧w.cell? ⟨g,3,none⟩=some (.string name)∧w.cell? ⟨g,4,none⟩=some (.string src)∧w.cell? ⟨g,5,none⟩=some (.slice A m c)∧g<w.heap.size:=by
 have h0:=h.cell 0;have h1:=h.cell 1;have h2:=h.cell 2;have h3:=h.cell 3;have h4:=h.cell 4;have h5:=h.cell 5
 simp at h0 h1 h2 h3 h4 h5
 exact⟨h0,h1,h2,h3,h4,h5,h.lt⟩
open Go.RowKit Go.Afx Go.Maps Go.WideMaps
theorem RowsAt.drew {w:World} {sz:Nat} {A:Option Addr} {n c:Nat} {xs:List (List Value)} (h:RowsAt w sz A n c xs):RowsAt w.drew sz A n c xs:=⟨h.len,h.cap,h.max,h.at_⟩
def NB (b1 b2 b3:Nat):Nat→Prop:=fun k=>k≠b1∧k≠b2∧k≠b3
def S3 (b1 b2 b3:Nat):Nat→Prop:=fun k=>k=b1∨k=b2∨k=b3
structure Sets (w:World) (b1 b2 b3:Nat) (L1 L2 L3:List ByteArray):Prop where
 one:UseAt w b1 L1
 two:UseAt w b2 L2
 three:UseAt w b3 L3
 n12:b1≠b2
 n13:b1≠b3
 n23:b2≠b3
section
variable {w w':World} {b1 b2 b3:Nat} {L1 L2 L3:List ByteArray}
theorem Sets.below (h:Sets w b1 b2 b3 L1 L2 L3) (hb:Below w.heap.size w w'):Sets w' b1 b2 b3 L1 L2 L3:=⟨h.one.below hb,h.two.below hb,h.three.below hb,h.n12,h.n13,h.n23⟩
theorem Sets.first {L:List ByteArray} (h:Sets w b1 b2 b3 L1 L2 L3) (hu:UseAt w' b1 L) (hb:But (fun k=>k=b1) w w'):Sets w' b1 b2 b3 L L2 L3:=⟨hu,h.two.but hb h.n12.symm,h.three.but hb h.n13.symm,h.n12,h.n13,h.n23⟩
theorem Sets.second {L:List ByteArray} (h:Sets w b1 b2 b3 L1 L2 L3) (hu:UseAt w' b2 L) (hb:But (fun k=>k=b2) w w'):Sets w' b1 b2 b3 L1 L L3:=⟨h.one.but hb h.n12,hu,h.three.but hb h.n23.symm,h.n12,h.n13,h.n23⟩
end
def Joined (b1 b2 b3:Nat) (d:Nat) (ys:List St) (n:Nat) (Q:World→Prop) (s55 s56 s57:Value) (W:World):Prop :=
 ∃ A c,s55=.slice A n c∧s56=.int .i64 n∧s57=.int .i64 0∧StsAt (NB b1 b2 b3) d W A n c ys∧Q W
open Go.RowKit Go.Afx Go.Maps Go.WideMaps
theorem UseAt.alloc {w:World} {b:Nat} {L:List ByteArray} (h:UseAt w b L) (o:Obj):UseAt (w.alloc o) b L:=World.ownsMap.alloc h o
theorem Sets.but {w w':World} {S:Nat→Prop} {b1 b2 b3:Nat} {L1 L2 L3:List ByteArray} (h:Sets w b1 b2 b3 L1 L2 L3) (hb:But S w w') (n1:¬ S b1) (n2:¬ S b2) (n3:¬ S b3):Sets w' b1 b2 b3 L1 L2 L3:=⟨h.one.but hb n1,h.two.but hb n2,h.three.but hb n3,h.n12,h.n13,h.n23⟩
def GivesU (w:World) (R Wr Em:List ByteArray) (r:Ending) (w':World):Prop :=
 ∃ b1 b2 b3,r=.returned (.agg #[.map (some b1),.map (some b2),.map (some b3)])∧Sets w' b1 b2 b3 R Wr Em∧Below w.heap.size w w'
open Go.RowKit Go.Afx Go.Maps Go.WideMaps Go.Shelf Go.Sort
def setL (L:List ByteArray):List (List UInt8):=(strKeys (setOf (.lit (.bool true)) (L.map litS):DataW Unit)).mergeSort fun x y=>decide (x≤y)
def OwnsN (w:World) (ns:List (List UInt8)) (e:Ending) (w':World):Prop :=
 ∃ A c,e=.returned (.slice A ns.length c)∧w'.ownsRow w.heap.size 9 1 (.slice A ns.length c) ns.length (ns.map encStr)∧Below w.heap.size w w'
open Go.RowKit Go.Afx
theorem resB_no {s:ByteArray} (h:∀ y∈wordsL,(y.toList==s.toList)=false):resB s=false:=by
 unfold resB
 rw[List.any_eq_false]
 exact fun y hy=>by simp[h y hy]
theorem resB_yes {s y:ByteArray} (h:y∈wordsL) (hy:(y.toList==s.toList)=true):resB s=true:=by
 unfold resB
 rw[List.any_eq_true]
 exact⟨y,h,hy⟩
theorem words_ok:∀ y∈wordsL,okS y:=by unfold okS;decide +kernel
theorem resRef_any (s:ByteArray) (w:World):Calls Tryz.prog 114 #[.string s] w fun x w'=>x=.returned (.bool (resB s))∧Below w.heap.size w w':=by
 obtain⟨w1,Hw1⟩:∃ w1,Hid (w1=w.alloc (.cells (wordsL.map fun s=>Value.string s).toArray 9)):=⟨_,rfl⟩
 have hb1:Below w.heap.size w w1:=by rw[Hw1.out];exact(Below.refl _ _).alloc (Nat.le_refl _) _
 have hl:LsAt (fun _=>True) w1 1 SRow (some ⟨w.heap.size,0,none⟩) 43 43 wordsL:=by
  rw[Hw1.out]
  refine⟨wordsL.map fun s=>[.string s],RowsAt.lit _ _ 43 rfl (by simp) rfl (by unfold maxLen;omega),fun _ _ _=>trivial,rfl,fun k r x hr hx=>?_⟩
  rw[List.getElem?_map,hx] at hr
  simp at hr
  subst hr
  exact⟨rfl,rfl,words_ok x (List.mem_of_getElem? hx)⟩
 have Hw2:Hid (w1=w.alloc (.cells (wordsL.map fun s=>Value.string s).toArray 9)):=Hw1
 simp only[wordsL,str,List.map_cons,List.map_nil] at Hw1
 have Hl:=Lhd hl
 clear hl
 go_enter Tryz.func114,Tryz.ntmps114
 go_wp2
 rw[← Hw1.out]
 go_loop [4] (fun i=>∃ k:Nat,k≤43∧i=.int .i64 k∧∀ y∈wordsL.take k,(y.toList==s.toList)=false) (fun i=>43-(intOf i).toNat)
 case atStart=>exact⟨0,Nat.zero_le _,rfl,by simp⟩
 case round =>
  obtain⟨k,hk,rfl,hno⟩:=hrel
  have Hno:=Lhd hno;clear hno
  by_cases hlt:k<43
  ·obtain⟨b,o,x,hA,hbl,hx,hs,hc0⟩:=strAt Hl.out hlt
   cases hA
   have Hx:=Lhd hx;clear hx
   simp only[Nat.zero_add] at hc0
   by_cases he:(x.toList==s.toList)=true
   ·have Hf:=Lhd (resB_yes (List.mem_of_getElem? Hx.out) he)
    go_wp2
    go_ret
    exact⟨by rw[Hf.out];rfl,hb1⟩
   ·have he:(x.toList==s.toList)=false:=by simpa using he
    have Hne:=Lhd (mem_take_succ Hx.out Hno.out he)
    go_wp2
    go_round
    case rel=>exact⟨k+1,by omega,by go_num,Hne.out⟩
    case measure=>simp[intOf];omega
  ·go_wp2
   go_ret
   have h1:=Hno.out
   rw[List.take_of_length_le (by simp only[wordsL,List.length_cons,List.length_nil];omega)] at h1
   exact⟨ret_bool (resB_no h1).symm,hb1⟩
theorem named_eq (s:ByteArray) (h:0<s.size):namedB s=(decide (s.size≤16)&&letterB s[0]&&s.data.toList.all partB):=by
 obtain⟨c,r,hs,hc,hl⟩:=list_of s h
 unfold namedB
 rw[hs,hc,← hl]
 simp only[List.all_cons]
 cases hq:letterB c
 ·simp
 ·simp[letter_part hq]
theorem namedRef_any (s:ByteArray) (w:World) (hs:okS s):Calls Tryz.prog 61 #[.string s] w fun x w'=>x=.returned (.bool (namedB s))∧w=w':=by
 unfold okS at hs
 by_cases h0:s.size=0
 ·have hn:namedB s=false:=by
   unfold namedB
   have:s.data.toList=[]:=List.eq_nil_of_length_eq_zero (by simpa using h0)
   rw[this]
  have hd:decide ((s.size:Int)<1)=true:=by simp;omega
  have Hn:=Lhd hn
  clear h0 hn
  go_enter Tryz.func61,Tryz.ntmps61
  go_wp2
  go_ret
  exact⟨by rw[Hn.out];rfl,rfl⟩
 ·have hpos:0<s.size:=by omega
  have hd:decide ((s.size:Int)<1)=false:=by simp;omega
  have hn:=named_eq s hpos
  clear h0
  by_cases h16:16<s.size
  ·have hn2:namedB s=false:=by rw[hn];simp;omega
   have Hn:=Lhd hn2
   clear hn hn2
   have hd2:decide ((16:Int)<(s.size:Int))=true:=by simp;omega
   go_enter Tryz.func61,Tryz.ntmps61
   go_wp2
   go_ret
   exact⟨by rw[Hn.out];rfl,rfl⟩
  ·have hd2:decide ((16:Int)<(s.size:Int))=false:=by simp;omega
   have hn2:namedB s=(letterB s[0]&&s.data.toList.all partB):=by rw[hn,decide_eq_true (by omega:s.size≤16),Bool.true_and]
   have Hn:=Lhd hn2
   clear hn hn2
   go_enter Tryz.func61,Tryz.ntmps61
   go_wp2
   clear hd hd2
   go_loop [3] (fun i=>∃ k:Nat,k≤s.size∧i=.int .i64 k∧(k=0∨letterB s[0]=true)∧∀ y∈s.data.toList.take k,partB y=true) (fun i=>s.size-(intOf i).toNat)
   case atStart=>exact⟨0,Nat.zero_le _,rfl,.inl rfl,by simp⟩
   case round =>
    obtain⟨k,hk,rfl,hl0,hall⟩:=hrel
    have Hall:=Lhd hall
    have Hl0:=Lhd hl0
    clear hall hl0
    by_cases hlt:k<s.size
    ·have Hy:=Lhd (show s.data.toList[k]?=some s[k] by rw[List.getElem?_eq_getElem (by simpa using hlt)];rfl)
     have Hgo:=Lhd (fun (h1:partB s[k]=true) (h2:k=0→letterB s[k]=true)=>(⟨by
       by_cases hk0:k=0
       ·subst hk0;exact .inr (h2 rfl)
       ·rcases Hl0.out with h|h
        ·exact absurd h hk0
        ·exact .inr h,mem_take_succ Hy.out Hall.out h1⟩:(k+1=0∨letterB s[0]=true)∧∀ y∈s.data.toList.take (k+1),partB y=true))
     have Hst:=Lhd (fun (h:letterB s[k]=false) (hk0:k=0)=>(show namedB s=false by subst hk0;rw[Hn.out,h];rfl))
     have Hst2:=Lhd (fun (h:partB s[k]=false)=>(show namedB s=false by
      have:s.data.toList.all partB=false:=by rw[List.all_eq_false];exact⟨_,List.mem_of_getElem? Hy.out,by simp[h]⟩
      rw[Hn.out,this];simp))
     have HL:Hid (letterB s[k]=(decide (97≤s[k].toNat)&&decide (s[k].toNat≤122))):=Lhd rfl
     have HP:Hid (partB s[k]=((decide (97≤s[k].toNat)&&decide (s[k].toNat≤122))||(decide (48≤s[k].toNat)&&decide (s[k].toNat≤57))||decide (s[k].toNat=95))):=Lhd rfl
     generalize hc:s[k].toNat=c at HL HP
     by_cases hA:97≤c
     ·by_cases hB:c≤122
      ·have dA:(decide ((97:Int)≤(s[k].toNat:Int)))=true:=by simp;omega
       have dB:(decide ((s[k].toNat:Int)≤(122:Int)))=true:=by simp;omega
       have Hg:=Lhd (Hgo.out (by rw[HP.out];simp;omega) (by intro h;rw[HL.out];simp;omega))
       clear hc
       go_wp2
       go_round
       case rel=>exact⟨k+1,by omega,by go_num,Hg.out.1,Hg.out.2⟩
       case measure=>simp[intOf];omega
      ·by_cases hk0:k=0
       ·have dA:(decide ((97:Int)≤(s[k].toNat:Int)))=true:=by simp;omega
        have dB:(decide ((s[k].toNat:Int)≤(122:Int)))=false:=by simp;omega
        have dK:(((k:Int)==0))=true:=by simp;omega
        have Hg:=Lhd (Hst.out (by rw[HL.out];simp;omega) (by omega))
        clear hc hk0
        go_wp2
        go_ret
        exact⟨ret_bool Hg.out.symm,rfl⟩
       ·have dA:(decide ((97:Int)≤(s[k].toNat:Int)))=true:=by simp;omega
        have dB:(decide ((s[k].toNat:Int)≤(122:Int)))=false:=by simp;omega
        have dC:(decide ((48:Int)≤(s[k].toNat:Int)))=true:=by simp;omega
        have dD:(decide ((s[k].toNat:Int)≤(57:Int)))=false:=by simp;omega
        have dE:(((s[k].toNat:Int) !=95))=true:=by simp;omega
        have dK:(((k:Int)==0))=false:=by simp;omega
        have Hg:=Lhd (Hst2.out (by rw[HP.out];simp;omega))
        clear hc
        go_wp2
        go_ret
        exact⟨ret_bool Hg.out.symm,rfl⟩
     ·by_cases hk0:k=0
      ·have dA:(decide ((97:Int)≤(s[k].toNat:Int)))=false:=by simp;omega
       have dK:(((k:Int)==0))=true:=by simp;omega
       have Hg:=Lhd (Hst.out (by rw[HL.out];simp;omega) (by omega))
       clear hc hk0
       go_wp2
       go_ret
       exact⟨ret_bool Hg.out.symm,rfl⟩
      ·by_cases hC:48≤c
       ·by_cases hD:c≤57
        ·have dA:(decide ((97:Int)≤(s[k].toNat:Int)))=false:=by simp;omega
         have dC:(decide ((48:Int)≤(s[k].toNat:Int)))=true:=by simp;omega
         have dD:(decide ((s[k].toNat:Int)≤(57:Int)))=true:=by simp;omega
         have dK:(((k:Int)==0))=false:=by simp;omega
         have Hg:=Lhd (Hgo.out (by rw[HP.out];simp;omega) (by intro h;rw[HL.out];simp;omega))
         clear hc
         go_wp2
         go_round
         case rel=>exact⟨k+1,by omega,by go_num,Hg.out.1,Hg.out.2⟩
         case measure=>simp[intOf];omega
        ·by_cases hE:c=95
         ·have dA:(decide ((97:Int)≤(s[k].toNat:Int)))=false:=by simp;omega
          have dC:(decide ((48:Int)≤(s[k].toNat:Int)))=true:=by simp;omega
          have dD:(decide ((s[k].toNat:Int)≤(57:Int)))=false:=by simp;omega
          have dE:(((s[k].toNat:Int) !=95))=false:=by simp;omega
          have dK:(((k:Int)==0))=false:=by simp;omega
          have Hg:=Lhd (Hgo.out (by rw[HP.out];simp;omega) (by intro h;rw[HL.out];simp;omega))
          clear hc
          go_wp2
          go_round
          case rel=>exact⟨k+1,by omega,by go_num,Hg.out.1,Hg.out.2⟩
          case measure=>simp[intOf];omega
         ·have dA:(decide ((97:Int)≤(s[k].toNat:Int)))=false:=by simp;omega
          have dC:(decide ((48:Int)≤(s[k].toNat:Int)))=true:=by simp;omega
          have dD:(decide ((s[k].toNat:Int)≤(57:Int)))=false:=by simp;omega
          have dE:(((s[k].toNat:Int) !=95))=true:=by simp;omega
          have dK:(((k:Int)==0))=false:=by simp;omega
          have Hg:=Lhd (Hst2.out (by rw[HP.out];simp;omega))
          clear hc
          go_wp2
          go_ret
          exact⟨ret_bool Hg.out.symm,rfl⟩
       ·have dA:(decide ((97:Int)≤(s[k].toNat:Int)))=false:=by simp;omega
        have dC:(decide ((48:Int)≤(s[k].toNat:Int)))=false:=by simp;omega
        have dE:(((s[k].toNat:Int) !=95))=true:=by simp;omega
        have dK:(((k:Int)==0))=false:=by simp;omega
        have Hg:=Lhd (Hst2.out (by rw[HP.out];simp;omega))
        clear hc
        go_wp2
        go_ret
        exact⟨ret_bool Hg.out.symm,rfl⟩
    ·go_wp2
     go_ret
     have h1:=Hall.out
     rw[List.take_of_length_le (by simp;omega)] at h1
     have h2:letterB s[0]=true:=Hl0.out.resolve_left (by omega)
     exact⟨ret_bool (by rw[Hn.out,h2,Bool.true_and,eq_comm,List.all_eq_true];exact h1),rfl⟩
theorem freeRef_any (s:ByteArray) (w:World) (hs:okS s):Calls Tryz.prog 69 #[.string s] w fun x w'=>x=.returned (.bool (freeB s))∧Below w.heap.size w w':=by
 have h1:=namedRef_any s w hs
 have h2:=resRef_any s w
 have hf:freeB s=(namedB s&&!resB s):=rfl
 generalize resB s=r at *
 generalize namedB s=q at *
 have Hf:=Lhd hf
 have H1:=Lhd h1
 have H2:=Lhd h2
 clear h1 h2 hf
 cases q
 ·go_enter Tryz.func69,Tryz.ntmps69
  go_wp2_with (go_at_call 61;refine H1.out.mono ?_;rintro x w1 ⟨rfl,rfl⟩)
  go_ret
  exact⟨ret_bool (by rw[Hf.out];rfl),Below.refl _ _⟩
 ·go_enter Tryz.func69,Tryz.ntmps69
  go_wp2_with (first|(go_at_call 61;refine H1.out.mono ?_;rintro x w1 ⟨rfl,rfl⟩)|(go_at_call 114;refine H2.out.mono ?_;rintro x w2 ⟨rfl,hb2⟩))
  go_ret
  exact⟨ret_bool (by rw[Hf.out];rfl),hb2⟩
open Go.RowKit Go.Afx Go.Maps
def NamesAt (w:World) (A:Option Addr) (n c:Nat) (xs:List ByteArray):Prop:=RowsAt w 1 A n c (xs.map srow)
theorem NamesAt.below {w w':World} {A:Option Addr} {n c:Nat} {xs:List ByteArray} (h:NamesAt w A n c xs) (hb:Below w.heap.size w w'):NamesAt w' A n c xs:=RowsAt.below h hb
theorem NamesAt.len {w:World} {A:Option Addr} {n c:Nat} {xs:List ByteArray} (h:NamesAt w A n c xs):xs.length=n:=by have:=RowsAt.len h;simpa using this
theorem NamesAt.at_ {w:World} {A:Option Addr} {n c:Nat} {xs:List ByteArray} (h:NamesAt w A n c xs) {k:Nat} (hk:k<n):∃ b o x,A=some ⟨b,o,none⟩∧b<w.heap.size∧xs[k]?=some x∧w.cell? ⟨b,o+k,none⟩=some (.string x):=by
 have hl:=h.len
 have hx:xs[k]?=some (xs[k]'(by omega)):=List.getElem?_eq_getElem _
 obtain⟨b,o,hA,hb,hc⟩:=RowsAt.one (u:=.string (xs[k]'(by omega))) h (k:=k) (by rw[List.getElem?_map,hx];rfl)
 exact⟨b,o,_,hA,hb,hx,hc⟩
/-! the example -/
def exE:Ex:=.mk 3 1 (str []) (str []) (str []) []
def exS:St:=.mk 5 (str [97]) (str [116]) 0 [] [exE] [] []
def exP:Pr:=⟨str [112],str [],str [],1,[],[exS]⟩
theorem OwnsN.names {w:World} {base:Nat} {A:Option Addr} {c:Nat} {ns:List (List UInt8)} (h:w.ownsRow base 9 1 (.slice A ns.length c) ns.length (ns.map encStr)):NamesAt w A ns.length c (ns.map str):=by
 have e:((ns.map str).map srow).flatten=ns.map encStr:=by
  rw[List.map_map]
  induction ns with
  | nil=>rfl
  | cons a r ih =>
   have:∀ r:List (List UInt8),(r.map (srow ∘ str)).flatten=r.map encStr:=by
    intro r
    induction r with
    | nil=>rfl
    | cons b r ih=>rw[List.map_cons,List.flatten_cons,ih];rfl
   exact this _
 exact RowsAt.of_own (e▸h) srow_len (by simp)
theorem pick_none (k:Int) (w:World):Calls Tryz.prog 16 #[.int .i64 k,.int .i64 0] w fun x w'=>x=.returned (.int .i64 (-1))∧w=w':=by
 go_enter Tryz.func16,Tryz.ntmps16
 go_wp2
 go_ret
 exact⟨rfl,rfl⟩
theorem pick_zero (k:Int) (n:Nat) (w:World) (hn:n=0):Calls Tryz.prog 16 #[.int .i64 k,.int .i64 (n:Int)] w fun x w'=>x=.returned (.int .i64 (-1))∧w=w':=by
 subst hn
 exact pick_none k w
theorem u64_nonneg (k:Int):0≤IntKind.u64.wrap k:=by
 simp only[IntKind.wrap,IntKind.bits,IntKind.signed]
 simp
 omega
def pickN (k:Int) (n:Nat):Nat:=n-1-(IntKind.u64.wrap k % (n:Int)).toNat
theorem pickN_lt (k:Int) (n:Nat) (h:0<n):pickN k n<n:=by unfold pickN;omega
theorem pick_int (k:Int) (n:Nat) (h0:0<n) (h1:n≤1000):wrap64 ((n:Int)-1-wrap64 ((IntKind.u64.wrap k).tmod (n:Int)))=(pickN k n:Int):=by
 have hu:=u64_nonneg k
 unfold pickN
 generalize IntKind.u64.wrap k=u at *
 rw[Int.tmod_eq_emod_of_nonneg hu]
 have a:=Int.emod_nonneg u (b:=(n:Int)) (by omega)
 have b:=Int.emod_lt_of_pos u (b:=(n:Int)) (by omega)
 generalize u % (n:Int)=m at *
 rw[IntWalk.wrap64_in m ⟨by omega,by omega⟩,IntWalk.wrap64_in _ ⟨by omega,by omega⟩]
 omega
theorem pick_some (k:Int) (n:Nat) (w:World) (h0:0<n) (h1:n≤1000):Calls Tryz.prog 16 #[.int .i64 k,.int .i64 (n:Int)] w fun x w'=>x=.returned (.int .i64 (pickN k n:Int))∧w=w':=by
 have hd:((n:Int)==0)=false:=by simp;omega
 go_enter Tryz.func16,Tryz.ntmps16
 go_wp2
 go_ret
 exact⟨ret_int (pick_int k n h0 h1),rfl⟩
theorem told2_any (n d:Int) (w:World):Calls Tryz.prog 17 #[.int .i64 n,.int .i64 d] w fun x w'=>x=.returned (.tuple #[.int .i64 (toldZ (n,d)).1,.int .i64 (toldZ (n,d)).2])∧w=w':=by
 by_cases h1:1000≤n
 ·have hf:toldZ (n,d)=(1000,1000):=by simp[toldZ,fullZ,h1]
  have Hf:=Lhd hf
  have hd:decide ((1000:Int)≤n)=true:=by simpa using h1
  clear hf
  go_enter Tryz.func17,Tryz.ntmps17
  go_wp2
  go_ret2
  exact⟨by rw[Hf.out];rfl,rfl⟩
 ·have hd:decide ((1000:Int)≤n)=false:=by simpa using h1
  by_cases h2:1000≤d
  ·have hf:toldZ (n,d)=(1000,1000):=by simp[toldZ,fullZ,h2]
   have Hf:=Lhd hf
   have hd2:decide ((1000:Int)≤d)=true:=by simpa using h2
   clear hf
   go_enter Tryz.func17,Tryz.ntmps17
   go_wp2
   go_ret2
   exact⟨by rw[Hf.out];rfl,rfl⟩
  ·have hd2:decide ((1000:Int)≤d)=false:=by simpa using h2
   have hf:toldZ (n,d)=(n,d):=by simp[toldZ,fullZ,h1,h2]
   have Hf:=Lhd hf
   clear hf
   go_enter Tryz.func17,Tryz.ntmps17
   go_wp2
   go_ret2
   exact⟨by rw[Hf.out];rfl,rfl⟩
end Go.Proofs.YtdgapmnojmhllaaGreatDoor

/- Parts of this proof, one behind the other: PrtD, PrtE, PrtF, PrtG, PrtH. -/
import Derived.Test.YtjjfkhbajidmdaaGreatDoorPb14
import Derived.Test.YtjjfkhbajidmdaaGreatDoorShelfR
import Derived.Lib.Replace
import Derived.Deep.Cut
import Derived.Outline
import Derived.Deep.RegionHeld3
import Derived.RegionTactic
import Derived.ChangeAlike
set_option maxRecDepth 1000000
set_option maxHeartbeats 40000000
namespace Go.Proofs.YtjjfkhbajidmdaaGreatDoor
open Go.RowKit Go.Afx
theorem P8 {b:UInt8} (h:(b==39)=false) (l:List UInt8):Ai (b::l)=b::Ai l:=by
 unfold Ai
 rw[List.flatMap_cons,if_neg (by simpa using h)]
 rfl
theorem adG {l:List UInt8}:Ai (39::l)=39::39::Ai l:=by
 unfold Ai
 rw[List.flatMap_cons,if_pos rfl]
 rfl
theorem aas {l:List UInt8} (h:Lib.indexByte l 39 = -1):Ai l=l:=by
 induction l with
 | nil=>rfl
 | cons b l ih =>
  unfold Lib.indexByte at h
  cases hb:b==39
  ·rw[hb] at h
   simp only[Bool.false_eq_true,if_false] at h
   rw[P8 hb,ih (by
    have:=Lib.indexByte_ge l 39
    split at h
    ·rename_i h2;simpa using h2
    ·omega)]
  ·rw[hb] at h;simp at h
theorem ag7 {l:List UInt8}:∀ {i:Nat},Lib.indexByte l 39=i→Ai l=l.take i++[39,39]++Ai (l.drop (i+1)):=by
 induction l with
 | nil=>intro i h;simp[Lib.indexByte] at h
 | cons b l ih =>
  intro i h
  unfold Lib.indexByte at h
  cases hb:b==39
  ·rw[hb] at h
   simp only[Bool.false_eq_true,if_false] at h
   have:=Lib.indexByte_ge l 39
   split at h
   ·omega
   ·rename_i h2
    have h2:Lib.indexByte l 39≠-1:=by simpa using h2
    have hi:1≤i:=by omega
    have hj:Lib.indexByte l 39=((i-1:Nat):Int):=by omega
    have h3:=ih hj
    obtain⟨j,rfl⟩:∃ j,i=j+1:=⟨i-1,by omega⟩
    rw[Nat.add_sub_cancel] at h3
    rw[P8 hb,h3]
    rfl
  ·rw[hb] at h
   simp only[if_true] at h
   obtain rfl:i=0:=by omega
   have:b=39:=by simpa using hb
   subst this
   exact adG
theorem S9 {c:UInt8}:∀ {l:List UInt8},l.count c=0→Lib.indexByte l c = -1:=by
 intro l
 induction l with
 | nil=>intro _;rfl
 | cons b l ih =>
  intro h
  rw[List.count_cons] at h
  unfold Lib.indexByte
  cases hb:b==c
  ·rw[hb] at h
   simp only[Bool.false_eq_true,if_false,Nat.add_zero] at h ⊢
   rw[ih h]
   rfl
  ·rw[hb] at h;simp at h
theorem P9:∀ (k:Nat) (l:List UInt8),Lib.count l [39]=k→Lib.replaceK [39] [39,39] k l=Ai l:=by
 intro k
 induction k with
 | zero =>
  intro l h
  rw[Lib.count_one] at h
  rw[aas (S9 h)]
  rfl
 | succ k ih =>
  intro l h
  obtain⟨i,hi⟩:=Lib.index_of_count (s:=l) (old:=[39]) (by omega)
  have h1:=Lib.count_hit (by simp) hi
  rw[Lib.replaceK_hit _ _ _ _ i hi,ih _ (by omega)]
  rw[Lib.index_one] at hi
  exact(ag7 hi).symm
theorem IP (l:List UInt8):Lib.replaceAll l [39] [39,39]=Ai l:=by
 unfold Lib.replaceAll Lib.replace
 rw[if_neg (by decide)]
 refine P9 _ l ?_
 unfold Lib.replaceNum
 rw[if_pos (by left;decide)]
def dZ (w:World):Prop:=∃ m:Int,w.cell? ⟨0,0,none⟩=some (.int .i64 m)
theorem dZ.below {w w':World} {g:Nat} (h:dZ w) (hg:0<g) (hb:Below g w w'):dZ w':=by
 obtain⟨m,hm⟩:=h
 exact⟨m,(hb.cell (p:=⟨0,0,none⟩) hg).trans hm⟩
theorem dZ.lt {w:World} (h:dZ w):0<w.heap.size:=by
 obtain⟨m,hm⟩:=h
 exact World.block_lt_of_cell? w _ hm
theorem aat (s:ByteArray) (w:World):Calls Tryz.prog 65 #[.string s] w fun e w'=>e=.returned (.agg #[.int .i64 2,.int .i64 0,.string s])∧Below w.heap.size w w':=by
 go_enter Tryz.func65,Tryz.ntmps65
 go_wp2
 refine bodyPost_ret (v:=.agg #[.int .i64 2,.int .i64 0,.string s]) (by simp[results,Tryz.results65,go_sem]) rfl ⟨rfl,?_⟩
 exact(Below.refl _ _).alloc (Nat.le_refl _) _
theorem Qa (b:Bool) (w:World):Calls Tryz.prog 66 #[.bool b] w fun e w'=>e=.returned (.agg #[.int .i64 3,.int .i64 (if b then 1 else 0),.string ⟨#[]⟩])∧Below w.heap.size w w':=by
 cases b
 all_goals
  go_enter Tryz.func66,Tryz.ntmps66
  go_wp2
 ·refine bodyPost_ret (v:=.agg #[.int .i64 3,.int .i64 0,.string ⟨#[]⟩]) (by simp[results,Tryz.results66,go_sem]) rfl ⟨rfl,?_⟩
  exact((Below.refl _ _).alloc (Nat.le_refl _) _).alloc (by simp) _
 ·refine bodyPost_ret (v:=.agg #[.int .i64 3,.int .i64 1,.string ⟨#[]⟩]) (by simp[results,Tryz.results66,go_sem]) rfl ⟨rfl,?_⟩
  exact((Below.refl _ _).alloc (Nat.le_refl _) _).alloc (by simp) _
theorem adH {a b:ByteArray} (h:a.data=b.data):Ending.returned (.string a)=.returned (.string b):=by cases a;cases b;simp only at h;rw[h]
theorem aau {w:World} {g:Nat} {T:TypeId} {v0 v1 v2:Value} (h:af w g T #[v0,v1,v2]):w.cell? ⟨g,0,none⟩=some v0∧w.cell? ⟨g,1,none⟩=some v1∧w.cell? ⟨g,2,none⟩=some v2∧g<w.heap.size:=by
 obtain⟨h0,h1,h2,h3,_⟩:=FN h
 exact⟨h0,h1,h2,h3⟩
theorem Tc (s:ByteArray) (w:World) (hs:s.size≤200):Calls Tryz.prog 100 #[.agg #[.int .i64 2,.int .i64 0,.string s]] w fun e w'=>e=.returned (.bool false)∧Below w.heap.size w w':=by
 have hd:decide ((200:Int)<(s.size:Int))=false:=by simp;omega
 go_enter Tryz.func100,Tryz.ntmps100
 go_wp2
 go_ret
 exact⟨rfl,(Below.refl _ _).alloc (Nat.le_refl _) _⟩
theorem Td (n:Int) (w:World) (hn:n=0∨n=1):Calls Tryz.prog 100 #[.agg #[.int .i64 3,.int .i64 n,.string ⟨#[]⟩]] w fun e w'=>e=.returned (.bool false)∧Below w.heap.size w w':=by
 rcases hn with rfl|rfl
 all_goals
  go_enter Tryz.func100,Tryz.ntmps100
  go_wp2
  go_ret
  exact⟨rfl,(Below.refl _ _).alloc (Nat.le_refl _) _⟩
theorem Qb (s:ByteArray) (w:World) (hs:s.size≤200) (hm:dZ w):Calls Tryz.prog 64 #[.agg #[.int .i64 2,.int .i64 0,.string s]] w fun e w'=>e=.returned (.string ⟨(iH s).toArray⟩)∧Below w.heap.size w w':=by
 have hx:af (w.alloc (.cells #[.int .i64 2,.int .i64 0,.string s] 115)) w.heap.size 115 #[.int .i64 2,.int .i64 0,.string s]:=af.laid _ _ _
 obtain⟨w1,Hw1⟩:∃ w1,Hid (w1=w.alloc (.cells #[.int .i64 2,.int .i64 0,.string s] 115)):=⟨_,rfl⟩
 rw[← Hw1.out] at hx
 have hb1:Below w.heap.size w w1:=by rw[Hw1.out];exact(Below.refl _ _).alloc (Nat.le_refl _) _
 have Hx:=ae (fun W (hW:Below w1.heap.size w1 W)=>aau (hx.ag (hW.block _ hx.lt)))
 have Hwr:=ae (Tc s w1 hs)
 have Hre:=ae (fun W (hW:Below w1.heap.size w1 W)=>(show Calls Tryz.prog 101 #[.string s,.string ⟨#[39]⟩,.string ⟨#[39,39]⟩] W fun e w'=>e=.returned (.string ⟨(Ai s.data.toList).toArray⟩)∧Below W.heap.size W w' from by
  obtain⟨m,hm2⟩:=(hm.below hm.lt hb1).below (hm.below hm.lt hb1).lt hW
  have h:=Tryz.strings_ReplaceAll s ⟨#[39]⟩ ⟨#[39,39]⟩ m W (by omega) hm2 (by decide) (by
   have h1:Lib.countB s ⟨#[39]⟩≤s.data.toList.length+1:=Lib.count_le _ _
   have h2:s.data.toList.length=s.size:=rfl
   have h3:(⟨#[39,39]⟩:ByteArray).size=2:=rfl
   rw[h3]
   omega)
  have e:Lib.replaceAll s.data.toList (⟨#[39]⟩:ByteArray).data.toList (⟨#[39,39]⟩:ByteArray).data.toList=Ai s.data.toList:=IP _
  rw[e] at h
  exact h))
 have Hb1:=ae hb1
 have hR:Below w1.heap.size w1 w1:=Below.refl _ _
 obtain⟨x0,x1,x2,xl⟩:=Hx.out _ hR
 have hq:(Ai s.data.toList).length≤400:=by
  have h1:=Vx s.data.toList
  have h2:s.data.toList.length=s.size:=rfl
  omega
 clear hx hb1 hm
 go_enter Tryz.func64,Tryz.ntmps64
 go_upto_region 1 with (fail)
 rw[← Hw1.out]
 go_wp2_with (first
  | (go_at_call 100;refine Hwr.out.mono ?_;rintro e w2 ⟨rfl,hb2⟩;replace hR:=hR.trans (hb2.mono hR.size);obtain⟨x0,x1,x2,xl⟩:=Hx.out _ hR)
  | (go_at_call 101;refine(Hre.out _ hR).mono ?_;rintro e w3 ⟨rfl,hb3⟩))
 go_ret
 refine⟨adH ?_,Hb1.out.trans ((hR.trans (hb3.mono hR.size)).mono Hb1.out.size)⟩
 simp[ByteArray.data_append,iH]
theorem FO (b:Bool) (w:World):Calls Tryz.prog 64 #[.agg #[.int .i64 3,.int .i64 (if b then 1 else 0),.string ⟨#[]⟩]] w fun e w'=>e=.returned (.string ⟨(if b then jR else gz).toArray⟩)∧Below w.heap.size w w':=by
 obtain⟨n,Hn,hn⟩:∃ n:Int,Hid ((if b then 1 else 0:Int)=n)∧(n=0∨n=1):=⟨_,ae rfl,by cases b<;>simp⟩
 rw[Hn.out]
 have hx:af (w.alloc (.cells #[.int .i64 3,.int .i64 n,.string ⟨#[]⟩] 115)) w.heap.size 115 #[.int .i64 3,.int .i64 n,.string ⟨#[]⟩]:=af.laid _ _ _
 obtain⟨w1,Hw1⟩:∃ w1,Hid (w1=w.alloc (.cells #[.int .i64 3,.int .i64 n,.string ⟨#[]⟩] 115)):=⟨_,rfl⟩
 rw[← Hw1.out] at hx
 have hb1:Below w.heap.size w w1:=by rw[Hw1.out];exact(Below.refl _ _).alloc (Nat.le_refl _) _
 have Hx:=ae (fun W (hW:Below w1.heap.size w1 W)=>aau (hx.ag (hW.block _ hx.lt)))
 have Hwr:=ae (Td n w1 hn)
 have Hb1:=ae hb1
 have hR:Below w1.heap.size w1 w1:=Below.refl _ _
 obtain⟨x0,x1,x2,xl⟩:=Hx.out _ hR
 clear hx hb1 hn
 cases b
 ·obtain rfl:n=0:=Hn.out.symm
  go_enter Tryz.func64,Tryz.ntmps64
  go_upto_region 1 with (fail)
  rw[← Hw1.out]
  go_wp2_with (go_at_call 100;refine Hwr.out.mono ?_;rintro e w2 ⟨rfl,hb2⟩;replace hR:=hR.trans (hb2.mono hR.size);obtain⟨x0,x1,x2,xl⟩:=Hx.out _ hR)
  go_ret
  exact⟨rfl,Hb1.out.trans (hR.mono Hb1.out.size)⟩
 ·obtain rfl:n=1:=Hn.out.symm
  go_enter Tryz.func64,Tryz.ntmps64
  go_upto_region 1 with (fail)
  rw[← Hw1.out]
  go_wp2_with (go_at_call 100;refine Hwr.out.mono ?_;rintro e w2 ⟨rfl,hb2⟩;replace hR:=hR.trans (hb2.mono hR.size);obtain⟨x0,x1,x2,xl⟩:=Hx.out _ hR)
  go_ret
  exact⟨rfl,Hb1.out.trans (hR.mono Hb1.out.size)⟩
def IQ (op:Int) (w:World) (e:Ending) (w':World):Prop:=e=.returned (.tuple #[.string ⟨(jQ op).toArray⟩,.int .i64 (iM op)])∧Below w.heap.size w w'
theorem ag8 (op:Int) (w:World) (h:op=1∨op=2∨op=3∨op=4∨op=5∨op=11∨op=12∨op=13∨op=14∨op=15∨op=16∨op=21∨op=22∨op=23∨op=24):Calls Tryz.prog 62 #[.int .i64 op] w (IQ op w):=by
 have hb:∀ o,Below w.heap.size w (w.alloc o):=fun o=>(Below.refl _ _).alloc (Nat.le_refl _) o
 rcases h with rfl|rfl|rfl|rfl|rfl|rfl|rfl|rfl|rfl|rfl|rfl|rfl|rfl|rfl|rfl
 all_goals
  go_enter Tryz.func62,Tryz.ntmps62
  go_wp2
  go_ret2
  first|exact⟨rfl,Below.refl _ _⟩|exact⟨rfl,hb _⟩
theorem ag9 (op:Int) (w:World) (h:op=6∨op=7∨op=8∨op=9∨op=10∨op=17∨op=18∨op=19∨op=20):Calls Tryz.prog 62 #[.int .i64 op] w (IQ op w):=by
 rcases h with rfl|rfl|rfl|rfl|rfl|rfl|rfl|rfl|rfl
 all_goals
  go_enter Tryz.func62,Tryz.ntmps62
  go_wp2
  go_region
  all_goals
   go_wp2
   go_ret2
   exact⟨rfl,by repeat (first|exact Below.refl _ _|refine Below.drew ?_|refine Below.alloc ?_ (by simp) _|refine Below.alloc ?_ (by simp;omega) _)⟩
theorem jS (op:Int) (w:World) (h1:1≤op) (h2:op≤24):Calls Tryz.prog 62 #[.int .i64 op] w (IQ op w):=by
 by_cases h:op=6∨op=7∨op=8∨op=9∨op=10∨op=17∨op=18∨op=19∨op=20
 ·exact ag9 op w h
 ·exact ag8 op w (by omega)
theorem Tf (A:Option Addr) (c:Nat) (f:Value) (w:World):Calls Tryz.prog 131 #[.slice A 0 c,.slice none 0 0,f] w fun e w'=>e=.returned (.bool true)∧w=w':=by
 go_enter Tryz.func131,Tryz.ntmps131
 go_wp2
 refine wp_loop_rounds 1 ?_
 rw[rounds_succ]
 go_wp2
 go_ret
 exact⟨rfl,rfl⟩
def VB (b:Bool) (w:World) (e:Ending) (w':World):Prop:=e=.returned (.bool b)∧Below w.heap.size w w'
theorem IU (w:World) (o o2:Obj):Below w.heap.size w ((w.alloc o).alloc o2):=((Below.refl _ _).alloc (Nat.le_refl _) _).alloc (by simp) _
theorem WL (op n:Int) (s name src:ByteArray) (A:Option Addr) (m c:Nat) (w:World) (h:op≠3) :
  Calls Tryz.prog 102 #[.agg #[.int .i64 op,.int .i64 n,.string s,.string name,.string src,.slice A m c],.agg #[.int .i64 3,.int .i64 1,.string ⟨#[]⟩,.string ⟨#[]⟩,.string ⟨#[]⟩,.slice none 0 0]] w (VB false w):=by
 have e:(op==3)=false:=by simpa using h
 clear h
 go_enter Tryz.func102,Tryz.ntmps102
 go_wp2
 go_ret
 exact⟨rfl,IU _ _ _⟩
theorem Ti (n:Int) (s name src:ByteArray) (A:Option Addr) (m c:Nat) (w:World) (h:n≠1) :
  Calls Tryz.prog 102 #[.agg #[.int .i64 3,.int .i64 n,.string s,.string name,.string src,.slice A m c],.agg #[.int .i64 3,.int .i64 1,.string ⟨#[]⟩,.string ⟨#[]⟩,.string ⟨#[]⟩,.slice none 0 0]] w (VB false w):=by
 have e:(n==1)=false:=by simpa using h
 clear h
 go_enter Tryz.func102,Tryz.ntmps102
 go_wp2
 go_ret
 exact⟨rfl,IU _ _ _⟩
theorem WM (A:Option Addr) (c:Nat) (w:World) :
  Calls Tryz.prog 102 #[.agg #[.int .i64 3,.int .i64 1,.string ⟨#[]⟩,.string ⟨#[]⟩,.string ⟨#[]⟩,.slice A 0 c],.agg #[.int .i64 3,.int .i64 1,.string ⟨#[]⟩,.string ⟨#[]⟩,.string ⟨#[]⟩,.slice none 0 0]] w (VB true w):=by
 go_enter Tryz.func102,Tryz.ntmps102
 go_wp2_with (go_at_call 131;refine(Tf _ _ _ _).mono ?_;rintro e w' ⟨rfl,rfl⟩)
 go_ret
 exact⟨rfl,IU _ _ _⟩
theorem aav (F:Nat→Prop) (d:Nat) (x:Ex) (row:List Value) (w:World) (h:aC F d w row x) (hb:aA d x=true) :
  Calls Tryz.prog 102 #[.agg row.toArray,.agg #[.int .i64 3,.int .i64 1,.string ⟨#[]⟩,.string ⟨#[]⟩,.string ⟨#[]⟩,.slice none 0 0]] w (VB (decide (x.op=3∧x.n=1)) w):=by
 cases d with
 | zero=>exact h.elim
 | succ d =>
  obtain⟨_,_,_,_,_,A,m,c,rfl,hl⟩:=h.open_
  obtain⟨ha,hf,_⟩:=oI hb
  by_cases h3:x.op=3
  ·by_cases h1:x.n=1
   ·have hd:decide (x.op=3∧x.n=1)=true:=by simp[h3,h1]
    rw[hd]
    rw[h3] at ha hf ⊢
    rw[h1] at hf ⊢
    have e1:x.args.length=0:=by
     have:iY 3=0:=rfl
     omega
    have e2:m=0:=by rw[← ai.len hl];exact e1
    subst e2
    have hff:bT 3 1 x.s x.name x.src=(noS x.s&&noS x.name&&noS x.src):=by simp[bT]
    rw[hff] at hf
    simp only[Bool.and_eq_true] at hf
    obtain⟨⟨f1,f2⟩,f3⟩:=hf
    unfold noS at f1 f2 f3
    simp only[decide_eq_true_eq] at f1 f2 f3
    rw[f1,f2,f3]
    exact WM A c w
   ·have hd:decide (x.op=3∧x.n=1)=false:=by simp[h1]
    rw[hd,h3]
    exact Ti _ _ _ _ A m c w h1
  ·have hd:decide (x.op=3∧x.n=1)=false:=by simp[h3]
   rw[hd]
   exact WL _ _ _ _ _ A m c w h3
def KF (F:Nat→Prop) (d:Nat):Prop:=∀ (e:Ex) (row:List Value) (g:Nat) (t:List UInt8) (br:Bool) (w:World),aC F d w row e→aA d e=true→(∀ k,F k→k<g)→bz g t br w→dZ w→0<g→t.length+(aY d e).length≤1000000000 →
 Calls Tryz.prog 29 #[.pointer (some ⟨g,0,none⟩),.agg row.toArray] w fun e' w'=>e'=.returned (.tuple #[])∧bz g (t++aY d e) (br||zH d e) w'∧Wrote g w w'
theorem aC.wrote {F:Nat→Prop} {d g:Nat} {w w':World} {row:List Value} {e:Ex} (h:aC F d w row e) (hF:∀ k,F k→k<g) (hw:Wrote g w w'):aC F d w' row e :=
 h.kept ⟨hw.1.size,fun k _ hf=>hw.1.block k (hF k hf)⟩
theorem wP {F:Nat→Prop} {d:Nat} {w:World} {row:List Value} {e:Ex} (h:aC F d w row e):∃ A m c,row=[.int .i64 e.op,.int .i64 e.n,.string e.s,.string e.name,.string e.src,.slice A m c]:=by
 cases d with
 | zero=>exact h.elim
 | succ d=>obtain⟨_,_,_,_,_,A,m,c,h,_⟩:=h.open_;exact⟨A,m,c,h⟩
theorem lX {w:World} {g:Nat} {T:TypeId} {v0 v1 v2 v3 v4 v5:Value} (h:af w g T #[v0,v1,v2,v3,v4,v5]):w.cell? ⟨g,0,none⟩=some v0∧w.cell? ⟨g,1,none⟩=some v1∧w.cell? ⟨g,2,none⟩=some v2∧w.cell? ⟨g,3,none⟩=some v3∧w.cell? ⟨g,4,none⟩=some v4∧w.cell? ⟨g,5,none⟩=some v5∧g<w.heap.size:=by
 have h0:=h.cell 0;have h1:=h.cell 1;have h2:=h.cell 2;have h3:=h.cell 3;have h4:=h.cell 4;have h5:=h.cell 5
 simp at h0 h1 h2 h3 h4 h5
 exact⟨h0,h1,h2,h3,h4,h5,h.lt⟩
theorem aF (g n:Nat) (t:List UInt8) (br:Bool) (xs:List ByteArray) (w:World) (h:bz g t br w) (hn:xs.length=n) (hn2:n≤1000) (hlen:t.length+(aB xs).length≤1000000000) :
  Calls Tryz.prog 37 #[.pointer (some ⟨g,0,none⟩),.slice (some ⟨w.heap.size,0,none⟩) n n] (w.alloc (.cells (xs.map Value.string).toArray 9)) fun e w'=>e=.returned (.tuple #[])∧bz g (t++aB xs) br w'∧Wrote g w w':=by
 have hb:=(Below.refl w.heap.size w).alloc (Nat.le_refl _) (.cells (xs.map Value.string).toArray 9)
 refine(put_any g w.heap.size n t br xs _ (h.below hb) (af.laid _ _ _) hn hn2 hlen).mono ?_
 rintro e w' ⟨rfl,h1,h2⟩
 exact⟨rfl,h1,(Wrote.of_below (Nat.le_of_lt h.lt) hb).trans h2⟩
theorem Tj (F:Nat→Prop) (d:Nat) (hE:KF F d) (e:Ex) (row:List Value) (least:Int) (g:Nat) (t:List UInt8) (br:Bool) (w:World) (hx:aC F d w row e) (hb:aA d e=true) (hF:∀ k,F k→k<g) (h:bz g t br w) (hm:dZ w) (hg:0<g) (hlen:t.length+(tq least e.op (aY d e)).length≤1000000000) :
  Calls Tryz.prog 67 #[.pointer (some ⟨g,0,none⟩),.agg row.toArray,.int .i64 least] w fun e' w'=>e'=.returned (.tuple #[])∧bz g (t++tq least e.op (aY d e)) (br||zH d e) w'∧Wrote g w w':=by
 obtain⟨o1,o2⟩:=rQ hb
 obtain⟨A,m,c,hrow⟩:=wP hx
 obtain⟨l1,l2⟩:=Vy o1 o2
 have EH:=ae (fun W=>jS e.op W o1 o2)
 have wG:=ae (h.lt)
 obtain⟨w1,Hw1⟩:∃ w1,Hid (w1=w.alloc (.cells row.toArray 55)):=⟨_,rfl⟩
 have hb1:Wrote g w w1:=by rw[Hw1.out];exact Wrote.of_below (Nat.le_of_lt h.lt) ((Below.refl _ _).alloc (Nat.le_refl _) _)
 have hk1:af w1 w.heap.size 55 row.toArray:=by rw[Hw1.out];exact af.laid _ _ _
 have bU:bz g t br w1:=by rw[Hw1.out];exact h.below ((Below.refl _ _).alloc (Nat.le_refl _) _)
 have Hx:=ae (fun W (hW:Wrote g w1 W)=>(show af W w.heap.size 55 row.toArray from hW.2.2 _ _ _ (by decide) (by decide) hk1))
 have Hee:=ae (fun W (hW:Wrote g w1 W) t' (hwt:bz g t' br W) (hl:t'.length+(aY d e).length≤1000000000)=>hE e row g t' br W (aC.wrote hx hF (hb1.trans hW)) hb hF hwt (hm.below hg (hb1.trans hW).1) hg hl)
 subst hrow
 have Hb1:=ae hb1
 have Hlen:=ae hlen
 clear hE hx hm hF hb h hk1 hlen
 by_cases hc:iM e.op<least
 ·have hop:tq least e.op (aY d e)=[40]++aY d e++[41]:=by unfold tq;rw[if_pos hc]
  rw[hop] at Hlen ⊢
  have hdc:decide (iM e.op<least)=true:=by simp[hc]
  go_enter_defers Tryz.func67,Tryz.ntmps67
  go_upto_region 1 with (fail)
  rw[← Hw1.out]
  obtain⟨x0,x1,x2,x3,x4,x5,xl⟩:=lX (Hx.out _ (Wrote.refl _ _))
  go_wp2_with (go_at_call 62;refine(EH.out _).mono ?_;rintro e' w2 ⟨rfl,hb2⟩)
  have gm:=ae (Wrote.of_below (Nat.le_of_lt bU.lt) hb2)
  have h2:=bU.below hb2
  clear bU hb1
  refine(aF g 1 t br [⟨#[40]⟩] _ h2 rfl (by decide) (by
   have:=Hlen.out
   simp only[List.length_append,List.length_cons,List.length_nil] at this
   simp only[aB,List.map_cons,List.map_nil,List.flatten_cons,List.flatten_nil,List.length_append,List.length_cons,List.length_nil]
   omega)).mono ?_
  rintro e' w3 ⟨rfl,bH,hr3⟩
  have uB:=gm.out.trans hr3
  have jm:=ae uB
  have e3:t++aB [⟨#[40]⟩]=t++[40]:=rfl
  rw[e3] at bH
  obtain⟨y0,y1,y2,y3,y4,y5,yl⟩:=lX (Hx.out _ uB)
  have hb4:=(Below.refl w3.heap.size w3).alloc (Nat.le_refl _) (.cells #[.string ⟨#[41]⟩] 9)
  have jg:=ae (uB.trans (Wrote.of_below (Nat.le_of_lt bH.lt) hb4))
  have am0:=ae (bH.below hb4)
  have tK:=ae (show af (w3.alloc (.cells #[.string ⟨#[41]⟩] 9)) w3.heap.size 9 #[.string ⟨#[41]⟩] from af.laid _ _ _)
  clear x0 x1 x2 x3 x4 x5 hr3 uB bH hb2 h2 hb4
  have zJ:=ae (show (t++[40]).length+(aY d e).length≤1000000000 from by
   have:=Hlen.out
   simp only[List.length_append,List.length_cons,List.length_nil] at this ⊢
   omega)
  go_wp2_with (go_at_call 29;refine(Hee.out _ jg.out _ am0.out zJ.out).mono ?_)
  rintro e' w5 ⟨rfl,di,jf⟩
  have Hd:=ae (akm .returning g w3.heap.size 1 _ _ [⟨#[41]⟩] w5 di (jf.2.2 _ _ _ (by decide) (by decide) tK.out) rfl (by decide) (by
   have:=Hlen.out
   simp only[List.length_append,List.length_cons,List.length_nil] at this
   simp only[aB,List.map_cons,List.map_nil,List.flatten_cons,List.flatten_nil,List.length_append,List.length_cons,List.length_nil]
   omega))
  have lY:=ae (Hb1.out.trans (jg.out.trans jf))
  clear di jf
  go_wp2
  refine leaves_cons (f:=37) (args:=#[.pointer (some ⟨g,0,none⟩),.slice (some ⟨w3.heap.size,0,none⟩) 1 1]) (by simp) (by simp[go_sem]) ?_
  refine Hd.out.mono ?_
  rintro e' u' w6 ⟨rfl,rfl,eG,lI⟩
  refine⟨_,results_none rfl _ _ _,rfl,?_,lY.out.trans lI⟩
  have e6:t++[40]++aY d e++aB [⟨#[41]⟩]=t++([40]++aY d e++[41]):=by simp[aB]
  rw[e6] at eG
  exact eG
 ·have hop:tq least e.op (aY d e)=aY d e:=by unfold tq;rw[if_neg hc]
  rw[hop] at Hlen ⊢
  have hdc:decide (iM e.op<least)=false:=by simp[hc]
  go_enter_defers Tryz.func67,Tryz.ntmps67
  go_upto_region 1 with (fail)
  rw[← Hw1.out]
  obtain⟨x0,x1,x2,x3,x4,x5,xl⟩:=lX (Hx.out _ (Wrote.refl _ _))
  go_wp2_with (go_at_call 62;refine(EH.out _).mono ?_;rintro e' w2 ⟨rfl,hb2⟩;obtain⟨y0,y1,y2,y3,y4,y5,yl⟩:=lX (Hx.out _ (Wrote.of_below (Nat.le_of_lt bU.lt) hb2)))
  have gm:=ae (Wrote.of_below (Nat.le_of_lt bU.lt) hb2)
  refine(Hee.out _ gm.out _ (bU.below hb2) Hlen.out).mono ?_
  rintro e' w5 ⟨rfl,di,jf⟩
  have H5:=ae (And.intro di (Hb1.out.trans (gm.out.trans jf)))
  clear di jf x0 x1 x2 x3 x4 x5 y0 y1 y2 y3 y4 y5
  go_wp2
  exact⟨_,results_none rfl _ _ _,rfl,H5.out.1,H5.out.2⟩
theorem adI (F:Nat→Prop) (d:Nat) (hE:KF F d) (e:Ex) (row:List Value) (name src:ByteArray) (g:Nat) (t:List UInt8) (br:Bool) (w:World) (hx:aC F d w row e) (hb:aA d e=true) (hF:∀ k,F k→k<g) (h:bz g t br w) (hm:dZ w) (hg:0<g) (hlen:t.length+(kJ name src e.op e.n (aY d e)).length≤1000000000) :
  Calls Tryz.prog 68 #[.pointer (some ⟨g,0,none⟩),.string name,.string src,.agg row.toArray] w fun e' w'=>e'=.returned (.tuple #[])∧bz g (t++kJ name src e.op e.n (aY d e)) (br||zH d e) w'∧Wrote g w w':=by
 obtain⟨A,m,c,hrow⟩:=wP hx
 have wG:=ae (h.lt)
 obtain⟨w1,Hw1⟩:∃ w1,Hid (w1=w.alloc (.cells row.toArray 55)):=⟨_,rfl⟩
 have hb1:Wrote g w w1:=by rw[Hw1.out];exact Wrote.of_below (Nat.le_of_lt h.lt) ((Below.refl _ _).alloc (Nat.le_refl _) _)
 have hk1:af w1 w.heap.size 55 row.toArray:=by rw[Hw1.out];exact af.laid _ _ _
 have bU:bz g t br w1:=by rw[Hw1.out];exact h.below ((Below.refl _ _).alloc (Nat.le_refl _) _)
 have Hx:=ae (fun W (hW:Wrote g w1 W)=>(show af W w.heap.size 55 row.toArray from hW.2.2 _ _ _ (by decide) (by decide) hk1))
 have Hee:=ae (fun W (hW:Wrote g w1 W) t' (hwt:bz g t' br W) (hl:t'.length+(aY d e).length≤1000000000)=>hE e row g t' br W (aC.wrote hx hF (hb1.trans hW)) hb hF hwt (hm.below hg (hb1.trans hW).1) hg hl)
 have Hsm:=ae (fun W (hW:Wrote g w1 W)=>aav F d e row W (aC.wrote hx hF (hb1.trans hW)) hb)
 have Hwh:=ae (show e.op=3∧e.n=1→zH d e=false from fun ⟨h3,_⟩=>by
  cases d with
  | zero=>rfl
  | succ d =>
   obtain⟨ha,_,_⟩:=oI hb
   rw[h3] at ha
   have e1:e.args=[]:=List.eq_nil_of_length_eq_zero (by have:iY 3=0:=rfl;omega)
   rw[zH,h3,e1]
   rfl)
 subst hrow
 have Hb1:=ae hb1
 unfold kJ at hlen ⊢
 have Hlen:=ae hlen
 clear hE hx hm hF hb h hk1 hlen
 go_enter Tryz.func68,Tryz.ntmps68
 go_upto_region 1 with (fail)
 rw[← Hw1.out]
 obtain⟨x0,x1,x2,x3,x4,x5,xl⟩:=lX (Hx.out _ (Wrote.refl _ _))
 go_wp2_with (fail)
 refine(aF g 3 t br [name,⟨#[32,105,110,32]⟩,src] _ bU rfl (by decide) (by
  have:=Hlen.out
  simp only[List.length_append,List.length_cons,List.length_nil] at this
  simp only[aB,List.map_cons,List.map_nil,List.flatten_cons,List.flatten_nil,List.length_append,List.length_cons,List.length_nil]
  omega)).mono ?_
 rintro e' w3 ⟨rfl,bH,hr3⟩
 have e3:t++aB [name,⟨#[32,105,110,32]⟩,src]=t++(name.data.toList++[32,105,110,32]++src.data.toList):=by simp[aB]
 rw[e3] at bH
 have jm:=ae hr3
 obtain⟨y0,y1,y2,y3,y4,y5,yl⟩:=lX (Hx.out _ hr3)
 clear x0 x1 x2 x3 x4 x5 hr3 bU hb1
 go_wp2_with (go_at_call 102;refine(Hsm.out _ jm.out).mono ?_)
 rintro e' w4 ⟨rfl,hb4⟩
 have hr4:=jm.out.trans (Wrote.of_below (Nat.le_of_lt bH.lt) hb4)
 have bu:=bH.below hb4
 have jg:=ae hr4
 obtain⟨z0,z1,z2,z3,z4,z5,zl⟩:=lX (Hx.out _ hr4)
 clear y0 y1 y2 y3 y4 y5 hr4 bH hb4
 rcases Classical.em (e.op=3∧e.n=1) with hc|hc
 ·have hd:=decide_eq_true hc
  rw[hd]
  have hwe:pF e.op e.n (aY d e)=[]:=by unfold pF;rw[if_pos hc]
  have hne:=Hwh.out hc
  have H4:=ae (And.intro bu jg.out)
  have Hwe:=ae (And.intro hwe hne)
  clear bu hd hwe hne
  go_wp2
  go_end0
  rw[Hwe.out.1,Hwe.out.2,List.append_nil,Bool.or_false]
  exact⟨rfl,H4.out.1,Hb1.out.trans H4.out.2⟩
 ·have hd:=decide_eq_false hc
  rw[hd]
  have hwe:pF e.op e.n (aY d e)=[32,119,104,101,114,101,32]++aY d e:=by unfold pF;rw[if_neg hc]
  rw[hwe] at Hlen
  have Hwe:=ae hwe
  clear hd hc hwe
  go_wp2_with (fail)
  refine(aF g 1 _ br [⟨#[32,119,104,101,114,101,32]⟩] _ bu rfl (by decide) (by
   have:=Hlen.out
   simp only[List.length_append,List.length_cons,List.length_nil] at this
   simp only[aB,List.map_cons,List.map_nil,List.flatten_cons,List.flatten_nil,List.length_append,List.length_cons,List.length_nil]
   omega)).mono ?_
  rintro e' w5 ⟨rfl,di,jf⟩
  have aha:=jg.out.trans jf
  have lY:=ae aha
  obtain⟨x0,x1,x2,x3,x4,x5,xl⟩:=lX (Hx.out _ aha)
  clear z0 z1 z2 z3 z4 z5 jf aha bu
  go_wp2_with (fail)
  refine(Hee.out _ lY.out _ di (by
   have:=Hlen.out
   simp only[List.length_append,List.length_cons,List.length_nil] at this
   simp only[aB,List.map_cons,List.map_nil,List.flatten_cons,List.flatten_nil,List.length_append,List.length_cons,List.length_nil]
   omega)).mono ?_
  rintro e' w6 ⟨rfl,eG,lI⟩
  have e6:t++(name.data.toList++[32,105,110,32]++src.data.toList)++aB [⟨#[32,119,104,101,114,101,32]⟩]++aY d e=t++(name.data.toList++[32,105,110,32]++src.data.toList++([32,119,104,101,114,101,32]++aY d e)):=by simp[aB]
  rw[e6] at eG
  have H6:=ae (And.intro eG (lY.out.trans lI))
  clear eG lI di
  go_wp2
  go_end0
  rw[Hwe.out]
  exact⟨rfl,H6.out.1,Hb1.out.trans H6.out.2⟩
theorem MB {d:Nat} {op n:Int} {s name src:ByteArray} {args:List Ex}:aY (d+1) (.mk op n s name src args)=(if op=1 then dU n
  else if op=2 then iH s
  else if op=3 then (if n=1 then jR else gz)
  else if op=4 then name.data.toList
  else if op=5 then name.data.toList++[46]++s.data.toList
  else match args with
   | []=>[]
   | a::r =>
    if op=19∨op=20 then jQ op++tq (iM op) a.op (aY d a)
    else if 21≤op then jQ op++[40]++kJ name src a.op a.n (aY d a)++(if op=21 then [] else [58,32]++(match r with|[]=>[]|b::_=>aY d b))++[41]
    else tq (iM op+if iM op=4 then 1 else 0) a.op (aY d a)++([32]++jQ op++[32])++(match r with|[]=>[]|b::_=>tq (iM op+1) b.op (aY d b))):=by rw[aY];rfl
theorem age {d:Nat} {op n:Int} {s name src:ByteArray} {args:List Ex}:zH (d+1) (.mk op n s name src args)=((decide (op=2)&&s.data.toList.any (·==10))||args.any (zH d)):=by rw[zH];rfl
theorem xM {d:Nat} {op n:Int} {s name src:ByteArray} {args:List Ex} (h:aA (d+1) (.mk op n s name src args)=true):iY op=args.length∧bT op n s name src=true∧∀ x∈args,aA d x=true:=oI h
theorem adJ {op:Int} {args:List Ex} (h:iY op=args.length) (h5:op=1∨op=2∨op=3∨op=4∨op=5):args=[]:=by
 have:iY op=0:=by rcases h5 with rfl|rfl|rfl|rfl|rfl<;>rfl
 exact List.eq_nil_of_length_eq_zero (by omega)
theorem aaw (n:Int) (s name src:ByteArray) (A:Option Addr) (m c:Nat) (g:Nat) (t:List UInt8) (br:Bool) (w:World) (h:bz g t br w) (hn:0≤n) (hn2:n≤9223372036854775807) (hlen:t.length+(dU n).length≤1000000000) :
  Calls Tryz.prog 29 #[.pointer (some ⟨g,0,none⟩),.agg #[.int .i64 1,.int .i64 n,.string s,.string name,.string src,.slice A m c]] w fun e' w'=>e'=.returned (.tuple #[])∧bz g (t++dU n) br w'∧Wrote g w w':=by
 have EH:=ae (fun W=>jS 1 W (by decide) (by decide))
 have RZ:=ae (fun W=>uh n W hn hn2)
 obtain⟨w1,Hw1⟩:∃ w1,Hid (w1=w.alloc (.cells #[.int .i64 1,.int .i64 n,.string s,.string name,.string src,.slice A m c] 55)):=⟨_,rfl⟩
 have hb1:Below w.heap.size w w1:=by rw[Hw1.out];exact(Below.refl _ _).alloc (Nat.le_refl _) _
 have hk1:af w1 w.heap.size 55 #[.int .i64 1,.int .i64 n,.string s,.string name,.string src,.slice A m c]:=by rw[Hw1.out];exact af.laid _ _ _
 have Hx:=ae (fun W (hW:Below w1.heap.size w1 W)=>lX (hk1.ag (hW.block _ hk1.lt)))
 have hR:Below w1.heap.size w1 w1:=Below.refl _ _
 obtain⟨x0,x1,x2,x3,x4,x5,xl⟩:=Hx.out _ hR
 have Hb:=ae (And.intro hb1 h)
 have Hlen:=ae hlen
 clear hk1 h hlen hn hn2 hb1
 go_enter Tryz.func29,Tryz.ntmps29
 go_upto_region 1 with (fail)
 rw[← Hw1.out]
 go_wp2_with (first
  | (go_at_call 62;refine(EH.out _).mono ?_;rintro e' w2 ⟨rfl,hb2⟩;replace hR:=hR.trans (hb2.mono hR.size);obtain⟨x0,x1,x2,x3,x4,x5,xl⟩:=Hx.out _ hR)
  | (go_at_call 38;refine(RZ.out _).mono ?_;rintro e' w3 ⟨rfl,hb3⟩;replace hR:=hR.trans (hb3.mono hR.size)))
 have hB:=Hb.out.1.trans (hR.mono Hb.out.1.size)
 refine(aF g 1 t br [⟨(dU n).toArray⟩] _ (Hb.out.2.below hB) rfl (by decide) (by simpa [aB] using Hlen.out)).mono ?_
 rintro e' w4 ⟨rfl,bu,hr4⟩
 have e4:t++aB [⟨(dU n).toArray⟩]=t++dU n:=by simp[aB]
 rw[e4] at bu
 have H4:=ae (And.intro bu ((Wrote.of_below (Nat.le_of_lt Hb.out.2.lt) hB).trans hr4))
 clear bu hr4
 go_wp2
 go_end0
 exact⟨rfl,H4.out.1,H4.out.2⟩
theorem Tm (s name src:ByteArray) (A:Option Addr) (m c:Nat) (g:Nat) (t:List UInt8) (br:Bool) (w:World) (h:bz g t br w) (hlen:t.length+(gz).length≤1000000000) :
  Calls Tryz.prog 29 #[.pointer (some ⟨g,0,none⟩),.agg #[.int .i64 3,.int .i64 0,.string s,.string name,.string src,.slice A m c]] w fun e' w'=>e'=.returned (.tuple #[])∧bz g (t++(gz)) br w'∧Wrote g w w':=by
 have EH:=ae (fun W=>jS 3 W (by decide) (by decide))
 have Hbo:=ae (fun W=>(show Calls Tryz.prog 66 #[.bool false] W fun e w'=>e=.returned (.agg #[.int .i64 3,.int .i64 0,.string ⟨#[]⟩])∧Below W.heap.size W w' from Qa false W))
 have Hvp:=ae (fun W=>(show Calls Tryz.prog 64 #[.agg #[.int .i64 3,.int .i64 0,.string ⟨#[]⟩]] W fun e w'=>e=.returned (.string ⟨gz.toArray⟩)∧Below W.heap.size W w' from FO false W))
 obtain⟨w1,Hw1⟩:∃ w1,Hid (w1=w.alloc (.cells #[.int .i64 3,.int .i64 0,.string s,.string name,.string src,.slice A m c] 55)):=⟨_,rfl⟩
 have hb1:Below w.heap.size w w1:=by rw[Hw1.out];exact(Below.refl _ _).alloc (Nat.le_refl _) _
 have hk1:af w1 w.heap.size 55 #[.int .i64 3,.int .i64 0,.string s,.string name,.string src,.slice A m c]:=by rw[Hw1.out];exact af.laid _ _ _
 have Hx:=ae (fun W (hW:Below w1.heap.size w1 W)=>lX (hk1.ag (hW.block _ hk1.lt)))
 have hR:Below w1.heap.size w1 w1:=Below.refl _ _
 obtain⟨x0,x1,x2,x3,x4,x5,xl⟩:=Hx.out _ hR
 have Hb:=ae (And.intro hb1 h)
 have Hlen:=ae hlen
 clear hk1 h hlen hb1
 go_enter Tryz.func29,Tryz.ntmps29
 go_upto_region 1 with (fail)
 rw[← Hw1.out]
 go_wp2_with (first
  | (go_at_call 62;refine(EH.out _).mono ?_;rintro e' w2 ⟨rfl,hb2⟩;replace hR:=hR.trans (hb2.mono hR.size);obtain⟨x0,x1,x2,x3,x4,x5,xl⟩:=Hx.out _ hR)
  | (go_at_call 66;refine(Hbo.out _).mono ?_;rintro e' w5 ⟨rfl,hb5⟩;replace hR:=hR.trans (hb5.mono hR.size);obtain⟨x0,x1,x2,x3,x4,x5,xl⟩:=Hx.out _ hR)
  | (go_at_call 64;refine(Hvp.out _).mono ?_;rintro e' w6 ⟨rfl,hb6⟩;replace hR:=hR.trans (hb6.mono hR.size);obtain⟨x0,x1,x2,x3,x4,x5,xl⟩:=Hx.out _ hR))
 have hB:=Hb.out.1.trans (hR.mono Hb.out.1.size)
 refine(aF g 1 t br [⟨gz.toArray⟩] _ (Hb.out.2.below hB) rfl (by decide) (by simpa [aB,jR,gz] using Hlen.out)).mono ?_
 rintro e' w4 ⟨rfl,bu,hr4⟩
 have e4:t++aB [⟨gz.toArray⟩]=t++(gz):=by simp[aB]
 rw[e4] at bu
 have H4:=ae (And.intro bu ((Wrote.of_below (Nat.le_of_lt Hb.out.2.lt) hB).trans hr4))
 clear bu hr4
 go_wp2
 go_end0
 exact⟨rfl,H4.out.1,H4.out.2⟩
theorem WN (s name src:ByteArray) (A:Option Addr) (m c:Nat) (g:Nat) (t:List UInt8) (br:Bool) (w:World) (h:bz g t br w) (hlen:t.length+(jR).length≤1000000000) :
  Calls Tryz.prog 29 #[.pointer (some ⟨g,0,none⟩),.agg #[.int .i64 3,.int .i64 1,.string s,.string name,.string src,.slice A m c]] w fun e' w'=>e'=.returned (.tuple #[])∧bz g (t++(jR)) br w'∧Wrote g w w':=by
 have EH:=ae (fun W=>jS 3 W (by decide) (by decide))
 have Hbo:=ae (fun W=>(show Calls Tryz.prog 66 #[.bool true] W fun e w'=>e=.returned (.agg #[.int .i64 3,.int .i64 1,.string ⟨#[]⟩])∧Below W.heap.size W w' from Qa true W))
 have Hvp:=ae (fun W=>(show Calls Tryz.prog 64 #[.agg #[.int .i64 3,.int .i64 1,.string ⟨#[]⟩]] W fun e w'=>e=.returned (.string ⟨jR.toArray⟩)∧Below W.heap.size W w' from FO true W))
 obtain⟨w1,Hw1⟩:∃ w1,Hid (w1=w.alloc (.cells #[.int .i64 3,.int .i64 1,.string s,.string name,.string src,.slice A m c] 55)):=⟨_,rfl⟩
 have hb1:Below w.heap.size w w1:=by rw[Hw1.out];exact(Below.refl _ _).alloc (Nat.le_refl _) _
 have hk1:af w1 w.heap.size 55 #[.int .i64 3,.int .i64 1,.string s,.string name,.string src,.slice A m c]:=by rw[Hw1.out];exact af.laid _ _ _
 have Hx:=ae (fun W (hW:Below w1.heap.size w1 W)=>lX (hk1.ag (hW.block _ hk1.lt)))
 have hR:Below w1.heap.size w1 w1:=Below.refl _ _
 obtain⟨x0,x1,x2,x3,x4,x5,xl⟩:=Hx.out _ hR
 have Hb:=ae (And.intro hb1 h)
 have Hlen:=ae hlen
 clear hk1 h hlen hb1
 go_enter Tryz.func29,Tryz.ntmps29
 go_upto_region 1 with (fail)
 rw[← Hw1.out]
 go_wp2_with (first
  | (go_at_call 62;refine(EH.out _).mono ?_;rintro e' w2 ⟨rfl,hb2⟩;replace hR:=hR.trans (hb2.mono hR.size);obtain⟨x0,x1,x2,x3,x4,x5,xl⟩:=Hx.out _ hR)
  | (go_at_call 66;refine(Hbo.out _).mono ?_;rintro e' w5 ⟨rfl,hb5⟩;replace hR:=hR.trans (hb5.mono hR.size);obtain⟨x0,x1,x2,x3,x4,x5,xl⟩:=Hx.out _ hR)
  | (go_at_call 64;refine(Hvp.out _).mono ?_;rintro e' w6 ⟨rfl,hb6⟩;replace hR:=hR.trans (hb6.mono hR.size);obtain⟨x0,x1,x2,x3,x4,x5,xl⟩:=Hx.out _ hR))
 have hB:=Hb.out.1.trans (hR.mono Hb.out.1.size)
 refine(aF g 1 t br [⟨jR.toArray⟩] _ (Hb.out.2.below hB) rfl (by decide) (by simpa [aB,jR,gz] using Hlen.out)).mono ?_
 rintro e' w4 ⟨rfl,bu,hr4⟩
 have e4:t++aB [⟨jR.toArray⟩]=t++(jR):=by simp[aB]
 rw[e4] at bu
 have H4:=ae (And.intro bu ((Wrote.of_below (Nat.le_of_lt Hb.out.2.lt) hB).trans hr4))
 clear bu hr4
 go_wp2
 go_end0
 exact⟨rfl,H4.out.1,H4.out.2⟩
theorem aax (n:Int) (s name src:ByteArray) (A:Option Addr) (m c:Nat) (g:Nat) (t:List UInt8) (br:Bool) (w:World) (h:bz g t br w) (hlen:t.length+(name.data.toList).length≤1000000000) :
  Calls Tryz.prog 29 #[.pointer (some ⟨g,0,none⟩),.agg #[.int .i64 4,.int .i64 n,.string s,.string name,.string src,.slice A m c]] w fun e' w'=>e'=.returned (.tuple #[])∧bz g (t++(name.data.toList)) br w'∧Wrote g w w':=by
 have EH:=ae (fun W=>jS 4 W (by decide) (by decide))
 obtain⟨w1,Hw1⟩:∃ w1,Hid (w1=w.alloc (.cells #[.int .i64 4,.int .i64 n,.string s,.string name,.string src,.slice A m c] 55)):=⟨_,rfl⟩
 have hb1:Below w.heap.size w w1:=by rw[Hw1.out];exact(Below.refl _ _).alloc (Nat.le_refl _) _
 have hk1:af w1 w.heap.size 55 #[.int .i64 4,.int .i64 n,.string s,.string name,.string src,.slice A m c]:=by rw[Hw1.out];exact af.laid _ _ _
 have Hx:=ae (fun W (hW:Below w1.heap.size w1 W)=>lX (hk1.ag (hW.block _ hk1.lt)))
 have hR:Below w1.heap.size w1 w1:=Below.refl _ _
 obtain⟨x0,x1,x2,x3,x4,x5,xl⟩:=Hx.out _ hR
 have Hb:=ae (And.intro hb1 h)
 have Hlen:=ae hlen
 clear hk1 h hlen hb1
 go_enter Tryz.func29,Tryz.ntmps29
 go_upto_region 1 with (fail)
 rw[← Hw1.out]
 go_wp2_with (first
  | (go_at_call 62;refine(EH.out _).mono ?_;rintro e' w2 ⟨rfl,hb2⟩;replace hR:=hR.trans (hb2.mono hR.size);obtain⟨x0,x1,x2,x3,x4,x5,xl⟩:=Hx.out _ hR))
 have hB:=Hb.out.1.trans (hR.mono Hb.out.1.size)
 refine(aF g 1 t br [name] _ (Hb.out.2.below hB) rfl (by decide) (by simpa [aB,jR,gz] using Hlen.out)).mono ?_
 rintro e' w4 ⟨rfl,bu,hr4⟩
 have e4:t++aB [name]=t++(name.data.toList):=by simp[aB]
 rw[e4] at bu
 have H4:=ae (And.intro bu ((Wrote.of_below (Nat.le_of_lt Hb.out.2.lt) hB).trans hr4))
 clear bu hr4
 go_wp2
 go_end0
 exact⟨rfl,H4.out.1,H4.out.2⟩
theorem aay (n:Int) (s name src:ByteArray) (A:Option Addr) (m c:Nat) (g:Nat) (t:List UInt8) (br:Bool) (w:World) (h:bz g t br w) (hlen:t.length+(name.data.toList++[46]++s.data.toList).length≤1000000000) :
  Calls Tryz.prog 29 #[.pointer (some ⟨g,0,none⟩),.agg #[.int .i64 5,.int .i64 n,.string s,.string name,.string src,.slice A m c]] w fun e' w'=>e'=.returned (.tuple #[])∧bz g (t++(name.data.toList++[46]++s.data.toList)) br w'∧Wrote g w w':=by
 have EH:=ae (fun W=>jS 5 W (by decide) (by decide))
 obtain⟨w1,Hw1⟩:∃ w1,Hid (w1=w.alloc (.cells #[.int .i64 5,.int .i64 n,.string s,.string name,.string src,.slice A m c] 55)):=⟨_,rfl⟩
 have hb1:Below w.heap.size w w1:=by rw[Hw1.out];exact(Below.refl _ _).alloc (Nat.le_refl _) _
 have hk1:af w1 w.heap.size 55 #[.int .i64 5,.int .i64 n,.string s,.string name,.string src,.slice A m c]:=by rw[Hw1.out];exact af.laid _ _ _
 have Hx:=ae (fun W (hW:Below w1.heap.size w1 W)=>lX (hk1.ag (hW.block _ hk1.lt)))
 have hR:Below w1.heap.size w1 w1:=Below.refl _ _
 obtain⟨x0,x1,x2,x3,x4,x5,xl⟩:=Hx.out _ hR
 have Hb:=ae (And.intro hb1 h)
 have Hlen:=ae hlen
 clear hk1 h hlen hb1
 go_enter Tryz.func29,Tryz.ntmps29
 go_upto_region 1 with (fail)
 rw[← Hw1.out]
 go_wp2_with (first
  | (go_at_call 62;refine(EH.out _).mono ?_;rintro e' w2 ⟨rfl,hb2⟩;replace hR:=hR.trans (hb2.mono hR.size);obtain⟨x0,x1,x2,x3,x4,x5,xl⟩:=Hx.out _ hR))
 have hB:=Hb.out.1.trans (hR.mono Hb.out.1.size)
 refine(aF g 3 t br [name,⟨#[46]⟩,s] _ (Hb.out.2.below hB) rfl (by decide) (by simpa [aB,jR,gz] using Hlen.out)).mono ?_
 rintro e' w4 ⟨rfl,bu,hr4⟩
 have e4:t++aB [name,⟨#[46]⟩,s]=t++(name.data.toList++[46]++s.data.toList):=by simp[aB]
 rw[e4] at bu
 have H4:=ae (And.intro bu ((Wrote.of_below (Nat.le_of_lt Hb.out.2.lt) hB).trans hr4))
 clear bu hr4
 go_wp2
 go_end0
 exact⟨rfl,H4.out.1,H4.out.2⟩
end Go.Proofs.YtjjfkhbajidmdaaGreatDoor

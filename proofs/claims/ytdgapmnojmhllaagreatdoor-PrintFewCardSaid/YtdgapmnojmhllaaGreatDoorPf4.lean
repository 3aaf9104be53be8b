/- Parts of this proof, one behind the other: SynD, SynE, SynF. -/
import Derived.Test.YtdgapmnojmhllaaGreatDoorPf3
import Derived.Lib.ConvBytes
import Derived.Deep.RegionLaw
import Derived.Deep.RegionWith
import Derived.Deep.RegionHeld3
set_option maxRecDepth 1000000
set_option maxHeartbeats 40000000
namespace Go.Proofs.YtdgapmnojmhllaaGreatDoor
open Go.RowKit Go.Afx
def posB {α:Type} (p:α→Bool):List α→Int
 | []=>-1
 | x::r=>if p x then 0 else if posB p r = -1 then -1 else posB p r+1
theorem posB_range {α:Type} (p:α→Bool) (l:List α):posB p l = -1∨(0≤posB p l∧posB p l<l.length):=by
 induction l with
 | nil=>exact .inl rfl
 | cons x r ih =>
  unfold posB
  split
  ·right;simp
  ·split
   ·exact .inl rfl
   ·right;simp only[List.length_cons];omega
theorem posB_any {α:Type} (p:α→Bool) (l:List α):decide (0≤posB p l)=l.any p:=by
 induction l with
 | nil=>rfl
 | cons x r ih =>
  have hr:=posB_range p r
  unfold posB
  rw[List.any_cons,← ih]
  cases hp:p x with
  | true=>simp
  | false =>
   simp only[Bool.false_eq_true,if_false,Bool.false_or]
   split<;>simp<;>omega
theorem posB_yes {α:Type} {p:α→Bool} {l:List α} {k:Nat} {x:α} (hk:l[k]?=some x) (he:p x=true) (hp:∀ y∈l.take k,p y=false):posB p l=k:=by
 induction l generalizing k with
 | nil=>simp at hk
 | cons y r ih =>
  cases k with
  | zero=>simp at hk;subst hk;simp[posB,he]
  | succ k =>
   have h1:=ih (k:=k) (by simpa using hk) (fun z hz=>hp z (by simp[hz]))
   rw[posB,hp y (by simp),h1]
   simp
theorem posB_no {α:Type} {p:α→Bool} {l:List α} (hp:∀ y∈l,p y=false):posB p l = -1:=by
 induction l with
 | nil=>rfl
 | cons y r ih=>rw[posB,hp y (by simp),ih fun z hz=>hp z (by simp[hz])];simp
theorem mem_take_succ {α:Type} {l:List α} {k:Nat} {x:α} (h:l[k]?=some x) {P:α→Prop} (h1:∀ y∈l.take k,P y) (h2:P x):∀ y∈l.take (k+1),P y:=by
 obtain⟨hk,rfl⟩:=List.getElem?_eq_some_iff.1 h
 intro y hy
 rw[List.take_succ_eq_append_getElem hk,List.mem_append] at hy
 rcases hy with hy|hy
 ·exact h1 y hy
 ·rw[List.mem_singleton.1 hy];exact h2
theorem strAt {F:Nat→Prop} {w:World} {A:Option Addr} {n c:Nat} {xs:List ByteArray} (h:LsAt F w 1 SRow A n c xs) {k:Nat} (hk:k<n):∃ b o x,A=some ⟨b,o,none⟩∧b<w.heap.size∧xs[k]?=some x∧okS x∧w.cell? ⟨b,o+k,none⟩=some (.string x):=by
 obtain⟨b,o,r,x,hA,hb,_,hx,hl,⟨rfl,hs⟩,hc⟩:=h.get hk
 exact⟨b,o,x,hA,hb,hx,hs,by simpa using hc 0 _ rfl⟩
theorem indexS_any (F:Nat→Prop) (A:Option Addr) (n c:Nat) (xs:List ByteArray) (s:ByteArray) (w:World) (h:LsAt F w 1 SRow A n c xs) :
  Calls Tryz.prog 155 #[.slice A n c,.string s] w fun x w'=>x=.returned (.int .i64 (posB (fun y=>s.toList==y.toList) xs))∧w=w':=by
 have hn:=h.n_le
 have Hl:=Lhd h.len
 go_enter Tryz.func155,Tryz.ntmps155
 go_wp2
 go_loop [8] (fun i=>∃ k:Nat,k≤n∧i=.int .i64 k∧∀ y∈xs.take k,(s.toList==y.toList)=false) (fun i=>n-(intOf i).toNat)
 case atStart=>exact⟨0,Nat.zero_le _,rfl,by simp⟩
 case round =>
  obtain⟨k,hk,rfl,hno⟩:=hrel
  have Hno:=Lhd hno;clear hno
  by_cases hlt:k<n
  ·obtain⟨b,o,x,rfl,hbl,hx,hs,hc0⟩:=strAt h hlt
   have Hx:=Lhd hx;clear hx
   by_cases he:(s.toList==x.toList)=true
   ·have Hf:=Lhd (posB_yes (p:=fun y=>s.toList==y.toList) Hx.out he Hno.out)
    go_wp2
    go_ret
    exact⟨by rw[Hf.out];rfl,rfl⟩
   ·have he:(s.toList==x.toList)=false:=by simpa using he
    have Hne:=Lhd (mem_take_succ Hx.out Hno.out he)
    go_wp2
    go_round
    case rel=>exact⟨k+1,by omega,by go_num,Hne.out⟩
    case measure=>simp[intOf];omega
  ·go_wp2
   go_ret
   have h1:=Hno.out
   rw[List.take_of_length_le (by rw[Hl.out];omega)] at h1
   exact⟨by rw[posB_no h1];rfl,rfl⟩
theorem containsS_any (F:Nat→Prop) (A:Option Addr) (n c:Nat) (xs:List ByteArray) (s:ByteArray) (w:World) (h:LsAt F w 1 SRow A n c xs) :
  Calls Tryz.prog 121 #[.slice A n c,.string s] w fun x w'=>x=.returned (.bool (xs.any fun y=>s.toList==y.toList))∧w=w':=by
 have hi:=indexS_any F A n c xs s w h
 have hp:=posB_any (fun y=>s.toList==y.toList) xs
 generalize xs.any (fun y=>s.toList==y.toList)=r at *
 generalize posB (fun y=>s.toList==y.toList) xs=i at *
 have Hp:=Lhd hp
 have Hi:=Lhd hi
 clear hp hi
 go_enter Tryz.func121,Tryz.ntmps121
 go_wp2_with (go_at_call 155;refine Hi.out.mono ?_;rintro x w' ⟨rfl,rfl⟩)
 go_ret
 exact⟨ret_bool Hp.out,rfl⟩
theorem words_any (w:World):Calls Tryz.prog 162 #[] w fun x w'=>x=.returned (.slice (some ⟨w.heap.size,0,none⟩) 43 43)∧LsAt (fun b=>b=w.heap.size) w' 1 SRow (some ⟨w.heap.size,0,none⟩) 43 43 wordsL∧Below w.heap.size w w':=by
 go_enter Tryz.func162,Tryz.ntmps162
 go_wp2
 go_ret
 refine⟨rfl,⟨wordsL.map fun s=>[.string s],RowsAt.lit _ _ 43 rfl (by simp) rfl (by unfold maxLen;omega),fun a ha _=>?_,rfl,fun k r x hr hx=>?_⟩,(Below.refl _ _).alloc (Nat.le_refl _) _⟩
 ·injection ha with ha;subst ha;rfl
 ·rw[List.getElem?_map,hx] at hr
  simp at hr
  subst hr
  refine⟨rfl,rfl,?_⟩
  have:∀ y∈wordsL,okS y:=by unfold okS;decide +kernel
  exact this x (List.mem_of_getElem? hx)
theorem reserved_any (s:ByteArray) (w:World):Calls Tryz.prog 129 #[.string s] w fun x w'=>x=.returned (.bool (resB s))∧Below w.heap.size w w':=by
 have hr:(wordsL.any fun y=>s.toList==y.toList)=resB s:=by
  unfold resB
  congr 1
  funext x
  exact BEq.comm
 go_enter Tryz.func129,Tryz.ntmps129
 have Hr:=Lhd hr
 clear hr
 go_wp2_with (first|(go_at_call 162;refine(words_any _).mono ?_;rintro x w1 ⟨rfl,hl,hb1⟩)|(go_at_call 121;refine(containsS_any _ _ _ _ _ _ _ hl).mono ?_;rw[Hr.out];rintro x w' ⟨rfl,rfl⟩))
 go_ret
 exact⟨rfl,hb1⟩
theorem letter_any (c:UInt8) (w:World):Calls Tryz.prog 199 #[.int .u8 (c.toNat:Int)] w fun x w'=>x=.returned (.bool (letterB c))∧w=w':=by
 go_enter Tryz.func199,Tryz.ntmps199
 go_wp2
 all_goals
  go_ret
  refine⟨ret_bool ?_,rfl⟩
  rw[Bool.eq_iff_iff]
  simp[letterB]
  omega
theorem part_any (c:UInt8) (w:World):Calls Tryz.prog 200 #[.int .u8 (c.toNat:Int)] w fun x w'=>x=.returned (.bool (partB c))∧w=w':=by
 cases hl:letterB c with
 | true =>
  have h:=letter_any c w
  rw[hl] at h
  have H:=Lhd h
  have Hl:=Lhd hl
  clear h hl
  go_enter Tryz.func200,Tryz.ntmps200
  go_wp2_with (go_at_call 199;refine H.out.mono ?_;rintro x w' ⟨rfl,rfl⟩)
  all_goals
   go_ret
   refine⟨ret_bool ?_,rfl⟩
   simp[partB,Hl.out]
 | false =>
  have h:=letter_any c w
  rw[hl] at h
  have H:=Lhd h
  have Hl:=Lhd hl
  clear h hl
  go_enter Tryz.func200,Tryz.ntmps200
  go_wp2_with (go_at_call 199;refine H.out.mono ?_;rintro x w' ⟨rfl,rfl⟩)
  all_goals
   go_ret
   refine⟨ret_bool ?_,rfl⟩
   rw[Bool.eq_iff_iff]
   simp[partB,Hl.out]
   omega
theorem bytesBelow (w:World) (e:TypeId) (s:ByteArray):Below w.heap.size w (Lib.bytesWorld w e s):=by
 refine⟨?_,?_,?_,by rw[Lib.bytesWorld_size];omega,fun k hk=>Lib.bytesWorld_at_old w e s k hk⟩
 ·simp[Lib.bytesWorld,World.freeze];rfl
 ·simp[Lib.bytesWorld,World.freeze]
 ·simp[Lib.bytesWorld,World.freeze];rfl
theorem list_of (s:ByteArray) (h:0<s.size):∃ c r,s.data.toList=c::r∧s[0]=c∧r.length+1=s.size:=by
 have hl:s.data.toList.length=s.size:=by simp
 have h2:s.data.toList[0]?=some s[0]:=by
  rw[List.getElem?_eq_getElem (by rw[hl];exact h)];rfl
 match hs:s.data.toList,hl with
 | [],hl=>simp at hl;omega
 | c::r,hl =>
  refine⟨c,r,rfl,?_,by simpa using hl⟩
  rw[hs] at h2
  exact(Option.some.inj h2).symm
theorem letter_part {c:UInt8} (h:letterB c=true):partB c=true:=by simp[partB,h]
theorem bytes_nil (s:ByteArray):s.toList=[] ↔ s.size=0:=by
 rw[ByteArray.toList_eq,← List.length_eq_zero_iff]
 simp
theorem named_any (s:ByteArray) (w:World):Calls Tryz.prog 178 #[.string s] w fun x w'=>x=.returned (.bool (namedB s))∧Below w.heap.size w w':=by
 by_cases h0:s.size=0
 ·have hn:namedB s=false:=by
   unfold namedB
   have:s.data.toList=[]:=List.eq_nil_of_length_eq_zero (by simpa using h0)
   rw[this]
  have Hn:=Lhd hn
  have he:s.toList=[]:=(bytes_nil s).2 h0
  clear h0 hn
  go_enter Tryz.func178,Tryz.ntmps178
  go_wp2
  go_ret
  exact⟨by rw[Hn.out];rfl,Below.refl _ _⟩
 ·have he:s.toList.isEmpty=false:=by
   cases hx:s.toList with
   | nil=>exact absurd ((bytes_nil s).1 hx) h0
   | cons a l=>rfl
  have hpos:0<s.size:=by omega
  obtain⟨c,r,hs,hc,hl⟩:=list_of s hpos
  have Hs:=Lhd hs
  clear hs
  by_cases h16:16<s.size
  ·have hn:namedB s=false:=by
    unfold namedB
    rw[Hs.out]
    simp;omega
   have Hn:=Lhd hn
   have h17:(16:Int)<(s.size:Int):=by omega
   clear hn hc hl h0
   go_enter Tryz.func178,Tryz.ntmps178
   go_wp2
   go_ret
   exact⟨by rw[Hn.out];rfl,Below.refl _ _⟩
  ·have hL:=letter_any s[0] w
   rw[hc] at hL
   have hn:namedB s=(letterB c&&r.all partB):=by
    unfold namedB
    rw[Hs.out]
    have h3:decide (r.length+1≤16)=true:=by simp;omega
    simp only[h3,Bool.true_and]
   obtain⟨q,hq⟩:∃ q,letterB c=q:=⟨_,rfl⟩
   rw[hq] at hL hn
   have Hl:=Lhd hL
   have Hq:=Lhd hq
   have Hc:=Lhd hc
   have Hlen:=Lhd hl
   have Hn:=Lhd hn
   clear hL hq hc hl hn h0
   have hle:(s.size:Int)≤16:=by omega
   cases q
   ·go_enter Tryz.func178,Tryz.ntmps178
    go_wp2_with (go_at_call 199;rw[Hc.out];refine Hl.out.mono ?_;rintro x w' ⟨rfl,rfl⟩)
    go_ret
    exact⟨by rw[Hn.out];rfl,Below.refl _ _⟩
   ·have hcv:=fun (W:World)=>Lib.run_convert_string_bytes (P:=Tryz.prog) W 9 95 5 s Tryz.underlying9 Tryz.underlying95 Tryz.underlying5
    have hcell:=Lib.bytesWorld_cell w 5 s
    have Hcell:=Lhd hcell
    clear hcell
    have hbel:=bytesBelow w 5 s
    go_enter Tryz.func178,Tryz.ntmps178
    go_wp2_with (go_at_call 199;rw[Hc.out];refine Hl.out.mono ?_;rintro x w' ⟨rfl,rfl⟩)
    generalize Lib.bytesWorld w 5 s=wb at *
    go_loop [21] (fun i=>∃ k:Nat,k≤s.size∧i=.int .i64 k∧∀ y∈s.data.toList.take k,partB y=true) (fun i=>s.size-(intOf i).toNat)
    case atStart=>exact⟨0,Nat.zero_le _,rfl,by simp⟩
    case round =>
     obtain⟨k,hk,rfl,hall⟩:=hrel
     have Hall:=Lhd hall
     clear hall hcv
     by_cases hlt:k<s.size
     ·have hc1:=Hcell.out k hlt
      obtain⟨y,hy⟩:∃ y,s.data.toList[k]?=some y:=⟨_,List.getElem?_eq_getElem (by simpa using hlt)⟩
      rw[List.getD_eq_getElem?_getD,hy,Option.getD_some] at hc1
      have Hy:=Lhd hy
      have hp:=part_any y wb
      obtain⟨z,hz⟩:∃ z,partB y=z:=⟨_,rfl⟩
      rw[hz] at hp
      have Hp:=Lhd hp
      have Hz:=Lhd hz
      clear hp hz hy
      cases z
      ·go_wp2_with (go_at_call 200;refine Hp.out.mono ?_;rintro x w' ⟨rfl,rfl⟩)
       go_ret
       refine⟨?_,hbel⟩
       rw[Hn.out]
       have hm:=List.mem_of_getElem? Hy.out
       rw[Hs.out] at hm
       refine ret_bool ?_
       rw[Bool.true_and,eq_comm,List.all_eq_false]
       rcases List.mem_cons.1 hm with rfl|hm
       ·have:=letter_part Hq.out
        rw[Hz.out] at this;cases this
       ·exact⟨y,hm,by rw[Hz.out];simp⟩
      ·have Hnx:=Lhd (mem_take_succ Hy.out Hall.out Hz.out)
       go_wp2_with (go_at_call 200;refine Hp.out.mono ?_;rintro x w' ⟨rfl,rfl⟩)
       go_round
       case rel=>exact⟨k+1,by omega,by go_num,Hnx.out⟩
       case measure=>simp[intOf];omega
     ·go_wp2
      go_ret
      refine⟨?_,hbel⟩
      have h1:=Hall.out
      rw[List.take_of_length_le (by simp;omega),Hs.out] at h1
      rw[Hn.out]
      refine ret_bool ?_
      rw[Bool.true_and,eq_comm,List.all_eq_true]
      exact fun z hz=>h1 z (by simp[hz])
theorem namedL_any (F:Nat→Prop) (A:Option Addr) (n c:Nat) (xs:List ByteArray) (w:World) (h:LsAt F w 1 SRow A n c xs) :
  Calls Tryz.prog 151 #[.slice A n c] w fun x w'=>x=.returned (.bool (xs.all namedB))∧Below w.heap.size w w':=by
 have hn:=h.n_le
 have Hl:=Lhd h.len
 go_enter Tryz.func151,Tryz.ntmps151
 go_wp2
 go_loopw [7] (fun i wr=>∃ k:Nat,k≤n∧i=.int .i64 k∧(∀ y∈xs.take k,namedB y=true)∧Below w.heap.size w wr) (fun i _=>n-(intOf i).toNat)
 case atStart=>exact⟨0,Nat.zero_le _,rfl,by simp,Below.refl _ _⟩
 case round =>
  obtain⟨k,hk,rfl,hall,hb⟩:=hrel
  have Hall:=Lhd hall;clear hall
  by_cases hlt:k<n
  ·obtain⟨b,o,x,rfl,hbl,hx,hs,hc0⟩:=strAt (h.below hb) hlt
   have hc:=named_any x wr
   obtain⟨q,hq⟩:∃ q,namedB x=q:=⟨_,rfl⟩
   rw[hq] at hc
   have Hc:=Lhd hc
   have Hq:=Lhd hq
   have Hx:=Lhd hx
   clear hc hq hx
   cases q
   ·go_wp2_with (go_at_call 178;refine Hc.out.mono ?_;rintro y w1 ⟨rfl,hb1⟩)
    go_ret
    refine⟨ret_bool ?_,hb.trans (hb1.mono hb.size)⟩
    rw[eq_comm,List.all_eq_false]
    exact⟨x,List.mem_of_getElem? Hx.out,by rw[Hq.out];simp⟩
   ·have Hnx:=Lhd (mem_take_succ Hx.out Hall.out Hq.out)
    go_wp2_with (go_at_call 178;refine Hc.out.mono ?_;rintro y w1 ⟨rfl,hb1⟩)
    go_roundw
    case rel=>exact⟨k+1,by omega,by go_num,Hnx.out,hb.trans (hb1.mono hb.size)⟩
    case measure=>simp[intOf];omega
  ·go_wp2
   go_ret
   refine⟨ret_bool ?_,hb⟩
   have h1:=Hall.out
   rw[List.take_of_length_le (by rw[Hl.out];omega)] at h1
   rw[eq_comm,List.all_eq_true]
   exact h1
theorem indexRes_any (F:Nat→Prop) (A:Option Addr) (n c:Nat) (xs:List ByteArray) (w:World) (h:LsAt F w 1 SRow A n c xs) :
  Calls Tryz.prog 163 #[.slice A n c,.func (.func 129) #[] #[]] w fun x w'=>x=.returned (.int .i64 (posB resB xs))∧Below w.heap.size w w':=by
 have hn:=h.n_le
 have Hl:=Lhd h.len
 go_enter Tryz.func163,Tryz.ntmps163
 go_wp2
 go_loopw [8] (fun i wr=>∃ k:Nat,k≤n∧i=.int .i64 k∧(∀ y∈xs.take k,resB y=false)∧Below w.heap.size w wr) (fun i _=>n-(intOf i).toNat)
 case atStart=>exact⟨0,Nat.zero_le _,rfl,by simp,Below.refl _ _⟩
 case round =>
  obtain⟨k,hk,rfl,hall,hb⟩:=hrel
  have Hall:=Lhd hall;clear hall
  by_cases hlt:k<n
  ·obtain⟨b,o,x,rfl,hbl,hx,hs,hc0⟩:=strAt (h.below hb) hlt
   have hc:=reserved_any x wr
   obtain⟨q,hq⟩:∃ q,resB x=q:=⟨_,rfl⟩
   rw[hq] at hc
   have Hc:=Lhd hc
   have Hq:=Lhd hq
   have Hx:=Lhd hx
   clear hc hq hx
   cases q
   ·have Hnx:=Lhd (mem_take_succ Hx.out Hall.out Hq.out)
    go_wp2_with (go_at_call 129;refine Hc.out.mono ?_;rintro y w1 ⟨rfl,hb1⟩)
    go_roundw
    case rel=>exact⟨k+1,by omega,by go_num,Hnx.out,hb.trans (hb1.mono hb.size)⟩
    case measure=>simp[intOf];omega
   ·have Hf:=Lhd (posB_yes Hx.out Hq.out Hall.out)
    go_wp2_with (go_at_call 129;refine Hc.out.mono ?_;rintro y w1 ⟨rfl,hb1⟩)
    go_ret
    exact⟨by rw[Hf.out];rfl,hb.trans (hb1.mono hb.size)⟩
  ·go_wp2
   go_ret
   have h1:=Hall.out
   rw[List.take_of_length_le (by rw[Hl.out];omega)] at h1
   exact⟨by rw[posB_no h1];rfl,hb⟩
theorem containsRes_any (F:Nat→Prop) (A:Option Addr) (n c:Nat) (xs:List ByteArray) (w:World) (h:LsAt F w 1 SRow A n c xs) :
  Calls Tryz.prog 131 #[.slice A n c,.func (.func 129) #[] #[]] w fun x w'=>x=.returned (.bool (xs.any resB))∧Below w.heap.size w w':=by
 have hi:=indexRes_any F A n c xs w h
 have hp:=posB_any resB xs
 generalize xs.any resB=r at *
 generalize posB resB xs=i at *
 have Hp:=Lhd hp
 have Hi:=Lhd hi
 clear hp hi
 go_enter Tryz.func131,Tryz.ntmps131
 go_wp2_with (go_at_call 163;refine Hi.out.mono ?_;rintro x w' ⟨rfl,hb⟩)
 go_ret
 exact⟨ret_bool Hp.out,hb⟩
theorem free_any (F:Nat→Prop) (A:Option Addr) (n c:Nat) (xs:List ByteArray) (w:World) (h:LsAt F w 1 SRow A n c xs) :
  Calls Tryz.prog 119 #[.slice A n c] w fun x w'=>x=.returned (.bool (freesB xs))∧Below w.heap.size w w':=by
 have h1:=namedL_any F A n c xs w h
 have h2:=fun W (hW:Below w.heap.size w W)=>containsRes_any F A n c xs W (h.below hW)
 have hf:freesB xs=(xs.all namedB&&!xs.any resB):=rfl
 generalize xs.any resB=r at *
 generalize xs.all namedB=q at *
 have Hf:=Lhd hf
 have H1:=Lhd h1
 have H2:=Lhd h2
 clear h1 h2 hf
 cases q
 ·go_enter Tryz.func119,Tryz.ntmps119
  go_wp2_with (go_at_call 151;refine H1.out.mono ?_;rintro x w1 ⟨rfl,hb1⟩)
  go_ret
  exact⟨ret_bool (by rw[Hf.out];rfl),hb1⟩
 ·go_enter Tryz.func119,Tryz.ntmps119
  go_wp2_with (first|(go_at_call 151;refine H1.out.mono ?_;rintro x w1 ⟨rfl,hb1⟩)|(go_at_call 131;refine(H2.out _ hb1).mono ?_;rintro x w2 ⟨rfl,hb2⟩))
  go_ret
  exact⟨ret_bool (by rw[Hf.out];rfl),hb1.trans (hb2.mono hb1.size)⟩
theorem noS_nil (s:ByteArray):noS s=s.toList.isEmpty:=by
 unfold noS
 rw[Bool.eq_iff_iff,decide_eq_true_iff,List.isEmpty_iff]
 have h0:ByteArray.empty.toList=[]:=by rw[ByteArray.toList_eq];rfl
 constructor
 ·rintro rfl;exact h0
 ·intro h
  exact bs_inj (h.trans h0.symm)
theorem strs_one {w:World} {g:Nat} (T:TypeId) (a:ByteArray) (hg:g=w.heap.size) (ha:okS a):LsAt (fun _=>True) (w.alloc (.cells #[.string a] T)) 1 SRow (some ⟨g,0,none⟩) 1 1 [a] :=
 ⟨[[.string a]],RowsAt.lit' _ _ 1 hg rfl (by simp) rfl (by unfold maxLen;omega),fun _ _ _=>trivial,rfl,fun k r x hr hx=>by
  cases k with
  | zero=>simp at hr hx;subst hr hx;exact⟨rfl,rfl,ha⟩
  | succ k=>simp at hr⟩
theorem strs_two {w:World} {g:Nat} (T:TypeId) (a b:ByteArray) (hg:g=w.heap.size) (ha:okS a) (hb:okS b):LsAt (fun _=>True) (w.alloc (.cells #[.string a,.string b] T)) 1 SRow (some ⟨g,0,none⟩) 2 2 [a,b] :=
 ⟨[[.string a],[.string b]],RowsAt.lit' _ _ 2 hg rfl (by simp) rfl (by unfold maxLen;omega),fun _ _ _=>trivial,rfl,fun k r x hr hx=>by
  match k with
  | 0=>simp at hr hx;subst hr hx;exact⟨rfl,rfl,ha⟩
  | 1=>simp at hr hx;subst hr hx;exact⟨rfl,rfl,hb⟩
  | k+2=>simp at hr⟩
theorem LsAt.drew {α:Type} {F:Nat→Prop} {w:World} {sz:Nat} {P:List Value→α→Prop} {A:Option Addr} {n c:Nat} {xs:List α} (h:LsAt F w sz P A n c xs):LsAt F w.drew sz P A n c xs:=h.below (Below.refl _ _).drew
section
variable (n:Int) (s name src:ByteArray) (A:Option Addr) (m c:Nat) (w:World)
theorem fields_1:Calls Tryz.prog 90 #[.agg #[.int .i64 1,.int .i64 n,.string s,.string name,.string src,.slice A m c]] w fun x w'=>x=.returned (.bool (fieldsR 1 n s name src))∧Below w.heap.size w w':=by
 have ha:=fun W=>args_any 1 W
 have hr:rowsB 1=false:=rfl
 rw[hr] at ha
 have Ha:=Lhd ha
 clear ha
 by_cases hn:0≤n
 ·go_enter Tryz.func90,Tryz.ntmps90
  go_wp2_with (go_at_call 89;refine(Ha.out _).mono ?_;rintro x w' ⟨rfl,rfl⟩)
  go_region
  all_goals go_wp2
  all_goals
   go_ret
   refine⟨ret_bool ?_,?_⟩
   ·simp_all [fieldsR,noS_nil]
    try omega
   ·repeat (first|exact Below.refl _ _|refine Below.drew ?_|refine Below.alloc ?_ (by simp) _|refine Below.setCell ?_ (by simp) _)
 ·have hd:decide (0≤n)=false:=by simpa using hn
  go_enter Tryz.func90,Tryz.ntmps90
  go_wp2_with (go_at_call 89;refine(Ha.out _).mono ?_;rintro x w' ⟨rfl,rfl⟩)
  go_region
  all_goals go_wp2
  all_goals
   go_ret
   refine⟨ret_bool ?_,?_⟩
   ·simp_all [fieldsR,noS_nil]
    try omega
   ·repeat (first|exact Below.refl _ _|refine Below.drew ?_|refine Below.alloc ?_ (by simp) _|refine Below.setCell ?_ (by simp) _)
theorem fields_2:Calls Tryz.prog 90 #[.agg #[.int .i64 2,.int .i64 n,.string s,.string name,.string src,.slice A m c]] w fun x w'=>x=.returned (.bool (fieldsR 2 n s name src))∧Below w.heap.size w w':=by
 have ha:=fun W=>args_any 2 W
 have hr:rowsB 2=false:=rfl
 rw[hr] at ha
 have Ha:=Lhd ha
 clear ha
 by_cases hs:s.size≤200
 ·go_enter Tryz.func90,Tryz.ntmps90
  go_wp2_with (go_at_call 89;refine(Ha.out _).mono ?_;rintro x w' ⟨rfl,rfl⟩)
  go_region
  all_goals go_wp2
  all_goals
   go_ret
   refine⟨ret_bool ?_,?_⟩
   ·simp_all [fieldsR,noS_nil]
    try omega
   ·repeat (first|exact Below.refl _ _|refine Below.drew ?_|refine Below.alloc ?_ (by simp) _|refine Below.setCell ?_ (by simp) _)
 ·have hd:decide (s.size≤200)=false:=by simpa using hs
  go_enter Tryz.func90,Tryz.ntmps90
  go_wp2_with (go_at_call 89;refine(Ha.out _).mono ?_;rintro x w' ⟨rfl,rfl⟩)
  go_region
  all_goals go_wp2
  all_goals
   go_ret
   refine⟨ret_bool ?_,?_⟩
   ·simp_all [fieldsR,noS_nil]
    try omega
   ·repeat (first|exact Below.refl _ _|refine Below.drew ?_|refine Below.alloc ?_ (by simp) _|refine Below.setCell ?_ (by simp) _)
theorem fields_3:Calls Tryz.prog 90 #[.agg #[.int .i64 3,.int .i64 n,.string s,.string name,.string src,.slice A m c]] w fun x w'=>x=.returned (.bool (fieldsR 3 n s name src))∧Below w.heap.size w w':=by
 have ha:=fun W=>args_any 3 W
 have hr:rowsB 3=false:=rfl
 rw[hr] at ha
 have Ha:=Lhd ha
 clear ha
 go_enter Tryz.func90,Tryz.ntmps90
 go_wp2_with (go_at_call 89;refine(Ha.out _).mono ?_;rintro x w' ⟨rfl,rfl⟩)
 go_region
 all_goals go_wp2
 all_goals
  go_ret
  refine⟨ret_bool ?_,?_⟩
  ·simp_all [fieldsR,noS_nil]
   try omega
  ·repeat (first|exact Below.refl _ _|refine Below.drew ?_|refine Below.alloc ?_ (by simp) _|refine Below.setCell ?_ (by simp) _)
theorem fields_other (op:Int) (ho:op<1∨5<op) (hr0:op<21∨24<op):Calls Tryz.prog 90 #[.agg #[.int .i64 op,.int .i64 n,.string s,.string name,.string src,.slice A m c]] w fun x w'=>x=.returned (.bool (fieldsR op n s name src))∧Below w.heap.size w w':=by
 have ha:=fun W=>args_any op W
 have hr:rowsB op=false:=by simp[rowsB];omega
 rw[hr] at ha
 have Ha:=Lhd ha
 clear ha
 have e1:(op==1)=false:=by simp;omega
 have e2:(op==2)=false:=by simp;omega
 have e3:(op==3)=false:=by simp;omega
 have e4:(op==4)=false:=by simp;omega
 have e5:(op==5)=false:=by simp;omega
 have Hr:=Lhd hr
 clear hr
 go_enter Tryz.func90,Tryz.ntmps90
 go_wp2_with (go_at_call 89;refine(Ha.out _).mono ?_;rintro x w' ⟨rfl,rfl⟩)
 all_goals
  go_ret
  refine⟨ret_bool ?_,?_⟩
  ·simp_all [fieldsR,noS_nil,Hr.out]
   try omega
  ·repeat (first|exact Below.refl _ _|refine Below.drew ?_|refine Below.alloc ?_ (by simp) _|refine Below.setCell ?_ (by simp) _)
end
open Go.RowKit Go.Afx
theorem fields_4 (n:Int) (s name src:ByteArray) (A:Option Addr) (m c:Nat) (w:World) (ok_name:okS name) :
  Calls Tryz.prog 90 #[.agg #[.int .i64 4,.int .i64 n,.string s,.string name,.string src,.slice A m c]] w fun x w'=>x=.returned (.bool (fieldsR 4 n s name src))∧Below w.heap.size w w':=by
 have ha:=fun W=>args_any 4 W
 have hr:rowsB 4=false:=rfl
 rw[hr] at ha
 have Ha:=Lhd ha
 have Hr:=Lhd hr
 clear ha hr
 obtain⟨q,hq⟩:∃ q,freesB [name]=q:=⟨_,rfl⟩
 have hF:=fun (W:World) (g:Nat) (h:LsAt (fun _=>True) W 1 SRow (some ⟨g,0,none⟩) 1 1 [name])=>free_any _ _ _ _ _ W h
 rw[hq] at hF
 have HF:=Lhd hF
 have Hq:=Lhd hq
 clear hF hq
 obtain⟨w1,Hw1⟩:∃ w1,Hid (w1=w.alloc (.cells #[.int .i64 4,.int .i64 n,.string s,.string name,.string src,.slice A m c] 32)):=⟨_,rfl⟩
 obtain⟨w2,Hw2⟩:∃ w2,Hid (w2=w1.alloc (.cells #[.int .i64 0,.int .i64 0,.string { data:=#[] },.string { data:=#[] },.string { data:=#[] },.slice none 0 0] 32)):=⟨_,rfl⟩
 have hx2:IsBlk w2 w.heap.size 32 #[.int .i64 4,.int .i64 n,.string s,.string name,.string src,.slice A m c]:=by rw[Hw2.out,Hw1.out];exact(IsBlk.laid _ _ _).alloc _
 have hy2:IsBlk w2 (w.heap.size+1) 32 #[.int .i64 0,.int .i64 0,.string { data:=#[] },.string { data:=#[] },.string { data:=#[] },.slice none 0 0]:=by rw[Hw2.out,Hw1.out];exact laid_at (by simp) _ _
 have hb2:Below w.heap.size w w2:=by rw[Hw2.out,Hw1.out];exact((Below.refl _ _).alloc (Nat.le_refl _) _).alloc (by simp) _
 have hz2:w2.heap.size=w.heap.size+2:=by rw[Hw2.out,Hw1.out];simp
 have Hz2:=Lhd hz2
 clear hz2
 have hf:=fun (W:World) (hW:Below w2.heap.size w2 W)=>And.intro (hx2.as_was (hW.block _ hx2.lt)) (hy2.as_was (hW.block _ hy2.lt))
 have Hf:=Lhd hf
 clear hf
 have hxl:=hx2.lt
 have hyl:=hy2.lt
 go_enter Tryz.func90,Tryz.ntmps90
 go_wp2_with (go_at_call 89;refine(Ha.out _).mono ?_;rintro x w' ⟨rfl,rfl⟩)
 rw[← Hw1.out,← Hw2.out]
 have x21:=hx2.cell 1
 have x22:=hx2.cell 2
 have x23:=hx2.cell 3
 have x24:=hx2.cell 4
 simp at x21 x22 x23 x24
 go_region_with (go_at_call 119;go_loud (refine(HF.out _ _ (LsAt.drew (strs_one (w:=w2) 9 name rfl ok_name))).mono ?_;rintro x w4 ⟨rfl,hb4⟩;have hb24:Below w2.heap.size w2 w4:=(((Below.refl _ _).alloc (Nat.le_refl _) _).drew).trans (hb4.mono (by simp));have hx4:=(Hf.out w4 hb24).1;have hy4:=(Hf.out w4 hb24).2;have x41:=hx4.cell 1;have x42:=hx4.cell 2;have x43:=hx4.cell 3;have x44:=hx4.cell 4;have y41:=hy4.cell 1;have y42:=hy4.cell 2;have y43:=hy4.cell 3;have y44:=hy4.cell 4;have yf:=hy4.frozen;have xl4:=hx4.lt;have yl4:=hy4.lt;simp at x41 x42 x43 x44 y41 y42 y43 y44))
 all_goals cases q
 all_goals go_wp2
 all_goals
  go_ret
  have hb04:=hb2.trans (hb24.mono hb2.size)
  have hq:=Hq.out
  have hr:=Hr.out
  rw[freesB_all] at hq
  refine⟨ret_bool ?_,?_⟩
  ·clear Hf HF Ha x41 x42 x43 x44 y41 y42 y43 y44 yf
   simp_all [fieldsR,noS_nil]
   try omega
  ·repeat (first|exact hb04|refine Below.drew ?_|refine Below.setCell ?_ (by simp) _)
theorem fields_5 (n:Int) (s name src:ByteArray) (A:Option Addr) (m c:Nat) (w:World) (ok_name:okS name) (ok_s:okS s) :
  Calls Tryz.prog 90 #[.agg #[.int .i64 5,.int .i64 n,.string s,.string name,.string src,.slice A m c]] w fun x w'=>x=.returned (.bool (fieldsR 5 n s name src))∧Below w.heap.size w w':=by
 have ha:=fun W=>args_any 5 W
 have hr:rowsB 5=false:=rfl
 rw[hr] at ha
 have Ha:=Lhd ha
 have Hr:=Lhd hr
 clear ha hr
 obtain⟨q,hq⟩:∃ q,freesB [name,s]=q:=⟨_,rfl⟩
 have hF:=fun (W:World) (g:Nat) (h:LsAt (fun _=>True) W 1 SRow (some ⟨g,0,none⟩) 2 2 [name,s])=>free_any _ _ _ _ _ W h
 rw[hq] at hF
 have HF:=Lhd hF
 have Hq:=Lhd hq
 clear hF hq
 obtain⟨w1,Hw1⟩:∃ w1,Hid (w1=w.alloc (.cells #[.int .i64 5,.int .i64 n,.string s,.string name,.string src,.slice A m c] 32)):=⟨_,rfl⟩
 obtain⟨w2,Hw2⟩:∃ w2,Hid (w2=w1.alloc (.cells #[.int .i64 0,.int .i64 0,.string { data:=#[] },.string { data:=#[] },.string { data:=#[] },.slice none 0 0] 32)):=⟨_,rfl⟩
 have hx2:IsBlk w2 w.heap.size 32 #[.int .i64 5,.int .i64 n,.string s,.string name,.string src,.slice A m c]:=by rw[Hw2.out,Hw1.out];exact(IsBlk.laid _ _ _).alloc _
 have hy2:IsBlk w2 (w.heap.size+1) 32 #[.int .i64 0,.int .i64 0,.string { data:=#[] },.string { data:=#[] },.string { data:=#[] },.slice none 0 0]:=by rw[Hw2.out,Hw1.out];exact laid_at (by simp) _ _
 have hb2:Below w.heap.size w w2:=by rw[Hw2.out,Hw1.out];exact((Below.refl _ _).alloc (Nat.le_refl _) _).alloc (by simp) _
 have hz2:w2.heap.size=w.heap.size+2:=by rw[Hw2.out,Hw1.out];simp
 have Hz2:=Lhd hz2
 clear hz2
 have hf:=fun (W:World) (hW:Below w2.heap.size w2 W)=>And.intro (hx2.as_was (hW.block _ hx2.lt)) (hy2.as_was (hW.block _ hy2.lt))
 have Hf:=Lhd hf
 clear hf
 have hxl:=hx2.lt
 have hyl:=hy2.lt
 go_enter Tryz.func90,Tryz.ntmps90
 go_wp2_with (go_at_call 89;refine(Ha.out _).mono ?_;rintro x w' ⟨rfl,rfl⟩)
 rw[← Hw1.out,← Hw2.out]
 have x21:=hx2.cell 1
 have x22:=hx2.cell 2
 have x23:=hx2.cell 3
 have x24:=hx2.cell 4
 simp at x21 x22 x23 x24
 go_region_held3 (fun w'=>w'.cell? ⟨w.heap.size,3,none⟩=some (.string name)∧w'.cell? ⟨w.heap.size,2,none⟩=some (.string s)) ((first|exact⟨x43,x42⟩|exact⟨(World.cell?_alloc_lt w2 _ ⟨w.heap.size,3,none⟩ hxl).trans x23,(World.cell?_alloc_lt w2 _ ⟨w.heap.size,2,none⟩ hxl).trans x22⟩|(constructor<;>go_simp;done)|(simp[*];done))) (first|(go_at_call 119;go_loud (refine(HF.out _ _ (LsAt.drew (strs_two (w:=w2) 9 name s rfl ok_name ok_s))).mono ?_;rintro x w4 ⟨rfl,hb4⟩;have hb24:Below w2.heap.size w2 w4:=(((Below.refl _ _).alloc (Nat.le_refl _) _).drew).trans (hb4.mono (by simp));have hx4:=(Hf.out w4 hb24).1;have hy4:=(Hf.out w4 hb24).2;have x41:=hx4.cell 1;have x42:=hx4.cell 2;have x43:=hx4.cell 3;have x44:=hx4.cell 4;have y41:=hy4.cell 1;have y42:=hy4.cell 2;have y43:=hy4.cell 3;have y44:=hy4.cell 4;have yf:=hy4.frozen;have xl4:=hx4.lt;have yl4:=hy4.lt;simp at x41 x42 x43 x44 y41 y42 y43 y44)))
 all_goals cases q
 all_goals go_wp2
 all_goals
  go_ret
  have hb04:=hb2.trans (hb24.mono hb2.size)
  have hq:=Hq.out
  have hr:=Hr.out
  rw[freesB_all] at hq
  refine⟨ret_bool ?_,?_⟩
  ·clear Hf HF Ha x41 x42 x43 x44 y41 y42 y43 y44 yf
   simp_all [fieldsR,noS_nil]
   try omega
  ·repeat (first|exact hb04|refine Below.drew ?_|refine Below.setCell ?_ (by simp) _)
theorem fields_rows (op n:Int) (s name src:ByteArray) (A:Option Addr) (m c:Nat) (w:World) (hop:21≤op) (hop2:op≤24) (ok_name:okS name) (ok_src:okS src) :
  Calls Tryz.prog 90 #[.agg #[.int .i64 op,.int .i64 n,.string s,.string name,.string src,.slice A m c]] w fun x w'=>x=.returned (.bool (fieldsR op n s name src))∧Below w.heap.size w w':=by
 have ha:=fun W=>args_any op W
 have hr:rowsB op=true:=by simp[rowsB];omega
 rw[hr] at ha
 have Ha:=Lhd ha
 have Hr:=Lhd hr
 clear ha hr
 have e1:(op==1)=false:=by simp;omega
 have e2:(op==2)=false:=by simp;omega
 have e3:(op==3)=false:=by simp;omega
 have e4:(op==4)=false:=by simp;omega
 have e5:(op==5)=false:=by simp;omega
 obtain⟨q,hq⟩:∃ q,freesB [name,src]=q:=⟨_,rfl⟩
 have hF:=fun (W:World) (g:Nat) (h:LsAt (fun _=>True) W 1 SRow (some ⟨g,0,none⟩) 2 2 [name,src])=>free_any _ _ _ _ _ W h
 rw[hq] at hF
 have HF:=Lhd hF
 have Hq:=Lhd hq
 clear hF hq
 obtain⟨w1,Hw1⟩:∃ w1,Hid (w1=w.alloc (.cells #[.int .i64 op,.int .i64 n,.string s,.string name,.string src,.slice A m c] 32)):=⟨_,rfl⟩
 obtain⟨w2,Hw2⟩:∃ w2,Hid (w2=w1.alloc (.cells #[.int .i64 0,.int .i64 0,.string { data:=#[] },.string { data:=#[] },.string { data:=#[] },.slice none 0 0] 32)):=⟨_,rfl⟩
 have hx2:IsBlk w2 w.heap.size 32 #[.int .i64 op,.int .i64 n,.string s,.string name,.string src,.slice A m c]:=by rw[Hw2.out,Hw1.out];exact(IsBlk.laid _ _ _).alloc _
 have hy2:IsBlk w2 (w.heap.size+1) 32 #[.int .i64 0,.int .i64 0,.string { data:=#[] },.string { data:=#[] },.string { data:=#[] },.slice none 0 0]:=by rw[Hw2.out,Hw1.out];exact laid_at (by simp) _ _
 have hb2:Below w.heap.size w w2:=by rw[Hw2.out,Hw1.out];exact((Below.refl _ _).alloc (Nat.le_refl _) _).alloc (by simp) _
 have hz2:w2.heap.size=w.heap.size+2:=by rw[Hw2.out,Hw1.out];simp
 have Hz2:=Lhd hz2
 clear hz2
 have hf:=fun (W:World) (hW:Below w2.heap.size w2 W)=>And.intro (hx2.as_was (hW.block _ hx2.lt)) (hy2.as_was (hW.block _ hy2.lt))
 have Hf:=Lhd hf
 clear hf
 have hxl:=hx2.lt
 have hyl:=hy2.lt
 go_enter Tryz.func90,Tryz.ntmps90
 go_wp2_with (go_at_call 89;refine(Ha.out _).mono ?_;rintro x w' ⟨rfl,rfl⟩)
 rw[← Hw1.out,← Hw2.out]
 have x21:=hx2.cell 1
 have x22:=hx2.cell 2
 have x23:=hx2.cell 3
 have x24:=hx2.cell 4
 simp at x21 x22 x23 x24
 go_region_held3 (fun w'=>w'.cell? ⟨w.heap.size,3,none⟩=some (.string name)∧w'.cell? ⟨w.heap.size,4,none⟩=some (.string src)) ((first|exact⟨x43,x44⟩|exact⟨(World.cell?_alloc_lt w2 _ ⟨w.heap.size,3,none⟩ hxl).trans x23,(World.cell?_alloc_lt w2 _ ⟨w.heap.size,4,none⟩ hxl).trans x24⟩|(constructor<;>go_simp;done)|(simp[*];done))) (first|(go_at_call 119;go_loud (refine(HF.out _ _ (LsAt.drew (strs_two (w:=w2) 9 name src rfl ok_name ok_src))).mono ?_;rintro x w4 ⟨rfl,hb4⟩;have hb24:Below w2.heap.size w2 w4:=(((Below.refl _ _).alloc (Nat.le_refl _) _).drew).trans (hb4.mono (by simp));have hx4:=(Hf.out w4 hb24).1;have hy4:=(Hf.out w4 hb24).2;have x41:=hx4.cell 1;have x42:=hx4.cell 2;have x43:=hx4.cell 3;have x44:=hx4.cell 4;have y41:=hy4.cell 1;have y42:=hy4.cell 2;have y43:=hy4.cell 3;have y44:=hy4.cell 4;have yf:=hy4.frozen;have xl4:=hx4.lt;have yl4:=hy4.lt;simp at x41 x42 x43 x44 y41 y42 y43 y44)))
 all_goals cases q
 all_goals go_wp2
 all_goals
  go_ret
  have hb04:=hb2.trans (hb24.mono hb2.size)
  have hq:=Hq.out
  have hr:=Hr.out
  rw[freesB_all] at hq
  refine⟨ret_bool ?_,?_⟩
  ·clear Hf HF Ha x41 x42 x43 x44 y41 y42 y43 y44 yf
   simp_all [fieldsR,noS_nil]
   try omega
  ·repeat (first|exact hb04|refine Below.drew ?_|refine Below.setCell ?_ (by simp) _)
theorem fields_any (op n:Int) (s name src:ByteArray) (A:Option Addr) (m c:Nat) (w:World) (h1:okS name) (h2:okS s) (h3:okS src) :
  Calls Tryz.prog 90 #[.agg #[.int .i64 op,.int .i64 n,.string s,.string name,.string src,.slice A m c]] w fun x w'=>x=.returned (.bool (fieldsR op n s name src))∧Below w.heap.size w w':=by
 by_cases e1:op=1
 ·subst e1;exact fields_1 n s name src A m c w
 by_cases e2:op=2
 ·subst e2;exact fields_2 n s name src A m c w
 by_cases e3:op=3
 ·subst e3;exact fields_3 n s name src A m c w
 by_cases e4:op=4
 ·subst e4;exact fields_4 n s name src A m c w h1
 by_cases e5:op=5
 ·subst e5;exact fields_5 n s name src A m c w h1 h2
 by_cases er:21≤op∧op≤24
 ·exact fields_rows op n s name src A m c w er.1 er.2 h1 h3
 ·exact fields_other n s name src A m c w op (by omega) (by omega)
end Go.Proofs.YtdgapmnojmhllaaGreatDoor

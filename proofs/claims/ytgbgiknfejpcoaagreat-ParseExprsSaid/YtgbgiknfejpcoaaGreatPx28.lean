/- Parts of this proof, one behind the other: LexP, LexA, LexB. -/
import Derived.Test.YtgbgiknfejpcoaaGreatPx18
import Derived.Test.YtgbgiknfejpcoaaGreatPx12
import Derived.Test.YtgbgiknfejpcoaaGreatShelfP
import Derived.Lib.IndexBytes
import Derived.Test.YtgbgiknfejpcoaaGreatPx3
set_option maxRecDepth 1000000
set_option maxHeartbeats 40000000
namespace Go.Afx
open Go.RowKit
def lexB (c:UInt8):Bool:=(decide (97≤c.toNat)&&decide (c.toNat≤122))||(decide (65≤c.toNat)&&decide (c.toNat≤90))||(decide (48≤c.toNat)&&decide (c.toNat≤57))||decide (c.toNat=95)
def wsB (c:UInt8):Bool:=decide (c.toNat=32)||decide (c.toNat=9)||decide (c.toNat=10)
def dgB (c:UInt8):Bool:=decide (48≤c.toNat)&&decide (c.toNat≤57)
def blk:Bool→List UInt8→Nat
 | _,[]=>0
 | true,c::r=>if c.toNat=10 then 1+blk false r else 1+blk true r
 | false,c::r=>if wsB c then 1+blk false r else if c.toNat=47∧r.head?=some 47 then 1+blk true r else 0
def numL (t:List UInt8):Nat:=t.foldl (fun a c=>10*a+(c.toNat-48)) 0
def parseN (t:List UInt8):Option Nat:=if (t.head?=some 48∧1<t.length)∨t.all dgB=false then none else if numL t≤9223372036854775807 then some (numL t) else none
def quo:List UInt8→List UInt8→Nat→Option (List UInt8×Nat)
 | [],_,_=>none
 | [c],acc,i=>if c.toNat=10 then none else if c.toNat=39 then some (acc,i+1) else none
 | c::d::r,acc,i=>if c.toNat=10 then none else if c.toNat=39 then (if d.toNat=39 then quo r (acc++[39]) (i+2) else some (acc,i+1)) else quo (d::r) (acc++[c]) (i+1)
def signsL:List (List UInt8):=[[60,61],[33,61],[62,61],[40],[41],[123],[125],[91],[93],[44],[59],[58],[46],[43],[45],[42],[47],[37],[60],[61],[62]]
structure Nx where
 kind:Int
 text:List UInt8
 n:Int
 len:Nat
def plainX (s:List UInt8):Option Nx :=
 if (s.takeWhile lexB).head?.any dgB then (parseN (s.takeWhile lexB)).map fun v=>⟨1,s.takeWhile lexB,v,(s.takeWhile lexB).length⟩
 else if namedB (str (s.takeWhile lexB)) then some ⟨3,s.takeWhile lexB,0,(s.takeWhile lexB).length⟩ else none
def quotedX (s:List UInt8):Option Nx:=match quo (s.drop 1) [] 1 with
 | none=>none
 | some (b,n)=>if b.length≤200 then some ⟨2,b,0,n⟩ else none
def signX (s:List UInt8):Option Nx:=(signsL.find? fun g=>g.isPrefixOf s).map fun g=>⟨0,g,0,g.length⟩
def nextX (s:List UInt8):Option Nx :=
 if s.head?.any lexB then plainX s else if s.head?.any (fun c=>c.toNat=39) then quotedX s else signX s
def conX (x:Wd):Nat ⊕ List Wd→Nat ⊕ List Wd
 | .inl e=>.inl e
 | .inr l=>.inr (x::l)
def appX (p:List Wd):Nat ⊕ List Wd→Nat ⊕ List Wd
 | .inl e=>.inl e
 | .inr l=>.inr (p++l)
def lexH:Nat→Nat→List UInt8→Nat ⊕ List Wd
 | 0,at_,_=>.inl at_
 | f+1,at_,s=>if s=[] then .inr [] else match nextX s with
  | none=>.inl at_
  | some x=>conX ⟨x.kind,str x.text,x.n,at_⟩ (lexH f (at_+x.len+blk false (s.drop x.len)) ((s.drop x.len).drop (blk false (s.drop x.len))))
def lexL (s:List UInt8):Nat ⊕ List Wd:=lexH (s.length+1) (blk false s) (s.drop (blk false s))
theorem appX_nil (r:Nat ⊕ List Wd):appX [] r=r:=by cases r<;>rfl
theorem appX_con (p:List Wd) (x:Wd) (r:Nat ⊕ List Wd):appX p (conX x r)=appX (p++[x]) r:=by
 cases r with
 | inl e=>rfl
 | inr l=>simp[appX,conX]
theorem blk_le:∀ (s:List UInt8) (b:Bool),blk b s≤s.length:=by
 intro s
 induction s with
 | nil=>intro b;cases b<;>simp[blk]
 | cons c r ih =>
  intro b
  have h1:=ih true
  have h2:=ih false
  cases b<;>simp only[blk,List.length_cons]<;>repeat' split
  all_goals omega
theorem blk_stop:∀ (s:List UInt8),(∀ c,(s.drop (blk false s)).head?=some c→wsB c=false)∧(∀ c,(s.drop (blk true s)).head?=some c→wsB c=false):=by
 intro s
 induction s with
 | nil=>simp[blk]
 | cons c r ih =>
  refine⟨fun d hd=>?_,fun d hd=>?_⟩
  ·unfold blk at hd
   split at hd
   ·rw[Nat.add_comm,List.drop_succ_cons] at hd;exact ih.1 d hd
   ·rename_i hw
    split at hd
    ·rw[Nat.add_comm,List.drop_succ_cons] at hd;exact ih.2 d hd
    ·simp at hd;subst hd;simpa using hw
  ·unfold blk at hd
   split at hd
   ·rw[Nat.add_comm,List.drop_succ_cons] at hd;exact ih.1 d hd
   ·rw[Nat.add_comm,List.drop_succ_cons] at hd;exact ih.2 d hd
theorem quo_len:∀ (k:Nat) (s acc:List UInt8) (i:Nat) (b:List UInt8) (n:Nat),s.length≤k→quo s acc i=some (b,n)→i+1≤n∧n≤i+s.length:=by
 intro k
 induction k with
 | zero=>intro s acc i b n hk h;cases s with
  | nil=>simp[quo] at h
  | cons c r=>simp at hk
 | succ k ih =>
  intro s acc i b n hk h
  match s with
  | []=>simp[quo] at h
  | [c] =>
   unfold quo at h
   split at h
   ·cases h
   ·split at h
    ·simp at h;simp;omega
    ·cases h
  | c :: d::r =>
   simp only[List.length_cons] at hk
   unfold quo at h
   split at h
   ·cases h
   ·split at h
    ·split at h
     ·have:=ih _ _ _ _ _ (by omega) h
      simp only[List.length_cons];omega
     ·simp at h;simp only[List.length_cons];omega
    ·have:=ih _ _ _ _ _ (by simp;omega) h
     simp only[List.length_cons] at this ⊢;omega
theorem next_len {s:List UInt8} {x:Nx} (h:nextX s=some x):1≤x.len∧x.len≤s.length:=by
 have htk:∀ (p:UInt8→Bool) (s:List UInt8),(s.takeWhile p).length≤s.length:=fun p s=>(List.takeWhile_prefix p).length_le
 unfold nextX at h
 split at h
 ·rename_i hp
  have h1:1≤(s.takeWhile lexB).length:=by
   cases s with
   | nil=>simp at hp
   | cons c r =>
    have hp:lexB c=true:=by simpa using hp
    rw[List.takeWhile_cons,if_pos hp];simp
  have h2:=htk lexB s
  unfold plainX at h
  split at h
  ·cases hn:parseN (s.takeWhile lexB) with
   | none=>rw[hn] at h;cases h
   | some v=>rw[hn] at h;cases h;exact⟨h1,h2⟩
  ·split at h
   ·cases h;exact⟨h1,h2⟩
   ·cases h
 ·split at h
  ·rename_i hq
   unfold quotedX at h
   split at h
   ·cases h
   ·rename_i b n hb
    split at h
    ·cases h
     have:=quo_len _ _ _ _ _ _ (Nat.le_refl _) hb
     cases s with
     | nil=>simp at hq
     | cons c r=>simp at this ⊢;omega
    ·cases h
  ·unfold signX at h
   cases hf:signsL.find? (fun g=>g.isPrefixOf s) with
   | none=>rw[hf] at h;cases h
   | some g =>
    rw[hf] at h
    cases h
    have h1:=List.find?_some hf
    have h2:=List.mem_of_find?_eq_some hf
    have h3:g.length≤s.length:=(List.isPrefixOf_iff_prefix.1 h1).length_le
    refine⟨?_,h3⟩
    revert h2
    have:∀ g∈signsL,1≤g.length:=by decide
    exact this g
end Go.Afx
namespace Go.Proofs.YtgbgiknfejpcoaaGreat
open Go.RowKit Go.Afx
theorem lexPart_any (c:UInt8) (w:World):Calls Tryz.prog 159 #[.int .u8 (c.toNat:Int)] w fun x w'=>x=.returned (.bool (lexB c))∧w=w':=by
 go_enter Tryz.func159,Tryz.ntmps159
 go_wp2
 all_goals
  go_ret
  refine⟨ret_bool ?_,rfl⟩
  rw[Bool.eq_iff_iff]
  simp[lexB]
  omega
theorem ext_list (s:ByteArray) (k:Nat):(s.extract k s.size).data.toList=s.data.toList.drop k:=by
 simp only[ByteArray.data_extract,Array.toList_extract,List.extract_eq_take_drop]
 exact List.take_of_length_le (by simp)
theorem szl (s:ByteArray):s.data.toList.length=s.size:=by simp
theorem drop_at (s:ByteArray) (k:Nat) (h:k<s.size):s.data.toList.drop k=s[k]::s.data.toList.drop (k+1):=by
 have h2:k<s.data.toList.length:=by simpa using h
 rw[List.drop_eq_getElem_cons h2]
 rfl
theorem u8_of (c:UInt8):((c.toNat:Int)).toNat.toUInt8=c:=by simp
theorem ws_idx (c:UInt8):decide (0≤Lib.indexByte [32,9,10] c)=wsB c:=by
 have h:∀ a b:UInt8,(a==b)=decide (b.toNat=a.toNat):=fun a b=>by
  rw[Bool.eq_iff_iff]
  simp only[beq_iff_eq,decide_eq_true_eq]
  exact⟨fun e=>by rw[e],fun e=>(UInt8.toNat_inj.1 e).symm⟩
 simp only[Lib.indexByte,h,wsB]
 rcases Classical.em (c.toNat=32) with h1|h1
 ·simp[h1]
 ·rcases Classical.em (c.toNat=9) with h2|h2
  ·simp[h2]
  ·rcases Classical.em (c.toNat=10) with h3|h3
   ·simp[h3]
   ·simp[h1,h2,h3]
theorem rem_idx:∀ (r:List UInt8),(Lib.indexByte r 10 = -1→blk true r=r.length)∧(∀ j:Nat,Lib.indexByte r 10=j→j<r.length∧blk true r=j+blk false (r.drop j)):=by
 intro r
 induction r with
 | nil=>exact⟨fun _=>rfl,fun j h=>by simp[Lib.indexByte] at h⟩
 | cons c r ih =>
  rcases Classical.em (c.toNat=10) with hc|hc
  ·have e:c=10:=UInt8.toNat_inj.1 hc
   subst e
   refine⟨fun h=>by simp[Lib.indexByte] at h,fun j h=>?_⟩
   simp[Lib.indexByte] at h
   have hj:j=0:=by omega
   subst hj
   refine⟨by simp,?_⟩
   simp[blk,wsB]
  ·have e:(c==10)=false:=by
    rw[beq_eq_false_iff_ne]
    intro e;subst e;exact hc rfl
   have hb:blk true (c::r)=1+blk true r:=by simp[blk,hc]
   simp only[Lib.indexByte,e,Bool.false_eq_true,if_false,hb]
   have hge:=Lib.indexByte_ge r 10
   rcases Classical.em (Lib.indexByte r 10 = -1) with h1|h1
   ·simp only[h1,beq_self_eq_true,if_true]
    exact⟨fun _=>by rw[ih.1 h1,List.length_cons,Nat.add_comm],fun j h=>by exfalso;omega⟩
   ·have e2:(Lib.indexByte r 10==-1)=false:=by rw[beq_eq_false_iff_ne];exact h1
    simp only[e2,Bool.false_eq_true,if_false]
    refine⟨fun h=>by omega,fun j h=>?_⟩
    obtain⟨j,rfl⟩:∃ i,j=i+1:=⟨j-1,by omega⟩
    obtain⟨h2,h3⟩:=ih.2 j (by omega)
    refine⟨by rw[List.length_cons];exact Nat.succ_lt_succ h2,?_⟩
    rw[h3,List.drop_succ_cons]
    omega
theorem rem_at {r:List UInt8} (h:Lib.hasPrefix r [47,47]=true):(Lib.indexByte r 10<0→blk false r=r.length)∧(∀ j:Nat,Lib.indexByte r 10=j→1≤j∧j≤r.length∧blk false r=j+blk false (r.drop j)):=by
 have h1:=List.isPrefixOf_iff_prefix.1 h
 obtain⟨t,rfl⟩:=h1
 have hb:blk false ([47,47]++t)=1+blk true (47::t):=by simp[blk,wsB]
 have hb2:blk true ([47,47]++t)=1+blk true (47::t):=by simp[blk]
 obtain⟨h2,h3⟩:=rem_idx ([47,47]++t)
 rw[hb,← hb2]
 refine⟨fun h=>h2 (by have:=Lib.indexByte_ge ([47,47]++t) 10;omega),fun j hj=>?_⟩
 obtain⟨h4,h5⟩:=h3 j hj
 refine⟨?_,by omega,h5⟩
 rcases Nat.eq_zero_or_pos j with e|e
 ·subst e
  have hge:=Lib.indexByte_ge t 10
  simp only[List.cons_append,List.nil_append,Lib.indexByte] at hj
  simp only[show ((47:UInt8)==10)=false by decide,Bool.false_eq_true,if_false] at hj
  split at hj<;>split at hj<;>simp_all<;>omega
 ·exact e
theorem blk_other {c:UInt8} {r:List UInt8} (h1:wsB c=false) (h2:Lib.hasPrefix (c::r) [47,47]=false):blk false (c::r)=0:=by
 unfold blk
 rw[if_neg (by rw[h1];decide),if_neg]
 rintro⟨h3,h4⟩
 have e:c=47:=UInt8.toNat_inj.1 h3
 subst e
 cases r with
 | nil=>simp at h4
 | cons d r =>
  have e2:d=47:=by simpa using h4
  subst e2
  simp[Lib.hasPrefix,List.isPrefixOf] at h2
theorem blank_any (s:ByteArray) (w:World) (hs:s.size≤1000000000000):Calls Tryz.prog 107 #[.string s] w fun x w'=>x=.returned (.int .i64 (blk false s.data.toList))∧w=w':=by
 obtain⟨m,Hm⟩:∃ m,Hid (m=blk false s.data.toList):=⟨_,rfl⟩
 rw[← Hm.out]
 go_enter Tryz.func107,Tryz.ntmps107
 go_wp2
 go_loop [3] (fun i=>∃ k:Nat,k≤s.size∧i=.int .i64 k∧Hid (m=k+blk false (s.data.toList.drop k))) (fun i=>s.size-(intOf i).toNat)
 case atStart=>exact⟨0,Nat.zero_le _,rfl,Lhd (by rw[Hm.out];simp)⟩
 case round =>
  obtain⟨k,hk,rfl,HF⟩:=hrel
  rcases Nat.lt_or_ge k s.size with hlt|hge
  ·have hd:=drop_at s k hlt
   have h1:=Tryz.strings_IndexByte ⟨#[32,9,10]⟩ ((s[k]'hlt).toNat:Int) w
   have h2:=Tryz.strings_HasPrefix (s.extract k s.size) ⟨#[47,47]⟩ w
   have h3:=Tryz.strings_IndexByte (s.extract k s.size) 10 w
   rw[u8_of] at h1
   rw[ext_list] at h2 h3
   have hws:decide (0≤Lib.indexByte (⟨#[32,9,10]⟩:ByteArray).data.toList s[k])=wsB s[k]:=ws_idx s[k]
   have hrem:Lib.hasPrefix (s.data.toList.drop k) (⟨#[47,47]⟩:ByteArray).data.toList=true→_:=rem_at (r:=s.data.toList.drop k)
   have hoth:=blk_other (c:=s[k]) (r:=s.data.toList.drop (k+1))
   have h3:Calls Tryz.prog 157 #[.string (s.extract k s.size),.int .u8 10] w fun e w'=>e=.returned (.int .i64 (Lib.indexByte (s.data.toList.drop k) 10))∧w'=w:=h3
   rw[← hd] at hoth
   have hoth:wsB s[k]=false→Lib.hasPrefix (s.data.toList.drop k) (⟨#[47,47]⟩:ByteArray).data.toList=false→_:=hoth
   have hgeI:=Lib.indexByte_ge (s.data.toList.drop k) 10
   generalize Lib.indexByte (⟨#[32,9,10]⟩:ByteArray).data.toList s[k]=i1 at *
   generalize Lib.hasPrefix (s.data.toList.drop k) (⟨#[47,47]⟩:ByteArray).data.toList=b2 at *
   generalize Lib.indexByte (s.data.toList.drop k) 10=i3 at *
   have hnext:wsB s[k]=true→m=k+1+blk false (s.data.toList.drop (k+1)):=fun e=>by
    have:=HF.out
    rw[hd] at this
    unfold blk at this
    rw[if_pos e] at this
    omega
   generalize wsB s[k]=bw at *
   have H1:=Lhd h1
   have H2:=Lhd h2
   have H3:=Lhd h3
   have Hrem:=Lhd hrem
   have Hoth:=Lhd hoth
   have Hnext:=Lhd hnext
   have HgeI:=Lhd hgeI
   clear h1 h2 h3 hrem hoth hnext hd hgeI
   cases bw with
   | true =>
    have hi:(0:Int)≤i1:=by simpa using hws
    have Hk:=Lhd hk
    clear hws hk Hm
    go_wp2_with (fail)
    refine H1.out.mono ?_
    rintro e w' ⟨rfl,rfl⟩
    go_wp2
    go_round
    case rel=>exact⟨k+1,by omega,by go_num,Lhd (Hnext.out (by simp))⟩
    case measure=>simp[intOf];omega
   | false =>
    have hi:i1<0:=by simpa using hws
    clear hws
    go_wp2_with (fail)
    refine H1.out.mono ?_
    rintro e w' ⟨rfl,rfl⟩
    go_wp2_with (fail)
    refine H2.out.mono ?_
    rintro e w' ⟨rfl,rfl⟩
    cases b2 with
    | true =>
     obtain⟨h4,h5⟩:=Hrem.out (by simp)
     rcases Int.lt_or_le i3 0 with h6|h6
     ·have h7:=h4 h6
      have H7:Hid (m=s.size):=Lhd (by have:=HF.out;rw[h7,List.length_drop,szl] at this;omega)
      clear h4 h5 h7
      go_wp2_with (fail)
      refine H3.out.mono ?_
      rintro e w' ⟨rfl,rfl⟩
      go_wp2
      go_ret
      exact⟨by rw[H7.out];rfl,rfl⟩
     ·obtain⟨j,rfl⟩:∃ j:Nat,i3=j:=⟨i3.toNat,by omega⟩
      obtain⟨h7,h8,h9⟩:=h5 j rfl
      have h8:j≤s.size-k:=by simpa using h8
      have H9:Hid (m=k+j+blk false (s.data.toList.drop (k+j))):=Lhd (by rw[HF.out,h9,List.drop_drop];omega)
      clear h4 h5 h9
      go_wp2_with (fail)
      refine H3.out.mono ?_
      rintro e w' ⟨rfl,rfl⟩
      go_wp2
      go_round
      case rel=>exact⟨k+j,by omega,by go_num,H9⟩
      case measure=>simp[intOf];omega
    | false =>
     have H7:Hid (m=k):=Lhd (by have:=HF.out;rw[Hoth.out (by simp) (by simp)] at this;exact this)
     go_wp2
     go_ret
     exact⟨by rw[H7.out];rfl,rfl⟩
  ·have e:k=s.size:=by omega
   have H7:Hid (m=k):=Lhd (by
    have:=HF.out
    rw[List.drop_eq_nil_of_le (by rw[szl];omega)] at this
    exact this)
   go_wp2
   go_ret
   exact⟨by rw[H7.out,e];rfl,rfl⟩
theorem numL_snoc (t:List UInt8) (c:UInt8):numL (t++[c])=10*numL t+(c.toNat-48):=by
 unfold numL
 rw[List.foldl_append]
 rfl
theorem take_one {l:List UInt8} {k:Nat} {y:UInt8} (h:l[k]?=some y):l.take (k+1)=l.take k++[y]:=by
 rw[List.take_add_one,h]
 rfl
def NumSaid (t:List UInt8) (v e:Int):Prop:=match parseN t with
 | some n=>v=n∧e=0
 | none=>1≤e∧e≤100
theorem mul64_of (n:Nat) (hn:n<18446744073709551616) (w:World):Calls Tryz.prog 215 #[.int .u64 n,.int .u64 10] w fun e w'=>e=.returned (.tuple #[.int .u64 ((n*10 / 18446744073709551616:Nat):Int),.int .u64 ((n*10 % 18446744073709551616:Nat):Int)])∧w'=w :=
 Tryz.bits_Mul64 n 10 hn (by omega) w
theorem add64_of (n d:Nat) (w:World):(callFunc 216 #[.int .u64 n,.int .u64 d,.int .u64 0]).run Tryz.prog w=.ok (.value (.tuple #[.int .u64 (((n+d) % 18446744073709551616:Nat):Int),.int .u64 (((n+d) / 18446744073709551616:Nat):Int)])) w :=
 Tryz.bits_Add64 n d 0 (by omega) w
theorem signed_pos (a:Nat) (ha:a<18446744073709551616) (w:World):Calls Tryz.prog 217 #[.bool false,.int .u64 a] w fun e w'=>e=.returned (.tuple #[.int .i64 (if a≤9223372036854775807 then a else 0),.int .i64 (if a≤9223372036854775807 then 0 else 2)])∧w'=w:=by
 rcases Nat.lt_or_ge 9223372036854775807 a with h|h
 ·rw[if_neg (by omega),if_neg (by omega)]
  go_enter Tryz.func217,Tryz.ntmps217
  go_wp2
  go_ret2
  exact⟨rfl,rfl⟩
 ·rw[if_pos h,if_pos h]
  go_enter Tryz.func217,Tryz.ntmps217
  go_wp2
  go_ret2
  exact⟨rfl,rfl⟩
theorem numL_step {l:List UInt8} {k a hi lo:Nat} {y:UInt8} {o:Bool} (hy:l[k]?=some y) (h:a=numL (l.take k) % 18446744073709551616∧o=decide (18446744073709551616≤numL (l.take k))∧∀ y∈l.take k,dgB y=true) (hhi:a*10 / 18446744073709551616=hi) (hlo:a*10 % 18446744073709551616=lo) :
  (lo+(y.toNat-48)) % 18446744073709551616=numL (l.take (k+1)) % 18446744073709551616∧(o||decide (hi≠0)||decide ((lo+(y.toNat-48)) / 18446744073709551616≠0))=decide (18446744073709551616≤numL (l.take (k+1))):=by
 rw[take_one hy,numL_snoc]
 obtain⟨h1,h2,_⟩:=h
 generalize numL (l.take k)=N at *
 have hyl:=y.toNat_lt
 generalize y.toNat-48=d at *
 subst h1
 refine⟨by omega,?_⟩
 rw[Bool.eq_iff_iff]
 simp only[h2,Bool.or_eq_true,decide_eq_true_eq]
 omega
theorem calcParse_any (s:ByteArray) (w:World) (h0:0<s.size) (hs:s.size≤1000000000000) (hd:dgB s[0]=true) :
  Calls Tryz.prog 190 #[.string s] w fun x w'=>(∃ v e:Int,x=.returned (.tuple #[.int .i64 v,.int .i64 e])∧NumSaid s.data.toList v e)∧Below w.heap.size w w':=by
 obtain⟨c,r,hl,hc,hlen⟩:=list_of s h0
 have hdc:48≤c.toNat∧c.toNat≤57:=by
  rw[hc] at hd
  simpa [dgB] using hd
 have hne:(((s[0]'h0).toNat:Int)==45)=false:=by rw[hc];rw[beq_eq_false_iff_ne];omega
 have he:s.toList.isEmpty=false:=by
  cases hx:s.toList with
  | nil=>exact absurd ((bytes_nil s).1 hx) (by omega)
  | cons a l=>rfl
 have hcv:=fun (W:World)=>Lib.run_convert_string_bytes (P:=Tryz.prog) W 9 130 5 s Tryz.underlying9 Tryz.underlying130 Tryz.underlying5
 have hcell:=Lib.bytesWorld_cell w 5 s
 have Hcell:=Lhd hcell
 have hbel:=bytesBelow w 5 s
 rcases Classical.em (c.toNat=48∧1<s.size) with hz|hz
 ·have hN:NumSaid s.data.toList 0 12:=by
   have e:c=48:=UInt8.toNat_inj.1 hz.1
   unfold NumSaid parseN
   rw[hl,if_pos (.inl ⟨by rw[e];rfl,by simp only[List.length_cons];omega⟩)]
   decide
  have hq:(((s[0]'h0).toNat:Int)==48)=true:=by rw[hc];rw[beq_iff_eq];omega
  have hq2:decide ((1:Int)<(s.size:Int))=true:=by simp;omega
  have HN:=Lhd hN
  clear hN hcell hbel hcv hz hdc hl hlen hc hd
  go_enter Tryz.func190,Tryz.ntmps190
  go_wp2
  go_ret2
  exact⟨⟨_,_,rfl,HN.out⟩,Below.refl _ _⟩
 ·have hN:∀ a:Nat,(∀ y∈s.data.toList,dgB y=true)→a=numL s.data.toList→NumSaid s.data.toList (if a≤9223372036854775807 then a else 0) (if a≤9223372036854775807 then 0 else 2):=fun a h1 h2=>by
   unfold NumSaid parseN
   rw[if_neg,← h2]
   ·rcases Classical.em (a≤9223372036854775807) with ha|ha
    ·simp only[if_pos ha,and_true]
    ·simp only[if_neg ha];decide
   ·rintro(h3|h3)
    ·rw[hl] at h3
     simp at h3
     have:c.toNat=48:=by rw[h3.1];rfl
     have:1<s.size:=by rw[← hlen];have:=h3.2;cases r with|nil=>simp at this|cons a b=>simp
     omega
    ·rw[List.all_eq_false] at h3
     obtain⟨y,hy,h4⟩:=h3
     exact h4 (h1 y hy)
  have hX:∀ y∈s.data.toList,dgB y=false→NumSaid s.data.toList 0 12:=fun y hy h=>by
   unfold NumSaid parseN
   rw[if_pos (.inr (List.all_eq_false.2 ⟨y,hy,by rw[h];decide⟩))]
   decide
  have hq:(((s[0]'h0).toNat:Int)==48)=false∨(((s[0]'h0).toNat:Int)==48)=true∧¬ ((1:Int)<(s.size:Int)):=by
   rw[hc,beq_eq_false_iff_ne,beq_iff_eq]
   omega
  have HN:=Lhd hN
  have HX:=Lhd hX
  have Hbel:=Lhd hbel
  clear hN hX hcell hz hdc hl hlen hbel hc hd
  rcases hq with hq|⟨hq,hq2⟩
  all_goals
   go_enter Tryz.func190,Tryz.ntmps190
   go_wp2
   generalize Lib.bytesWorld w 5 s=wb at *
   go_loop [6,7,42] (fun n ov i=>∃ (k a:Nat) (o:Bool),k≤s.size∧n=.int .u64 a∧ov=.bool o∧i=.int .i64 k∧Hid (a=numL (s.data.toList.take k) % 18446744073709551616∧o=decide (18446744073709551616≤numL (s.data.toList.take k))∧∀ y∈s.data.toList.take k,dgB y=true)) (fun _ _ i=>s.size-(intOf i).toNat)
   case atStart=>exact⟨0,0,false,Nat.zero_le _,rfl,rfl,rfl,Lhd ⟨rfl,rfl,by simp⟩⟩
   case round =>
    obtain⟨k,a,o,hk,rfl,rfl,rfl,HS⟩:=hrel
    by_cases hlt:k<s.size
    ·have hc1:=Hcell.out k hlt
     obtain⟨y,hy⟩:∃ y,s.data.toList[k]?=some y:=⟨_,List.getElem?_eq_getElem (by simpa using hlt)⟩
     rw[List.getD_eq_getElem?_getD,hy,Option.getD_some] at hc1
     have Hy:=Lhd hy
     have ha:a<18446744073709551616:=by rw[HS.out.1];exact Nat.mod_lt _ (by decide)
     have hm:=mul64_of a ha wb
     have hA:=fun d=>add64_of (a*10 % 18446744073709551616) d wb
     generalize hhi:a*10 / 18446744073709551616=hi at *
     generalize hlo:a*10 % 18446744073709551616=lo at *
     have Hm:=Lhd hm
     have HA:=Lhd hA
     have Hd:=Lhd (And.intro hhi hlo)
     have hdd:dgB y=true∨(y.toNat<48∨57<y.toNat):=by
      rcases Classical.em (dgB y=true) with h|h
      ·exact .inl h
      ·right
       rw[Bool.not_eq_true] at h
       simp[dgB] at h
       omega
     clear hy hm hA hhi hlo
     rcases hdd with hdd|hdd|hdd
     ·have hdg:48≤y.toNat∧y.toNat≤57:=by simpa [dgB] using hdd
      obtain⟨e1,e2⟩:=hdg
      have hA:=HA.out (y.toNat-48)
      have e3:(((y.toNat-48:Nat):Int))=(y.toNat:Int)-48:=by omega
      rw[e3] at hA
      have hnum:=numL_step Hy.out HS.out Hd.out.1 Hd.out.2
      have hall:∀ z∈s.data.toList.take (k+1),dgB z=true:=by
       rw[take_one Hy.out]
       intro z hz
       rcases List.mem_append.1 hz with hz|hz
       ·exact HS.out.2.2 z hz
       ·simp only[List.mem_singleton] at hz;subst hz;exact hdd
      generalize (lo+(y.toNat-48)) % 18446744073709551616=S at *
      generalize (lo+(y.toNat-48)) / 18446744073709551616=C at *
      have Hnum:=Lhd (And.intro hnum hall)
      clear hnum hall
      go_wp2_with (fail)
      refine Hm.out.mono ?_
      rintro e w' ⟨rfl,rfl⟩
      cases o with
      | true =>
       go_wp2
       go_round
       case rel=>exact⟨k+1,S,true,by omega,rfl,rfl,by go_num,Lhd ⟨Hnum.out.1.1,by rw[← Hnum.out.1.2];rfl,Hnum.out.2⟩⟩
       case measure=>simp[intOf];omega
      | false =>
       rcases Nat.eq_zero_or_pos hi with h1|h1
       ·subst h1
        rcases Nat.eq_zero_or_pos C with h2|h2
        ·subst h2
         go_wp2
         go_round
         case rel=>exact⟨k+1,S,false,by omega,rfl,rfl,by go_num,Lhd ⟨Hnum.out.1.1,by rw[← Hnum.out.1.2];rfl,Hnum.out.2⟩⟩
         case measure=>simp[intOf];omega
        ·have h3:((C:Int)==0)=false:=by rw[beq_eq_false_iff_ne];omega
         have h4:((C:Int) !=0)=true:=by simp;omega
         go_wp2
         go_round
         case rel=>exact⟨k+1,S,true,by omega,rfl,rfl,by go_num,Lhd ⟨Hnum.out.1.1,by rw[← Hnum.out.1.2];simp;omega,Hnum.out.2⟩⟩
         case measure=>simp[intOf];omega
       ·have h3:((hi:Int)==0)=false:=by rw[beq_eq_false_iff_ne];omega
        go_wp2
        go_round
        case rel=>exact⟨k+1,S,true,by omega,rfl,rfl,by go_num,Lhd ⟨Hnum.out.1.1,by rw[← Hnum.out.1.2];simp;omega,Hnum.out.2⟩⟩
        case measure=>simp[intOf];omega
     ·have hx:=HX.out y (List.mem_of_getElem? Hy.out) (by simp[dgB];omega)
      have Hx:=Lhd hx
      clear hx
      go_wp2
      go_ret2
      exact⟨⟨_,_,rfl,Hx.out⟩,Hbel.out⟩
     ·have hx:=HX.out y (List.mem_of_getElem? Hy.out) (by simp[dgB];omega)
      have Hx:=Lhd hx
      clear hx
      go_wp2
      go_ret2
      exact⟨⟨_,_,rfl,Hx.out⟩,Hbel.out⟩
    ·have e:k=s.size:=by omega
     have hlL:s.data.toList.length≤k:=by rw[szl];omega
     have hS:=HS.out
     rw[List.take_of_length_le hlL] at hS
     cases o with
     | true =>
      have h1:NumSaid s.data.toList 0 2:=by
       have:=HN.out (numL s.data.toList) hS.2.2 rfl
       have h2:18446744073709551616≤numL s.data.toList:=by simpa using hS.2.1
       rw[if_neg (by omega),if_neg (by omega)] at this
       exact this
      have H1:=Lhd h1
      clear hS h1
      go_wp2
      go_ret2
      exact⟨⟨_,_,rfl,H1.out⟩,Hbel.out⟩
     | false =>
      have h1:NumSaid s.data.toList (if a≤9223372036854775807 then a else 0) (if a≤9223372036854775807 then 0 else 2):=by
       have h2:¬ 18446744073709551616≤numL s.data.toList:=by simpa using hS.2.1
       have h3:a=numL s.data.toList:=by have:=hS.1;omega
       exact HN.out a hS.2.2 h3
      have ha:a<18446744073709551616:=by have:=hS.1;omega
      have hsg:=signed_pos a ha wb
      generalize (if a≤9223372036854775807 then (a:Int) else 0)=v1 at *
      generalize (if a≤9223372036854775807 then (0:Int) else 2)=v2 at *
      have H1:=Lhd h1
      have Hsg:=Lhd hsg
      clear hS h1 hsg ha
      go_wp2_with (fail)
      refine Hsg.out.mono ?_
      rintro e w' ⟨rfl,rfl⟩
      go_wp2
      go_ret2
      exact⟨⟨_,_,rfl,H1.out⟩,Hbel.out⟩
end Go.Proofs.YtgbgiknfejpcoaaGreat

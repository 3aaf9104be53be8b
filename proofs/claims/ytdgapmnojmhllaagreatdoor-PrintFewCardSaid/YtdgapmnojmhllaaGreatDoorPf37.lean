/- Parts of this proof, one behind the other: RfD, RfE, RfF, RgT, RgM, RgN, RgO. -/
import Derived.Test.YtdgapmnojmhllaaGreatDoorPf35
import Derived.BigQuiet
import Derived.Test.YtdgapmnojmhllaaGreatDoorPf19
import Derived.Test.YtdgapmnojmhllaaGreatDoorPf17
import Derived.Test.YtdgapmnojmhllaaGreatDoorPf21
import Derived.Test.YtdgapmnojmhllaaGreatDoorPf30
set_option maxRecDepth 1000000
set_option maxHeartbeats 40000000
namespace Go.Proofs.YtdgapmnojmhllaaGreatDoor
open Go.RowKit Go.Afx
theorem refSays_any (x:Wd) (t:ByteArray) (w:World) :
  Calls Tryz.prog 150 #[.agg (wrow x).toArray,.string t] w fun e w'=>e=.returned (.bool (x.says t))∧Below w.heap.size w w':=by
 obtain⟨k,s,n,a⟩:=x
 unfold wrow Wd.says
 simp only[← beqS]
 go_enter Tryz.func150,Tryz.ntmps150
 go_wp2
 all_goals
  go_ret
  refine⟨ret_bool ?_,(Below.refl _ _).alloc (Nat.le_refl _) _⟩
  simp_all
theorem refPart_any (c:UInt8) (w:World):Calls Tryz.prog 60 #[.int .u8 c.toNat] w fun e w'=>e=.returned (.bool (lexB c))∧w=w':=by
 obtain⟨q,hq⟩:∃ q,lexB c=q:=⟨_,rfl⟩
 rw[hq]
 unfold lexB at hq
 have hc:(c.toNat<48)∨(48≤c.toNat∧c.toNat≤57)∨(57<c.toNat∧c.toNat<65)∨(65≤c.toNat∧c.toNat≤90)∨(90<c.toNat∧c.toNat<97∧c.toNat≠95)∨(c.toNat=95)∨(97≤c.toNat∧c.toNat≤122)∨(122<c.toNat):=by omega
 rcases hc with h|h|h|h|h|h|h|h
 ·obtain rfl:false=q:=by
   rw[← hq]
   simp
   omega
  have g0:decide ((97:Int)≤(c.toNat:Int))=false:=by simp;omega
  have g1:decide ((c.toNat:Int)≤122)=true:=by simp;omega
  have g2:decide ((65:Int)≤(c.toNat:Int))=false:=by simp;omega
  have g3:decide ((c.toNat:Int)≤90)=true:=by simp;omega
  have g4:decide ((48:Int)≤(c.toNat:Int))=false:=by simp;omega
  have g5:decide ((c.toNat:Int)≤57)=true:=by simp;omega
  have g6:((c.toNat:Int)==95)=false:=by simp;omega
  go_enter Tryz.func60,Tryz.ntmps60
  go_wp2
  go_ret
  exact⟨rfl,rfl⟩
 ·obtain rfl:true=q:=by
   rw[← hq]
   simp
   omega
  have g0:decide ((97:Int)≤(c.toNat:Int))=false:=by simp;omega
  have g1:decide ((c.toNat:Int)≤122)=true:=by simp;omega
  have g2:decide ((65:Int)≤(c.toNat:Int))=false:=by simp;omega
  have g3:decide ((c.toNat:Int)≤90)=true:=by simp;omega
  have g4:decide ((48:Int)≤(c.toNat:Int))=true:=by simp;omega
  have g5:decide ((c.toNat:Int)≤57)=true:=by simp;omega
  have g6:((c.toNat:Int)==95)=false:=by simp;omega
  go_enter Tryz.func60,Tryz.ntmps60
  go_wp2
  go_ret
  exact⟨rfl,rfl⟩
 ·obtain rfl:false=q:=by
   rw[← hq]
   simp
   omega
  have g0:decide ((97:Int)≤(c.toNat:Int))=false:=by simp;omega
  have g1:decide ((c.toNat:Int)≤122)=true:=by simp;omega
  have g2:decide ((65:Int)≤(c.toNat:Int))=false:=by simp;omega
  have g3:decide ((c.toNat:Int)≤90)=true:=by simp;omega
  have g4:decide ((48:Int)≤(c.toNat:Int))=true:=by simp;omega
  have g5:decide ((c.toNat:Int)≤57)=false:=by simp;omega
  have g6:((c.toNat:Int)==95)=false:=by simp;omega
  go_enter Tryz.func60,Tryz.ntmps60
  go_wp2
  go_ret
  exact⟨rfl,rfl⟩
 ·obtain rfl:true=q:=by
   rw[← hq]
   simp
   omega
  have g0:decide ((97:Int)≤(c.toNat:Int))=false:=by simp;omega
  have g1:decide ((c.toNat:Int)≤122)=true:=by simp;omega
  have g2:decide ((65:Int)≤(c.toNat:Int))=true:=by simp;omega
  have g3:decide ((c.toNat:Int)≤90)=true:=by simp;omega
  have g4:decide ((48:Int)≤(c.toNat:Int))=true:=by simp;omega
  have g5:decide ((c.toNat:Int)≤57)=false:=by simp;omega
  have g6:((c.toNat:Int)==95)=false:=by simp;omega
  go_enter Tryz.func60,Tryz.ntmps60
  go_wp2
  go_ret
  exact⟨rfl,rfl⟩
 ·obtain rfl:false=q:=by
   rw[← hq]
   simp
   omega
  have g0:decide ((97:Int)≤(c.toNat:Int))=false:=by simp;omega
  have g1:decide ((c.toNat:Int)≤122)=true:=by simp;omega
  have g2:decide ((65:Int)≤(c.toNat:Int))=true:=by simp;omega
  have g3:decide ((c.toNat:Int)≤90)=false:=by simp;omega
  have g4:decide ((48:Int)≤(c.toNat:Int))=true:=by simp;omega
  have g5:decide ((c.toNat:Int)≤57)=false:=by simp;omega
  have g6:((c.toNat:Int)==95)=false:=by simp;omega
  go_enter Tryz.func60,Tryz.ntmps60
  go_wp2
  go_ret
  exact⟨rfl,rfl⟩
 ·obtain rfl:true=q:=by
   rw[← hq]
   simp
   omega
  have g0:decide ((97:Int)≤(c.toNat:Int))=false:=by simp;omega
  have g1:decide ((c.toNat:Int)≤122)=true:=by simp;omega
  have g2:decide ((65:Int)≤(c.toNat:Int))=true:=by simp;omega
  have g3:decide ((c.toNat:Int)≤90)=false:=by simp;omega
  have g4:decide ((48:Int)≤(c.toNat:Int))=true:=by simp;omega
  have g5:decide ((c.toNat:Int)≤57)=false:=by simp;omega
  have g6:((c.toNat:Int)==95)=true:=by simp;omega
  go_enter Tryz.func60,Tryz.ntmps60
  go_wp2
  go_ret
  exact⟨rfl,rfl⟩
 ·obtain rfl:true=q:=by
   rw[← hq]
   simp
   omega
  have g0:decide ((97:Int)≤(c.toNat:Int))=true:=by simp;omega
  have g1:decide ((c.toNat:Int)≤122)=true:=by simp;omega
  have g2:decide ((65:Int)≤(c.toNat:Int))=true:=by simp;omega
  have g3:decide ((c.toNat:Int)≤90)=false:=by simp;omega
  have g4:decide ((48:Int)≤(c.toNat:Int))=true:=by simp;omega
  have g5:decide ((c.toNat:Int)≤57)=false:=by simp;omega
  have g6:((c.toNat:Int)==95)=false:=by simp;omega
  go_enter Tryz.func60,Tryz.ntmps60
  go_wp2
  go_ret
  exact⟨rfl,rfl⟩
 ·obtain rfl:false=q:=by
   rw[← hq]
   simp
   omega
  have g0:decide ((97:Int)≤(c.toNat:Int))=true:=by simp;omega
  have g1:decide ((c.toNat:Int)≤122)=false:=by simp;omega
  have g2:decide ((65:Int)≤(c.toNat:Int))=true:=by simp;omega
  have g3:decide ((c.toNat:Int)≤90)=false:=by simp;omega
  have g4:decide ((48:Int)≤(c.toNat:Int))=true:=by simp;omega
  have g5:decide ((c.toNat:Int)≤57)=false:=by simp;omega
  have g6:((c.toNat:Int)==95)=false:=by simp;omega
  go_enter Tryz.func60,Tryz.ntmps60
  go_wp2
  go_ret
  exact⟨rfl,rfl⟩
def onesL:List UInt8:=[40,41,123,125,91,93,44,59,58,46,43,45,42,47,37,60,61,62]
def sgF (s:List UInt8):List UInt8:=match s with
 | []=>[]
 | a::r=>if r.head?=some 61∧(a=60∨a=33∨a=62) then [a,61] else if a∈onesL then [a] else []
theorem sign_eq (s:List UInt8):signX s=if sgF s=[] then none else some ⟨0,sgF s,0,(sgF s).length⟩:=by
 cases s with
 | nil=>rfl
 | cons a r =>
  unfold sgF
  by_cases h:r.head?=some 61∧(a=60∨a=33∨a=62)
  ·simp only[if_pos h]
   obtain⟨h1,h2⟩:=h
   cases r with
   | nil=>cases h1
   | cons b r =>
    have hb:b=61:=Option.some.inj h1
    subst hb
    rcases h2 with rfl|rfl|rfl
    ·rfl
    ·simp[signX,signsL,List.isPrefixOf]
    ·simp[signX,signsL,List.isPrefixOf]
  ·simp only[if_neg h]
   have hno:∀ x:UInt8,(x=60∨x=33∨x=62)→[x,61].isPrefixOf (a::r)=false:=fun x hx=>by
    cases r with
    | nil=>simp[List.isPrefixOf]
    | cons b r =>
     cases hp:[x,61].isPrefixOf (a::b::r) with
     | false=>rfl
     | true =>
      simp[List.isPrefixOf] at hp
      obtain⟨rfl,rfl⟩:=hp
      exact absurd ⟨rfl,hx⟩ h
   have e:signX (a::r)=((onesL.map fun x=>[x]).find? fun g=>g.isPrefixOf (a::r)).map fun g=>⟨0,g,0,g.length⟩:=by
    unfold signX signsL
    rw[List.find?_cons,hno 60 (by simp),List.find?_cons,hno 33 (by simp),List.find?_cons,hno 62 (by simp)]
    rfl
   rw[e]
   have hf:∀ l:List UInt8,((l.map fun x=>[x]).find? fun g=>g.isPrefixOf (a::r))=if a∈l then some [a] else none:=by
    intro l
    induction l with
    | nil=>rfl
    | cons x l ih =>
     rw[List.map_cons,List.find?_cons,ih]
     by_cases hx:x=a
     ·subst hx;simp[List.isPrefixOf]
     ·have hx2:¬ a=x:=fun e=>hx e.symm
      have hb:[x].isPrefixOf (a::r)=false:=by
       cases hp:[x].isPrefixOf (a::r) with
       | false=>rfl
       | true =>
        simp[List.isPrefixOf] at hp
        exact absurd hp hx
      rw[hb]
      simp[hx2]
   rw[hf]
   by_cases hm:a∈onesL
   ·rw[if_pos hm,if_pos hm,if_neg (List.cons_ne_nil a [])];rfl
   ·rw[if_neg hm,if_neg hm,if_pos rfl];rfl
theorem byte_at (s:ByteArray) {k:Nat} (h:k<s.size):s.data.toList[k]?=some s[k]:=by
 rw[List.getElem?_eq_getElem (by rw[szl];exact h)]
 rfl
theorem list_cons (s:ByteArray) (h:0<s.size):s.data.toList=s[0]::s.data.toList.drop 1:=by
 have:=drop_at s 0 h
 rwa [List.drop_zero] at this
theorem str_ext {a b:ByteArray} (h:a.data.toList=b.data.toList):a=b:=by
 obtain⟨⟨a⟩⟩:=a
 obtain⟨⟨b⟩⟩:=b
 simp at h
 subst h
 rfl
theorem sgF_cons (a:UInt8) (r:List UInt8):sgF (a::r)=if r.head?=some 61∧(a=60∨a=33∨a=62) then [a,61] else if a∈onesL then [a] else []:=rfl
theorem ret_strD {a b:ByteArray} (h:a=b):Ending.returned (.string a)=.returned (.string b):=by rw[h]
theorem sgF_two {s:ByteArray} (h1:1<s.size) (h2:s[1]=61) (h3:s[0]'(by omega)=60∨s[0]'(by omega)=33∨s[0]'(by omega)=62):s.extract 0 2=str (sgF s.data.toList):=by
 refine str_ext ?_
 have e:=list_cons s (by omega)
 have e1:s.data.toList.drop 1=61::s.data.toList.drop 2:=by rw[drop_at s 1 h1,h2]
 rw[pre_list,e,e1,sgF_cons,if_pos ⟨rfl,h3⟩]
 rfl
theorem sgF_not {s:ByteArray} (h0:0<s.size) (h:¬ (1<s.size∧(∀ h1:1<s.size,s[1]=61)∧(s[0]=60∨s[0]=33∨s[0]=62))):sgF s.data.toList=if s[0]∈onesL then [s[0]] else []:=by
 rw[list_cons s h0,sgF_cons]
 refine if_neg ?_
 rintro⟨h1,h2⟩
 have hlt:1<s.size:=by
  rcases Nat.lt_or_ge 1 s.size with h|h
  ·exact h
  ·rw[List.drop_eq_nil_of_le (by rw[szl];exact h)] at h1;cases h1
 rw[drop_at s 1 hlt] at h1
 exact h ⟨hlt,fun _=>Option.some.inj h1,h2⟩
theorem lexSign_any (s:ByteArray) (w:World) (h0:0<s.size) (hs:s.size≤1000000):Calls Tryz.prog 63 #[.string s] w fun e w'=>e=.returned (.string (str (sgF s.data.toList)))∧Below w.heap.size w w':=by
 have g0:decide ((0:Int)<(s.size:Int))=true:=by simp;omega
 by_cases ht:1<s.size∧(∀ h1:1<s.size,s[1]=61)∧(s[0]=60∨s[0]=33∨s[0]=62)
 ·obtain⟨h1,h2,h3⟩:=ht
  have h2:=h2 h1
  have hv:=sgF_two h1 h2 h3
  have g1:decide ((1:Int)<(s.size:Int))=true:=by simp;omega
  have g2:((s[1].toNat:Int)==61)=true:=by rw[h2];rfl
  have hq:((s[0].toNat:Int)==60)=true∨(((s[0].toNat:Int)==60)=false∧((s[0].toNat:Int)==33)=true)∨(((s[0].toNat:Int)==60)=false∧((s[0].toNat:Int)==33)=false∧((s[0].toNat:Int)==62)=true):=by
   rcases h3 with e|e|e<;>rw[e]<;>decide
  have Hv:=Lhd hv
  clear h2 h3 hv
  rcases hq with q0|⟨q0,q1⟩|⟨q0,q1,q2⟩
  all_goals
   go_enter Tryz.func63,Tryz.ntmps63
   go_wp2
   go_ret
   exact⟨ret_strD Hv.out,Below.refl _ _⟩
 ·have hv:=sgF_not h0 ht
  have Hv:=Lhd hv
  have hways:(decide ((1:Int)<(s.size:Int))=false)∨(decide ((1:Int)<(s.size:Int))=true∧∃ h1:1<s.size,(((s[1].toNat:Int)==61)=false∨(((s[1].toNat:Int)==61)=true∧((s[0].toNat:Int)==60)=false∧((s[0].toNat:Int)==33)=false∧((s[0].toNat:Int)==62)=false))):=by
   rcases Nat.lt_or_ge 1 s.size with h1|h1
   ·right
    refine⟨by simp;omega,h1,?_⟩
    by_cases h2:s[1]=61
    ·right
     have hno:∀ c:UInt8,(c=60∨c=33∨c=62)→((s[0].toNat:Int)==(c.toNat:Int))=false:=fun c hc=>by
      rw[beq_eq_false_iff_ne]
      intro e
      have:s[0]=c:=UInt8.toNat_inj.1 (by omega)
      exact ht ⟨h1,fun _=>h2,by rw[this];exact hc⟩
     exact⟨by rw[h2];rfl,hno 60 (by simp),hno 33 (by simp),hno 62 (by simp)⟩
    ·left
     rw[beq_eq_false_iff_ne]
     exact fun e=>h2 (UInt8.toNat_inj.1 (by show s[1].toNat=61;omega))
   ·left
    simp;omega
  clear ht hv
  obtain⟨L,HL⟩:∃ L:ByteArray,Hid (L=⟨#[40,41,123,125,91,93,44,59,58,46,43,45,42,47,37,60,61,62]⟩):=⟨_,rfl⟩
  have hLs:L.size=18:=by rw[HL.out];rfl
  have hLl:L.data.toList=onesL:=by rw[HL.out];rfl
  have HLs:=Lhd (And.intro hLs hLl)
  have hL1:(L.size:Int)=18:=by omega
  have HL1:=Lhd hL1
  clear hLs hLl hL1
  have hloop:True:=trivial
  rcases hways with g1|⟨g1,h1,g2|⟨g2,g3,g4,g5⟩⟩
  all_goals
   clear hloop
   go_enter Tryz.func63,Tryz.ntmps63
   go_upto_region 4 with (fail)
   rw[← HL.out]
   go_wp2
   go_loopw [4] (fun i wr=>∃ k:Nat,k≤18∧i=.int .i64 k∧Hid (∀ c∈onesL.take k,s[0]≠c)∧Below w.heap.size w wr) (fun i _=>18-(intOf i).toNat)
   case atStart=>exact⟨0,by omega,rfl,Lhd (by simp),Below.refl _ _⟩
   case round =>
    obtain⟨k,hk,rfl,HN,hb⟩:=hrel
    have Hb:=Lhd hb
    clear hb
    rcases Nat.lt_or_ge k 18 with hlt|hge
    ·have hkL:k<L.size:=by have:=HLs.out.1;omega
     have hdk:decide (k<L.size)=true:=decide_eq_true hkL
     have hi0:(0:Int)≤(k:Int):=by omega
     have hi1:(k:Int)<(L.size:Int):=by omega
     have hat:=byte_at L hkL
     rw[HLs.out.2] at hat
     have hkon:=(List.getElem?_eq_some_iff.1 hat).1
     have hkoe:=(List.getElem?_eq_some_iff.1 hat).2
     by_cases he:s[0]=L[k]
     ·have q:((s[0].toNat:Int)==((L[k]).toNat:Int))=true:=by rw[he,beq_iff_eq]
      have HF:=Lhd (show s.extract 0 1=str (sgF s.data.toList) from by
       rw[Hv.out,if_pos (by rw[he,← hkoe];exact List.getElem_mem _)]
       refine str_ext ?_
       rw[pre_list,list_cons s h0]
       rfl)
      clear he hat hkon hkoe
      go_wp2
      go_quiet (fail)
      go_wp2
      go_ret
      exact⟨ret_strD HF.out,below_drewN Hb.out _⟩
     ·have q:((s[0].toNat:Int)==((L[k]).toNat:Int))=false:=by
       rw[beq_eq_false_iff_ne]
       exact fun e=>he (UInt8.toNat_inj.1 (by omega))
      have HN2:=Lhd (show ∀ c∈onesL.take (k+1),s[0]≠c from fun c hc=>by
       rw[List.take_succ_eq_append_getElem hkon,hkoe] at hc
       rcases List.mem_append.1 hc with hc|hc
       ·exact HN.out c hc
       ·obtain rfl:=List.mem_singleton.1 hc;exact he)
      clear he hat hkon hkoe
      go_wp2
      go_quiet (fail)
      go_wp2
      go_roundw
      case rel=>exact⟨k+1,by omega,by go_num,HN2,below_drewN Hb.out _⟩
      case measure=>simp[intOf];omega
    ·obtain rfl:k=18:=by omega
     have hdk:decide (18<L.size)=false:=decide_eq_false (by have:=HLs.out.1;omega)
     have hdk2:decide ((18:Int)<(L.size:Int))=false:=decide_eq_false (by have:=HLs.out.1;omega)
     have HF:=Lhd (show (⟨#[]⟩:ByteArray)=str (sgF s.data.toList) from by
      rw[Hv.out,if_neg (fun hc=>HN.out _ (by rw[show onesL.take 18=onesL from rfl];exact hc) rfl)]
      rfl)
     go_wp2
     go_ret
     exact⟨ret_strD HF.out,Hb.out⟩
end Go.Proofs.YtdgapmnojmhllaaGreatDoor
namespace Go.Afx
open Go.RowKit
def valD:List Nat→Nat
 | []=>0
 | d::r=>d+10*valD r
theorem val_low:∀ (k n:Nat),n<10 ^ k→valD (lowD n)=n:=by
  intro k
  induction k with
  | zero => intro n h;obtain rfl:n=0:=by simpa using h
            rw[lowD_zero];rfl
  | succ k ih =>
    intro n h
    rcases Nat.eq_zero_or_pos n with rfl|hp
    · rw[lowD_zero];rfl
    · rw[lowD_pos hp,valD,ih (n / 10) (by rw[Nat.pow_succ] at h;omega)]
      omega
theorem val_lt:∀ (l:List Nat),(∀ x∈l,x<10)→valD l<10 ^ l.length:=by
 intro l
 induction l with
 | nil=>intro _;decide
 | cons d r ih =>
  intro h
  have h1:=ih fun x hx=>h x (by simp[hx])
  have h2:=h d (by simp)
  rw[valD,List.length_cons,Nat.pow_succ]
  omega
theorem val_app:∀ (a b:List Nat),valD (a++b)=valD a+10 ^ a.length*valD b:=by
 intro a
 induction a with
 | nil=>intro b;simp[valD]
 | cons d r ih =>
  intro b
  rw[List.cons_append,valD,valD,ih,List.length_cons,Nat.pow_succ,Nat.mul_add,← Nat.mul_assoc,Nat.mul_comm 10 (10 ^ r.length),Nat.add_assoc]
theorem val_ge {l:List Nat} {x:Nat} (hx:x≠0):10 ^ l.length≤valD (l++[x]):=by
 rw[val_app]
 have:10 ^ l.length*1≤10 ^ l.length*valD [x]:=Nat.mul_le_mul_left _ (by unfold valD valD;omega)
 omega
def TopD (l:List Nat):Prop:=l=[]∨∃ m x,l=m++[x]∧x≠0
theorem less_len {a b:List Nat} (ha:∀ x∈a,x<10) (hb:TopD b) (h:a.length<b.length):valD a<valD b:=by
 rcases hb with rfl|⟨m,x,rfl,hx⟩
 ·simp at h
 ·have h1:=val_lt a ha
  have h2:=val_ge (l:=m) hx
  rw[List.length_append,List.length_singleton] at h
  have h3:10 ^ a.length≤10 ^ m.length:=Nat.pow_le_pow_right (by omega) (by omega)
  omega
theorem less_at {a b:List Nat} (ha:∀ x∈a,x<10) {i x y:Nat} (hx:a[i]?=some x) (hy:b[i]?=some y) (hd:a.drop (i+1)=b.drop (i+1)) (hne:x<y):valD a<valD b:=by
 have ea:a=a.take i++(x::a.drop (i+1)):=by
  obtain⟨h1,h2⟩:=List.getElem?_eq_some_iff.1 hx
  rw[← h2,← List.drop_eq_getElem_cons h1,List.take_append_drop]
 have eb:b=b.take i++(y::b.drop (i+1)):=by
  obtain⟨h1,h2⟩:=List.getElem?_eq_some_iff.1 hy
  rw[← h2,← List.drop_eq_getElem_cons h1,List.take_append_drop]
 have la:(a.take i).length=i:=by rw[List.length_take];have:=(List.getElem?_eq_some_iff.1 hx).1;omega
 have lb:(b.take i).length=i:=by rw[List.length_take];have:=(List.getElem?_eq_some_iff.1 hy).1;omega
 have ta:=val_lt (a.take i) fun z hz=>ha z (List.mem_of_mem_take hz)
 rw[ea,eb,val_app,val_app,la,lb,hd,valD,valD]
 rw[la] at ta
 generalize valD (a.take i)=A at *
 generalize valD (b.take i)=B at *
 generalize valD (b.drop (i+1))=R
 have:10 ^ i*(x+10*R)+10 ^ i≤10 ^ i*(y+10*R):=by
  have h:x+10*R+1≤y+10*R:=by omega
  have:=Nat.mul_le_mul_left (10 ^ i) h
  rw[Nat.mul_add,Nat.mul_one] at this
  exact this
 omega
theorem val_drop {l:List Nat} {i x:Nat} (hx:l[i]?=some x):valD (l.drop i)=x+10*valD (l.drop (i+1)):=by
 obtain⟨h1,h2⟩:=List.getElem?_eq_some_iff.1 hx
 rw[List.drop_eq_getElem_cons h1,valD,h2]
theorem val_drop_le (l:List Nat) (i:Nat):valD (l.drop i)≤valD l:=by
 induction l generalizing i with
 | nil=>simp
 | cons d r ih =>
  cases i with
  | zero=>exact Nat.le_refl _
  | succ i =>
   rw[List.drop_succ_cons]
   have:=ih i
   rw[valD]
   omega
def digR (t:List UInt8):List Nat:=(t.map fun c=>c.toNat-48).reverse
theorem numL_snoc (t:List UInt8) (c:UInt8):numL (t++[c])=10*numL t+(c.toNat-48):=by
 unfold numL
 rw[List.foldl_append]
 rfl
theorem val_digR (t:List UInt8):valD (digR t)=numL t:=by
 have h:∀ (k:Nat) (t:List UInt8),t.length=k→valD (digR t)=numL t:=by
  intro k
  induction k with
  | zero=>intro t ht;obtain rfl:=List.eq_nil_of_length_eq_zero ht;rfl
  | succ k ih =>
   intro t ht
   have hne:t≠[]:=by rintro rfl;simp at ht
   obtain⟨a,c,rfl⟩:∃ a c,t=a++[c]:=⟨t.dropLast,t.getLast hne,(List.dropLast_concat_getLast hne).symm⟩
   rw[numL_snoc,← ih a (by simpa using ht)]
   unfold digR
   rw[List.map_append,List.reverse_append]
   show valD ((c.toNat-48)::(a.map fun c=>c.toNat-48).reverse)=_
   rw[valD]
   omega
 exact h _ t rfl
theorem digR_lt {t:List UInt8} (h:∀ c∈t,dgB c=true):∀ x∈digR t,x<10:=by
 intro x hx
 unfold digR at hx
 rw[List.mem_reverse,List.mem_map] at hx
 obtain⟨c,hc,rfl⟩:=hx
 have:=h c hc
 unfold dgB at this
 simp only[Bool.and_eq_true,decide_eq_true_eq] at this
 omega
theorem digR_top {c:UInt8} {r:List UInt8} (h:dgB c=true) (h0:c≠48):TopD (digR (c::r)):=by
 right
 refine⟨digR r,c.toNat-48,by unfold digR;rw[List.map_cons,List.reverse_cons],?_⟩
 unfold dgB at h
 simp only[Bool.and_eq_true,decide_eq_true_eq] at h
 have:c.toNat≠48:=fun e=>h0 (UInt8.toNat_inj.1 e)
 omega
theorem digR_len (t:List UInt8):(digR t).length=t.length:=by unfold digR;simp
end Go.Afx
namespace Go.Proofs.YtdgapmnojmhllaaGreatDoor
open Go.RowKit Go.Afx
def DgAt (w:World) (A:Option Addr) (n c:Nat) (l:List Nat):Prop:=RowsAt w 1 A n c (digC l)
theorem DgAt.get {w:World} {A:Option Addr} {n c:Nat} {l:List Nat} (h:DgAt w A n c l) {k x:Nat} (hk:l[k]?=some x):∃ b o,A=some ⟨b,o,none⟩∧b<w.heap.size∧w.cell? ⟨b,o+k,none⟩=some (.int .i64 (x:Int)):=by
 obtain⟨b,o,hA,hb,hc⟩:=RowsAt.one h (k:=k) (u:=.int .i64 (x:Int)) (by unfold digC;rw[List.getElem?_map,hk];rfl)
 exact⟨b,o,hA,hb,hc⟩
theorem DgAt.len {w:World} {A:Option Addr} {n c:Nat} {l:List Nat} (h:DgAt w A n c l):l.length=n:=by
 have:=RowsAt.len h
 unfold digC at this
 simpa using this
theorem not_less {a b:List Nat} (hb:∀ x∈b,x<10) (ta:TopD a) (h:b.length<a.length):¬ valD a<valD b:=by
 have:=less_len hb ta h
 omega
theorem refLess_any (A B:Option Addr) (n m ca cb:Nat) (a b:List Nat) (w:World) (hA:DgAt w A n ca a) (hB:DgAt w B m cb b) (ha:∀ x∈a,x<10) (hb:∀ x∈b,x<10) (ta:TopD a) (tb:TopD b) (hn:n≤1000000) (hm:m≤1000000) :
  Calls Tryz.prog 148 #[.slice A n ca,.slice B m cb] w fun e w'=>e=.returned (.bool (decide (valD a<valD b)))∧Below w.heap.size w w':=by
 have la:=hA.len
 have lb:=hB.len
 rcases Nat.lt_trichotomy n m with h|h|h
 ·rw[decide_eq_true (less_len ha tb (by omega))]
  have q:((n:Int) !=(m:Int))=true:=by simp;omega
  have q2:decide ((n:Int)<(m:Int))=true:=by simp;omega
  clear hA hB la lb
  go_enter Tryz.func148,Tryz.ntmps148
  go_wp2
  go_ret
  exact⟨rfl,Below.refl _ _⟩
 ·subst h
  have HA:=Lhd hA
  have HB:=Lhd hB
  have Hl:=Lhd (And.intro la lb)
  have Hd:=Lhd (And.intro ha hb)
  clear hA hB la lb ha hb ta tb
  have q:((n:Int) !=(n:Int))=false:=by simp
  go_enter Tryz.func148,Tryz.ntmps148
  go_wp2
  go_loopw [5] (fun i wr=>∃ q:Int,i=.int .i64 q∧-1≤q∧q<n∧Hid (a.drop (q+1).toNat=b.drop (q+1).toNat)∧Below w.heap.size w wr) (fun i _=>(intOf i+1).toNat)
  case atStart =>
   refine⟨(n:Int)-1,by first|rfl|go_num,by omega,by omega,Lhd ?_,Below.refl _ _⟩
   rw[List.drop_eq_nil_of_le (by have:=Hl.out.1;omega),List.drop_eq_nil_of_le (by have:=Hl.out.2;omega)]
  case round =>
   obtain⟨q,rfl,h1,h2,HE,hb⟩:=hrel
   have HW:=Lhd hb
   clear hb
   rcases Int.lt_or_le q 0 with hneg|hpos
   ·obtain rfl:q = -1:=by omega
    have hv:decide (valD a<valD b)=false:=by
     have:=HE.out
     simp at this
     rw[this]
     simp
    have Hv:=Lhd hv
    clear hv h1 h2 hneg
    go_wp2
    go_ret
    exact⟨ret_bool Hv.out.symm,HW.out⟩
   ·obtain⟨j,rfl⟩:∃ j:Nat,q=j:=⟨q.toNat,by omega⟩
    have hj:j<n:=by omega
    have ea:a[j]?=some (a[j]'(by have:=Hl.out.1;omega)):=List.getElem?_eq_getElem _
    have eb:b[j]?=some (b[j]'(by have:=Hl.out.2;omega)):=List.getElem?_eq_getElem _
    generalize a[j]'(by have:=Hl.out.1;omega)=x at ea
    generalize b[j]'(by have:=Hl.out.2;omega)=y at eb
    obtain⟨b1,o1,rfl,l1,c1⟩:=HA.out.get ea
    obtain⟨b2,o2,rfl,l2,c2⟩:=HB.out.get eb
    have d1:=(HW.out.cell (p:=⟨b1,o1+j,none⟩) l1).trans c1
    have d2:=(HW.out.cell (p:=⟨b2,o2+j,none⟩) l2).trans c2
    have hde:a.drop (j+1)=b.drop (j+1):=by
     have:=HE.out
     rw[show ((j:Int)+1).toNat=j+1 by omega] at this
     exact this
    have i0:(0:Int)≤(j:Int):=by omega
    have i1:(j:Int)<(n:Int):=by omega
    have hlt:=Nat.lt_trichotomy x y
    have Hx:=Lhd (And.intro ea eb)
    have Hde:=Lhd hde
    have hz1:b1<wr.heap.size:=Nat.lt_of_lt_of_le l1 HW.out.size
    have hz2:b2<wr.heap.size:=Nat.lt_of_lt_of_le l2 HW.out.size
    clear ea eb c1 c2 l1 l2 hde h1 h2
    rcases hlt with h|h|h
    ·have q1:((x:Int) !=(y:Int))=true:=by simp;omega
     have q2:decide ((x:Int)<(y:Int))=true:=by simp;omega
     have Hv:=Lhd (show decide (x<y)=decide (valD a<valD b) by rw[decide_eq_true h,decide_eq_true (less_at Hd.out.1 Hx.out.1 Hx.out.2 Hde.out h)])
     clear h
     go_wp2
     go_quiet (fail)
     go_wp2
     go_quiet (fail)
     go_wp2
     go_ret
     exact⟨ret_bool Hv.out,below_drewN (below_drewN HW.out _) _⟩
    ·subst h
     have q1:((x:Int) !=(x:Int))=false:=by simp
     have hnx:a.drop j=b.drop j:=by
      obtain⟨g1,g2⟩:=List.getElem?_eq_some_iff.1 Hx.out.1
      obtain⟨g3,g4⟩:=List.getElem?_eq_some_iff.1 Hx.out.2
      rw[List.drop_eq_getElem_cons g1,List.drop_eq_getElem_cons g3,g2,g4,Hde.out]
     have Hnx:=Lhd hnx
     clear hnx
     go_wp2
     go_quiet (fail)
     go_wp2
     go_roundw
     case rel=>exact⟨(j:Int)-1,by first|rfl|go_num,by omega,by omega,Lhd (by rw[show ((j:Int)-1+1).toNat=j by omega];exact Hnx.out),below_drewN HW.out _⟩
     case measure=>simp[intOf]
    ·have q1:((x:Int) !=(y:Int))=true:=by simp;omega
     have q2:decide ((x:Int)<(y:Int))=false:=by simp;omega
     have Hv:=Lhd (show decide (x<y)=decide (valD a<valD b) by rw[decide_eq_false (by omega),decide_eq_false (by have:=less_at Hd.out.2 Hx.out.2 Hx.out.1 Hde.out.symm h;omega)])
     clear h
     go_wp2
     go_quiet (fail)
     go_wp2
     go_quiet (fail)
     go_wp2
     go_ret
     exact⟨ret_bool Hv.out,below_drewN (below_drewN HW.out _) _⟩
 ·rw[decide_eq_false (not_less hb ta (by omega))]
  have q:((n:Int) !=(m:Int))=true:=by simp;omega
  have q2:decide ((n:Int)<(m:Int))=false:=by simp;omega
  clear hA hB la lb
  go_enter Tryz.func148,Tryz.ntmps148
  go_wp2
  go_ret
  exact⟨ret_bool (decide_eq_false (by omega)),Below.refl _ _⟩
theorem top_low {n:Nat} (h:n<10 ^ 19):TopD (lowD n):=by
 rcases Nat.eq_zero_or_pos n with rfl|hp
 ·rw[lowD_zero];exact .inl rfl
 ·obtain⟨x,hx,h0⟩:=lowD_last 19 n h hp
  right
  obtain⟨m,hm⟩:=List.getLast?_eq_some_iff.1 hx
  exact⟨m,x,hm,h0⟩
structure Ends (L:List Nat):Prop where
 val:valD L=9223372036854775807
 dig:∀ x∈L,x<10
 top:TopD L
 len:L.length≤19
theorem ends_max:Ends (lowD 9223372036854775807):=⟨val_low 19 _ (by decide),lowD_digit 19 _ (by decide),top_low (by decide),lowD_len 19 _ (by decide)⟩
theorem ofMax_any (w:World):Calls Tryz.prog 147 #[.int .i64 9223372036854775807] w fun e w'=>∃ L A c,Ends L∧e=.returned (.agg #[.bool false,.slice A L.length c])∧DgAt w' A L.length c L∧Below w.heap.size w w':=by
 refine(show Calls Tryz.prog 147 #[.int .i64 9223372036854775807] w _ from numOf_any 9223372036854775807 (by decide) w).mono ?_
 rintro e w' ⟨A,c,rfl,hown,hb⟩
 exact⟨_,A,c,ends_max,rfl,RowsAt.of_own hown digC_len (by unfold digC;simp),hb⟩
def SmallSaid (V:Nat) (e:Ending):Prop:=e=.returned (.tuple #[.int .i64 (if V≤9223372036854775807 then (V:Int) else 0),.bool (decide (V≤9223372036854775807))])
theorem small_no {V:Nat} (h:9223372036854775807<V):SmallSaid V (.returned (.tuple #[.int .i64 0,.bool false])):=by
 unfold SmallSaid
 rw[decide_eq_false (by omega),if_neg (by omega)]
theorem small_yes {V:Nat} (h:V≤9223372036854775807):SmallSaid V (.returned (.tuple #[.int .i64 (V:Int),.bool true])):=by
 unfold SmallSaid
 rw[decide_eq_true h,if_pos h]
theorem refSmall_any (A:Option Addr) (n c:Nat) (a:List Nat) (w:World) (hA:DgAt w A n c a) (ha:∀ x∈a,x<10) (ta:TopD a) (hn:n≤1000000) :
  Calls Tryz.prog 106 #[.agg #[.bool false,.slice A n c]] w fun e w'=>SmallSaid (valD a) e∧Below w.heap.size w w':=by
 have la:=hA.len
 have hb1:=(Below.refl w.heap.size w).alloc (Nat.le_refl _) (.cells #[.bool false,.slice A n c] 174)
 have hk1:IsBlk (w.alloc (.cells #[.bool false,.slice A n c] 174)) w.heap.size 174 #[.bool false,.slice A n c]:=IsBlk.laid _ _ _
 obtain⟨w1,Hw1⟩:∃ w1,Hid (w1=w.alloc (.cells #[.bool false,.slice A n c] 174)):=⟨_,rfl⟩
 rw[← Hw1.out] at hb1 hk1
 have Hof:=Lhd (ofMax_any w1)
 have HA:=Lhd (RowsAt.below hA hb1)
 have Hd:=Lhd (And.intro ha (And.intro ta la))
 have Hb1:=Lhd hb1
 have Hk1:=Lhd hk1
 clear hA ha ta la hb1 hk1
 go_enter Tryz.func106,Tryz.ntmps106
 go_upto_region 1 with (fail)
 rw[← Hw1.out]
 go_wp2_with (fail)
 refine Hof.out.mono ?_
 rintro e w2 ⟨L,B,cb,hE,rfl,hL,hb2⟩
 have hb12:=Hb1.out.trans (hb2.mono Hb1.out.size)
 have hal:=(Below.refl w2.heap.size w2).alloc (Nat.le_refl _) (.cells #[.bool false,.slice B L.length cb] 174)
 have hk3:IsBlk (w2.alloc (.cells #[.bool false,.slice B L.length cb] 174)) w2.heap.size 174 #[.bool false,.slice B L.length cb]:=IsBlk.laid _ _ _
 have hk1:=(Hk1.out.as_was (hb2.block _ Hk1.out.lt)).alloc (.cells #[.bool false,.slice B L.length cb] 174)
 have hA3:=RowsAt.below (RowsAt.below HA.out hb2) hal
 have hl:=refLess_any B A L.length n cb c L a _ (RowsAt.below hL hal) hA3 hE.dig Hd.out.1 hE.top Hd.out.2.1 (by have:=hE.len;omega) hn
 rw[hE.val] at hl
 obtain⟨w3,Hw3⟩:∃ w3,Hid (w3=w2.alloc (.cells #[.bool false,.slice B L.length cb] 174)):=⟨_,rfl⟩
 rw[← Hw3.out] at hk3 hk1 hA3 hl
 have hb3:=hb12.trans (hal.mono hb12.size)
 rw[← Hw3.out] at hb3
 have HA3:=Lhd hA3
 have Hb3:=Lhd hb3
 have Hk3:=Lhd hk1
 generalize L.length=m at *
 have k30:=hk3.cell 0
 have k31:=hk3.cell 1
 have k10:=hk1.cell 0
 have k11:=hk1.cell 1
 simp at k30 k31 k10 k11
 have HS:=Lhd (And.intro (fun h=>small_no (V:=valD a) h) (fun h=>small_yes (V:=valD a) h))
 rcases Nat.lt_or_ge 9223372036854775807 (valD a) with hV|hV
 ·rw[decide_eq_true hV] at hl
  have Hl:=Lhd hl
  have HS:=Lhd (HS.out.1 hV)
  clear hl hE hL hb2 hb12 hal hk3 hk1 hA3 hb3 hV
  go_upto_region 2 with (fail)
  rw[← Hw3.out]
  go_wp2_with (fail)
  refine Hl.out.mono ?_
  rintro e w4 ⟨rfl,hb4⟩
  have Hb4:=Lhd (Hb3.out.trans (hb4.mono Hb3.out.size))
  clear hb4
  go_wp2
  go_ret2
  exact⟨HS.out,Hb4.out⟩
 ·rw[decide_eq_false (by omega)] at hl
  have Hl:=Lhd hl
  have HS:=Lhd (HS.out.2 hV)
  have HV:=Lhd hV
  clear hl hE hL hb2 hb12 hal hk3 hk1 hA3 hb3 hV
  go_upto_region 2 with (fail)
  rw[← Hw3.out]
  go_wp2_with (fail)
  refine Hl.out.mono ?_
  rintro e w4 ⟨rfl,hb4⟩
  have hk4:=Hk3.out.as_was (hb4.block _ Hk3.out.lt)
  have HA4:=Lhd (RowsAt.below HA3.out hb4)
  have Hb4:=Lhd (Hb3.out.trans (hb4.mono Hb3.out.size))
  have j10:=hk4.cell 0
  have j11:=hk4.cell 1
  simp at j10 j11
  clear hb4 hk4 k30 k31 k10 k11
  go_wp2
  go_loop [5,6] (fun u i=>∃ q:Int,i=.int .i64 q∧-1≤q∧q<n∧u=.int .u64 (valD (a.drop (q+1).toNat))) (fun _ i=>(intOf i+1).toNat)
  case atStart =>
   refine⟨(n:Int)-1,by first|rfl|go_num,by omega,by omega,?_⟩
   rw[List.drop_eq_nil_of_le (by have:=Hd.out.2.2;omega)]
   rfl
  case round =>
   obtain⟨q,rfl,h1,h2,rfl⟩:=hrel
   rcases Int.lt_or_le q 0 with hneg|hpos
   ·obtain rfl:q = -1:=by omega
    have e0:valD (a.drop ((-1:Int)+1).toNat)=valD a:=by simp
    rw[e0]
    have hV1:(valD a:Int)≤9223372036854775807:=by have:=HV.out;omega
    have hV0:(0:Int)≤(valD a:Int):=by omega
    clear h1 h2 hneg e0
    generalize hVV:valD a=V at *
    have HVV:=Lhd hVV
    clear hVV
    go_wp2
    go_ret2
    exact⟨by rw[HVV.out];exact HS.out,Hb4.out⟩
   ·obtain⟨j,rfl⟩:∃ j:Nat,q=j:=⟨q.toNat,by omega⟩
    have hj:j<n:=by omega
    have ea:a[j]?=some (a[j]'(by have:=Hd.out.2.2;omega)):=List.getElem?_eq_getElem _
    generalize a[j]'(by have:=Hd.out.2.2;omega)=x at ea
    obtain⟨b1,o1,hAe,l1,d1⟩:=DgAt.get (show DgAt w4 A n c a from HA4.out) ea
    subst hAe
    have hval:=val_drop ea
    have hle:=val_drop_le a j
    rw[show ((j:Int)+1).toNat=j+1 by omega]
    have hb10:(10:Int)*(valD (a.drop (j+1)):Int)+(x:Int)≤9223372036854775807:=by have:=HV.out;omega
    have hnx:valD (a.drop j)=10*valD (a.drop (j+1))+x:=by omega
    have Hnx:=Lhd hnx
    have hU0:(0:Int)≤(valD (a.drop (j+1)):Int):=by omega
    have hx0:(0:Int)≤(x:Int):=by omega
    have hm0:(10:Int)*(valD (a.drop (j+1)):Int)≤9223372036854775807:=by omega
    have hx1:(x:Int)≤9223372036854775807:=by omega
    have i0:(0:Int)≤(j:Int):=by omega
    have i1:(j:Int)<(n:Int):=by omega
    clear ea hval hle hnx h1 h2
    generalize hU:valD (a.drop (j+1))=U at *
    have HU:=Lhd hU
    clear hU
    go_wp2
    go_round
    case rel=>exact⟨(j:Int)-1,by first|rfl|go_num,by omega,by omega,by rw[show ((j:Int)-1+1).toNat=j by omega,Hnx.out];go_num⟩
    case measure=>simp[intOf]
end Go.Proofs.YtdgapmnojmhllaaGreatDoor

/- Parts of this proof, one behind the other: SynZ, SynZ1, RefP, RefX, RefC, RefA, RefE, RefE1. -/
import Derived.Test.YtgbgiknfejpcoaaGreatPx7
import Derived.Test.YtgbgiknfejpcoaaGreatPx3
import Derived.Test.YtgbgiknfejpcoaaGreatPx2
import Derived.Deep.Cut
set_option maxRecDepth 1000000
set_option maxHeartbeats 40000000
namespace Go.Proofs.YtgbgiknfejpcoaaGreat
open Go.RowKit Go.Afx
theorem resB_no {s:ByteArray} (h:∀ y∈wordsL,(y.toList==s.toList)=false):resB s=false:=by
 unfold resB
 rw[List.any_eq_false]
 exact fun y hy=>by simp[h y hy]
theorem resB_yes {s y:ByteArray} (h:y∈wordsL) (hy:(y.toList==s.toList)=true):resB s=true:=by
 unfold resB
 rw[List.any_eq_true]
 exact⟨y,h,hy⟩
theorem words_ok:∀ y∈wordsL,okS y:=by unfold okS;decide +kernel
theorem resRef_any (s:ByteArray) (w:World):Calls Tryz.prog 81 #[.string s] w fun x w'=>x=.returned (.bool (resB s))∧Below w.heap.size w w':=by
 obtain⟨w1,Hw1⟩:∃ w1,Hid (w1=w.alloc (.cells (wordsL.map fun s=>Value.string s).toArray 9)):=⟨_,rfl⟩
 have hb1:Below w.heap.size w w1:=by rw[Hw1.out];exact(Below.refl _ _).alloc (Nat.le_refl _) _
 have hl:LsAt (fun _=>True) w1 1 SRow (some ⟨w.heap.size,0,none⟩) 43 43 wordsL:=by
  rw[Hw1.out]
  refine⟨wordsL.map fun s=>[.string s],RowsAt.lit _ _ 43 rfl (by simp) rfl (by unfold maxLen;omega),fun _ _ _=>trivial,rfl,fun k r x hr hx=>?_⟩
  rw[List.getElem?_map,hx] at hr
  simp at hr
  subst hr
  exact⟨rfl,rfl,words_ok x (List.mem_of_getElem? hx)⟩
 have Hw2:Hid (w1=w.alloc (.cells (wordsL.map fun s=>Value.string s).toArray 9)):=Hw1
 simp only[wordsL,str,List.map_cons,List.map_nil] at Hw1
 have Hl:=Lhd hl
 clear hl
 go_enter Tryz.func81,Tryz.ntmps81
 go_wp2
 rw[← Hw1.out]
 go_loop [4] (fun i=>∃ k:Nat,k≤43∧i=.int .i64 k∧∀ y∈wordsL.take k,(y.toList==s.toList)=false) (fun i=>43-(intOf i).toNat)
 case atStart=>exact⟨0,Nat.zero_le _,rfl,by simp⟩
 case round =>
  obtain⟨k,hk,rfl,hno⟩:=hrel
  have Hno:=Lhd hno;clear hno
  by_cases hlt:k<43
  ·obtain⟨b,o,x,hA,hbl,hx,hs,hc0⟩:=strAt Hl.out hlt
   cases hA
   have Hx:=Lhd hx;clear hx
   simp only[Nat.zero_add] at hc0
   by_cases he:(x.toList==s.toList)=true
   ·have Hf:=Lhd (resB_yes (List.mem_of_getElem? Hx.out) he)
    go_wp2
    go_ret
    exact⟨by rw[Hf.out];rfl,hb1⟩
   ·have he:(x.toList==s.toList)=false:=by simpa using he
    have Hne:=Lhd (mem_take_succ Hx.out Hno.out he)
    go_wp2
    go_round
    case rel=>exact⟨k+1,by omega,by go_num,Hne.out⟩
    case measure=>simp[intOf];omega
  ·go_wp2
   go_ret
   have h1:=Hno.out
   rw[List.take_of_length_le (by simp only[wordsL,List.length_cons,List.length_nil];omega)] at h1
   exact⟨ret_bool (resB_no h1).symm,hb1⟩
theorem named_eq (s:ByteArray) (h:0<s.size):namedB s=(decide (s.size≤16)&&letterB s[0]&&s.data.toList.all partB):=by
 obtain⟨c,r,hs,hc,hl⟩:=list_of s h
 unfold namedB
 rw[hs,hc,← hl]
 simp only[List.all_cons]
 cases hq:letterB c
 ·simp
 ·simp[letter_part hq]
theorem namedRef_any (s:ByteArray) (w:World) (hs:okS s):Calls Tryz.prog 54 #[.string s] w fun x w'=>x=.returned (.bool (namedB s))∧w=w':=by
 unfold okS at hs
 by_cases h0:s.size=0
 ·have hn:namedB s=false:=by
   unfold namedB
   have:s.data.toList=[]:=List.eq_nil_of_length_eq_zero (by simpa using h0)
   rw[this]
  have hd:decide ((s.size:Int)<1)=true:=by simp;omega
  have Hn:=Lhd hn
  clear h0 hn
  go_enter Tryz.func54,Tryz.ntmps54
  go_wp2
  go_ret
  exact⟨by rw[Hn.out];rfl,rfl⟩
 ·have hpos:0<s.size:=by omega
  have hd:decide ((s.size:Int)<1)=false:=by simp;omega
  have hn:=named_eq s hpos
  clear h0
  by_cases h16:16<s.size
  ·have hn2:namedB s=false:=by rw[hn];simp;omega
   have Hn:=Lhd hn2
   clear hn hn2
   have hd2:decide ((16:Int)<(s.size:Int))=true:=by simp;omega
   go_enter Tryz.func54,Tryz.ntmps54
   go_wp2
   go_ret
   exact⟨by rw[Hn.out];rfl,rfl⟩
  ·have hd2:decide ((16:Int)<(s.size:Int))=false:=by simp;omega
   have hn2:namedB s=(letterB s[0]&&s.data.toList.all partB):=by rw[hn,decide_eq_true (by omega:s.size≤16),Bool.true_and]
   have Hn:=Lhd hn2
   clear hn hn2
   go_enter Tryz.func54,Tryz.ntmps54
   go_wp2
   clear hd hd2
   go_loop [3] (fun i=>∃ k:Nat,k≤s.size∧i=.int .i64 k∧(k=0∨letterB s[0]=true)∧∀ y∈s.data.toList.take k,partB y=true) (fun i=>s.size-(intOf i).toNat)
   case atStart=>exact⟨0,Nat.zero_le _,rfl,.inl rfl,by simp⟩
   case round =>
    obtain⟨k,hk,rfl,hl0,hall⟩:=hrel
    have Hall:=Lhd hall
    have Hl0:=Lhd hl0
    clear hall hl0
    by_cases hlt:k<s.size
    ·have Hy:=Lhd (show s.data.toList[k]?=some s[k] by rw[List.getElem?_eq_getElem (by simpa using hlt)];rfl)
     have Hgo:=Lhd (fun (h1:partB s[k]=true) (h2:k=0→letterB s[k]=true)=>(⟨by
       by_cases hk0:k=0
       ·subst hk0;exact .inr (h2 rfl)
       ·rcases Hl0.out with h|h
        ·exact absurd h hk0
        ·exact .inr h,mem_take_succ Hy.out Hall.out h1⟩:(k+1=0∨letterB s[0]=true)∧∀ y∈s.data.toList.take (k+1),partB y=true))
     have Hst:=Lhd (fun (h:letterB s[k]=false) (hk0:k=0)=>(show namedB s=false by subst hk0;rw[Hn.out,h];rfl))
     have Hst2:=Lhd (fun (h:partB s[k]=false)=>(show namedB s=false by
      have:s.data.toList.all partB=false:=by rw[List.all_eq_false];exact⟨_,List.mem_of_getElem? Hy.out,by simp[h]⟩
      rw[Hn.out,this];simp))
     have HL:Hid (letterB s[k]=(decide (97≤s[k].toNat)&&decide (s[k].toNat≤122))):=Lhd rfl
     have HP:Hid (partB s[k]=((decide (97≤s[k].toNat)&&decide (s[k].toNat≤122))||(decide (48≤s[k].toNat)&&decide (s[k].toNat≤57))||decide (s[k].toNat=95))):=Lhd rfl
     generalize hc:s[k].toNat=c at HL HP
     by_cases hA:97≤c
     ·by_cases hB:c≤122
      ·have dA:(decide ((97:Int)≤(s[k].toNat:Int)))=true:=by simp;omega
       have dB:(decide ((s[k].toNat:Int)≤(122:Int)))=true:=by simp;omega
       have Hg:=Lhd (Hgo.out (by rw[HP.out];simp;omega) (by intro h;rw[HL.out];simp;omega))
       clear hc
       go_wp2
       go_round
       case rel=>exact⟨k+1,by omega,by go_num,Hg.out.1,Hg.out.2⟩
       case measure=>simp[intOf];omega
      ·by_cases hk0:k=0
       ·have dA:(decide ((97:Int)≤(s[k].toNat:Int)))=true:=by simp;omega
        have dB:(decide ((s[k].toNat:Int)≤(122:Int)))=false:=by simp;omega
        have dK:(((k:Int)==0))=true:=by simp;omega
        have Hg:=Lhd (Hst.out (by rw[HL.out];simp;omega) (by omega))
        clear hc hk0
        go_wp2
        go_ret
        exact⟨ret_bool Hg.out.symm,rfl⟩
       ·have dA:(decide ((97:Int)≤(s[k].toNat:Int)))=true:=by simp;omega
        have dB:(decide ((s[k].toNat:Int)≤(122:Int)))=false:=by simp;omega
        have dC:(decide ((48:Int)≤(s[k].toNat:Int)))=true:=by simp;omega
        have dD:(decide ((s[k].toNat:Int)≤(57:Int)))=false:=by simp;omega
        have dE:(((s[k].toNat:Int) !=95))=true:=by simp;omega
        have dK:(((k:Int)==0))=false:=by simp;omega
        have Hg:=Lhd (Hst2.out (by rw[HP.out];simp;omega))
        clear hc
        go_wp2
        go_ret
        exact⟨ret_bool Hg.out.symm,rfl⟩
     ·by_cases hk0:k=0
      ·have dA:(decide ((97:Int)≤(s[k].toNat:Int)))=false:=by simp;omega
       have dK:(((k:Int)==0))=true:=by simp;omega
       have Hg:=Lhd (Hst.out (by rw[HL.out];simp;omega) (by omega))
       clear hc hk0
       go_wp2
       go_ret
       exact⟨ret_bool Hg.out.symm,rfl⟩
      ·by_cases hC:48≤c
       ·by_cases hD:c≤57
        ·have dA:(decide ((97:Int)≤(s[k].toNat:Int)))=false:=by simp;omega
         have dC:(decide ((48:Int)≤(s[k].toNat:Int)))=true:=by simp;omega
         have dD:(decide ((s[k].toNat:Int)≤(57:Int)))=true:=by simp;omega
         have dK:(((k:Int)==0))=false:=by simp;omega
         have Hg:=Lhd (Hgo.out (by rw[HP.out];simp;omega) (by intro h;rw[HL.out];simp;omega))
         clear hc
         go_wp2
         go_round
         case rel=>exact⟨k+1,by omega,by go_num,Hg.out.1,Hg.out.2⟩
         case measure=>simp[intOf];omega
        ·by_cases hE:c=95
         ·have dA:(decide ((97:Int)≤(s[k].toNat:Int)))=false:=by simp;omega
          have dC:(decide ((48:Int)≤(s[k].toNat:Int)))=true:=by simp;omega
          have dD:(decide ((s[k].toNat:Int)≤(57:Int)))=false:=by simp;omega
          have dE:(((s[k].toNat:Int) !=95))=false:=by simp;omega
          have dK:(((k:Int)==0))=false:=by simp;omega
          have Hg:=Lhd (Hgo.out (by rw[HP.out];simp;omega) (by intro h;rw[HL.out];simp;omega))
          clear hc
          go_wp2
          go_round
          case rel=>exact⟨k+1,by omega,by go_num,Hg.out.1,Hg.out.2⟩
          case measure=>simp[intOf];omega
         ·have dA:(decide ((97:Int)≤(s[k].toNat:Int)))=false:=by simp;omega
          have dC:(decide ((48:Int)≤(s[k].toNat:Int)))=true:=by simp;omega
          have dD:(decide ((s[k].toNat:Int)≤(57:Int)))=false:=by simp;omega
          have dE:(((s[k].toNat:Int) !=95))=true:=by simp;omega
          have dK:(((k:Int)==0))=false:=by simp;omega
          have Hg:=Lhd (Hst2.out (by rw[HP.out];simp;omega))
          clear hc
          go_wp2
          go_ret
          exact⟨ret_bool Hg.out.symm,rfl⟩
       ·have dA:(decide ((97:Int)≤(s[k].toNat:Int)))=false:=by simp;omega
        have dC:(decide ((48:Int)≤(s[k].toNat:Int)))=false:=by simp;omega
        have dE:(((s[k].toNat:Int) !=95))=true:=by simp;omega
        have dK:(((k:Int)==0))=false:=by simp;omega
        have Hg:=Lhd (Hst2.out (by rw[HP.out];simp;omega))
        clear hc
        go_wp2
        go_ret
        exact⟨ret_bool Hg.out.symm,rfl⟩
    ·go_wp2
     go_ret
     have h1:=Hall.out
     rw[List.take_of_length_le (by simp;omega)] at h1
     have h2:letterB s[0]=true:=Hl0.out.resolve_left (by omega)
     exact⟨ret_bool (by rw[Hn.out,h2,Bool.true_and,eq_comm,List.all_eq_true];exact h1),rfl⟩
theorem freeRef_any (s:ByteArray) (w:World) (hs:okS s):Calls Tryz.prog 43 #[.string s] w fun x w'=>x=.returned (.bool (freeB s))∧Below w.heap.size w w':=by
 have h1:=namedRef_any s w hs
 have h2:=resRef_any s w
 have hf:freeB s=(namedB s&&!resB s):=rfl
 generalize resB s=r at *
 generalize namedB s=q at *
 have Hf:=Lhd hf
 have H1:=Lhd h1
 have H2:=Lhd h2
 clear h1 h2 hf
 cases q
 ·go_enter Tryz.func43,Tryz.ntmps43
  go_wp2_with (go_at_call 54;refine H1.out.mono ?_;rintro x w1 ⟨rfl,rfl⟩)
  go_ret
  exact⟨ret_bool (by rw[Hf.out];rfl),Below.refl _ _⟩
 ·go_enter Tryz.func43,Tryz.ntmps43
  go_wp2_with (first|(go_at_call 54;refine H1.out.mono ?_;rintro x w1 ⟨rfl,rfl⟩)|(go_at_call 81;refine H2.out.mono ?_;rintro x w2 ⟨rfl,hb2⟩))
  go_ret
  exact⟨ret_bool (by rw[Hf.out];rfl),hb2⟩
open Go.RowKit Go.Afx Go.Maps
def NamesAt (w:World) (A:Option Addr) (n c:Nat) (xs:List ByteArray):Prop:=RowsAt w 1 A n c (xs.map srow)
theorem NamesAt.below {w w':World} {A:Option Addr} {n c:Nat} {xs:List ByteArray} (h:NamesAt w A n c xs) (hb:Below w.heap.size w w'):NamesAt w' A n c xs:=RowsAt.below h hb
theorem NamesAt.len {w:World} {A:Option Addr} {n c:Nat} {xs:List ByteArray} (h:NamesAt w A n c xs):xs.length=n:=by have:=RowsAt.len h;simpa using this
theorem NamesAt.at_ {w:World} {A:Option Addr} {n c:Nat} {xs:List ByteArray} (h:NamesAt w A n c xs) {k:Nat} (hk:k<n):∃ b o x,A=some ⟨b,o,none⟩∧b<w.heap.size∧xs[k]?=some x∧w.cell? ⟨b,o+k,none⟩=some (.string x):=by
 have hl:=h.len
 have hx:xs[k]?=some (xs[k]'(by omega)):=List.getElem?_eq_getElem _
 obtain⟨b,o,hA,hb,hc⟩:=RowsAt.one (u:=.string (xs[k]'(by omega))) h (k:=k) (by rw[List.getElem?_map,hx];rfl)
 exact⟨b,o,_,hA,hb,hx,hc⟩
/-! the example -/
def exE:Ex:=.mk 3 1 (str []) (str []) (str []) []
def exS:St:=.mk 5 (str [97]) (str [116]) 0 [] [exE] [] []
def exP:Pr:=⟨str [112],str [],str [],1,[],[exS]⟩
theorem OwnsN.names {w:World} {base:Nat} {A:Option Addr} {c:Nat} {ns:List (List UInt8)} (h:w.ownsRow base 9 1 (.slice A ns.length c) ns.length (ns.map encStr)):NamesAt w A ns.length c (ns.map str):=by
 have e:((ns.map str).map srow).flatten=ns.map encStr:=by
  rw[List.map_map]
  induction ns with
  | nil=>rfl
  | cons a r ih =>
   have:∀ r:List (List UInt8),(r.map (srow ∘ str)).flatten=r.map encStr:=by
    intro r
    induction r with
    | nil=>rfl
    | cons b r ih=>rw[List.map_cons,List.flatten_cons,ih];rfl
   exact this _
 exact RowsAt.of_own (e▸h) srow_len (by simp)
def pickN (k:Int) (n:Nat):Nat:=n-1-(IntKind.u64.wrap k % (n:Int)).toNat
end Go.Proofs.YtgbgiknfejpcoaaGreat
namespace Go.Afx
open Go.RowKit
def FitsE:Nat→Ex→Prop
 | 0,_=>False
 | d+1,e=>∀ x∈e.args,FitsE d x
def FitsS:Nat→St→Prop
 | 0,_=>False
 | d+1,x=>(∀ y∈x.exprs,FitsE d y)∧(∀ y∈x.body,FitsS d y)∧(∀ y∈x.els,FitsS d y)
theorem FitsE.mono (d:Nat):∀ {d':Nat} {e:Ex},d≤d'→FitsE d e→FitsE d' e:=by
 induction d with
 | zero=>intro d' e _ h;exact h.elim
 | succ d ih =>
  intro d' e hd h
  obtain⟨d',rfl⟩:∃ k,d'=k+1:=⟨d'-1,by omega⟩
  exact fun x hx=>ih (by omega) (h x hx)
end Go.Afx
namespace Go.Afx
open Go.RowKit
def tellN (N H:Nat):Int×Int:=if 1000≤N then (1000,1000) else (N,H)
def tellE (e:Ex):Int×Int:=tellN (cntE 50 e) (dptE 50 e)
def tellS (x:St):Int×Int:=tellN (cntS 101 x) (dptS 101 x)
def sumT (l:List (Int×Int)):Int:=(l.map (·.1)).sum
def topT (l:List (Int×Int)):Int:=l.foldl (fun m t=>max m (t.2+1)) 1
def Tok (t:Int×Int):Prop:=0≤t.1∧t.1≤1000∧0≤t.2∧t.2≤1000
theorem maxN_app (a b:List Nat):maxN (a++b)=max (maxN a) (maxN b):=by
 induction a with
 | nil=>simp[maxN]
 | cons x r ih=>rw[List.cons_append,maxN_cons,maxN_cons,ih];omega
end Go.Afx
namespace Go.Proofs.YtgbgiknfejpcoaaGreat
open Go.RowKit Go.Afx
def inB (s:ByteArray) (c:UInt8):Bool:=s.data.toList.any fun x=>x==c
def headR (op n:Int) (s name src:ByteArray) (l:Nat):Bool:=decide (arityB op=(l:Int))&&fieldsR op n s name src
theorem headR_1 {n:Int} {s name src:ByteArray} {l:Nat}:headR 1 n s name src l=(decide (l=0)&&(decide (0≤n)&&noS s&&noS name&&noS src)):=by
 have ha:arityB 1=0:=rfl
 have hf:fieldsR 1 n s name src=(decide (0≤n)&&noS s&&noS name&&noS src):=rfl
 rw[headR,ha,hf]
 congr 1
 rw[decide_eq_decide];omega
theorem headR_2 {n:Int} {s name src:ByteArray} {l:Nat}:headR 2 n s name src l=(decide (l=0)&&(decide (s.size≤200)&&decide (n=0)&&noS name&&noS src)):=by
 have ha:arityB 2=0:=rfl
 have hf:fieldsR 2 n s name src=(decide (s.size≤200)&&decide (n=0)&&noS name&&noS src):=rfl
 rw[headR,ha,hf]
 congr 1
 rw[decide_eq_decide];omega
theorem headR_3 {n:Int} {s name src:ByteArray} {l:Nat}:headR 3 n s name src l=(decide (l=0)&&((decide (n=0)||decide (n=1))&&noS s&&noS name&&noS src)):=by
 have ha:arityB 3=0:=rfl
 have hf:fieldsR 3 n s name src=((decide (n=0)||decide (n=1))&&noS s&&noS name&&noS src):=rfl
 rw[headR,ha,hf]
 congr 1
 rw[decide_eq_decide];omega
theorem headR_4 {n:Int} {s name src:ByteArray} {l:Nat}:headR 4 n s name src l=(decide (l=0)&&(freeB name&&decide (n=0)&&noS s&&noS src)):=by
 have ha:arityB 4=0:=rfl
 have hf:fieldsR 4 n s name src=(freeB name&&decide (n=0)&&noS s&&noS src):=rfl
 rw[headR,ha,hf]
 congr 1
 rw[decide_eq_decide];omega
theorem headR_5 {n:Int} {s name src:ByteArray} {l:Nat}:headR 5 n s name src l=(decide (l=0)&&(freeB name&&freeB s&&decide (n=0)&&noS src)):=by
 have ha:arityB 5=0:=rfl
 have hf:fieldsR 5 n s name src=(freeB name&&freeB s&&decide (n=0)&&noS src):=rfl
 rw[headR,ha,hf]
 congr 1
 rw[decide_eq_decide];omega
theorem headR_21 {n:Int} {s name src:ByteArray} {l:Nat}:headR 21 n s name src l=(decide (l=1)&&(freeB name&&freeB src&&decide (n=0)&&noS s)):=by
 have ha:arityB 21=1:=rfl
 have hf:fieldsR 21 n s name src=(freeB name&&freeB src&&decide (n=0)&&noS s):=rfl
 rw[headR,ha,hf]
 congr 1
 rw[decide_eq_decide];omega
theorem headR_r {n:Int} {s name src:ByteArray} {l:Nat} (op:Int) (h:22≤op) (h':op≤24):headR op n s name src l=(decide (l=2)&&(freeB name&&freeB src&&decide (n=0)&&noS s)):=by
 have ha:arityB op=2:=by unfold arityB;repeat (first|rw[if_pos (by omega)]|rw[if_neg (by omega)])
 have hf:fieldsR op n s name src=(freeB name&&freeB src&&decide (n=0)&&noS s):=by
  unfold fieldsR
  have hr:rowsB op=true:=by simp[rowsB];omega
  repeat (rw[if_neg (by omega)])
  rw[if_pos hr]
 rw[headR,ha,hf]
 congr 1
 rw[decide_eq_decide];omega
theorem headR_t {n:Int} {s name src:ByteArray} {l:Nat} (op:Int) (h:6≤op) (h':op≤18):headR op n s name src l=(decide (l=2)&&(decide (n=0)&&noS s&&noS name&&noS src)):=by
 have ha:arityB op=2:=by unfold arityB;repeat (first|rw[if_pos (by omega)]|rw[if_neg (by omega)])
 have hf:fieldsR op n s name src=(decide (n=0)&&noS s&&noS name&&noS src):=by
  unfold fieldsR
  have hr:rowsB op=false:=by simp[rowsB];omega
  repeat (rw[if_neg (by omega)])
  rw[hr];rfl
 rw[headR,ha,hf]
 congr 1
 rw[decide_eq_decide];omega
theorem headR_19 {n:Int} {s name src:ByteArray} {l:Nat}:headR 19 n s name src l=(decide (l=1)&&(decide (n=0)&&noS s&&noS name&&noS src)):=by
 have ha:arityB 19=1:=rfl
 have hf:fieldsR 19 n s name src=(decide (n=0)&&noS s&&noS name&&noS src):=rfl
 rw[headR,ha,hf]
 congr 1
 rw[decide_eq_decide];omega
theorem headR_20 {n:Int} {s name src:ByteArray} {l:Nat}:headR 20 n s name src l=(decide (l=1)&&(decide (n=0)&&noS s&&noS name&&noS src)):=by
 have ha:arityB 20=1:=rfl
 have hf:fieldsR 20 n s name src=(decide (n=0)&&noS s&&noS name&&noS src):=rfl
 rw[headR,ha,hf]
 congr 1
 rw[decide_eq_decide];omega
theorem set_other {w:World} {g i:Nat} {u:Value} {p:Addr} (h:p.block≠g):(w.setCell ⟨g,i,none⟩ u).cell? p=w.cell? p:=World.cell?_of_block (Below.heap_setCell _ _ _ _ h)
def RBuilts (F:Nat→Prop) (d:Nat):Prop:=∀ (e:Ex) (row:List Value) (w:World),ExAt F d w row e →
 Calls Tryz.prog 41 #[.agg row.toArray] w fun x w'=>x=.returned (.bool (builtE d e))∧Below w.heap.size w w'
theorem str_neq {s:ByteArray} (h:noS s=false):s.toList.isEmpty=false∧(s.toList==[])=false∧(s.toList !=[])=true:=by
 have h1:=str_some h
 cases hq:s.toList<;>simp_all
theorem z_yes {n:Int} (h:decide (n=0)=true):(n==0)=true∧(n !=0)=false:=by simpa using h
theorem z_no {n:Int} (h:decide (n=0)=false):(n==0)=false∧(n !=0)=true:=by simpa using h
theorem n0_yes {n:Int} (h:decide (0≤n)=true):max n 0=n:=by simp at h;omega
theorem n0_no {n:Int} (h:decide (0≤n)=false):max n 0=0∧(n !=0)=true:=by simp at h ⊢;omega
theorem n01_yes {n:Int} (h:(decide (n=0)||decide (n=1))=true):max n 0=n∧min n 1=n:=by simp at h;omega
theorem n01_no {n:Int} (h:(decide (n=0)||decide (n=1))=false):(n !=min (max n 0) 1)=true:=by simp at h ⊢;omega
theorem s2_yes {s:ByteArray} (h:decide (s.size≤200)=true):decide ((200:Int)<(s.size:Int))=false:=by simp at h ⊢;omega
theorem s2_no {s:ByteArray} (h:decide (s.size≤200)=false):decide ((200:Int)<(s.size:Int))=true:=by simp at h ⊢;omega
theorem l0_no {m:Nat} (h:decide (m=0)=false):((m:Int) !=0)=true:=by simp at h ⊢;omega
theorem l1_no {m:Nat} (h:decide (m=1)=false):((m:Int) !=1)=true:=by simp at h ⊢;omega
theorem l2_no {m:Nat} (h:decide (m=2)=false):((m:Int) !=2)=true:=by simp at h ⊢;omega
theorem rbuilt_1_5  (n:Int) (s name src:ByteArray) (A:Option Addr) (m c:Nat) (args:List Ex) (w:World) (d:Nat) (ha:args.length=m) (t0:decide (0≤n)=true) (t1:noS s=true) (t2:noS name=true) (t3:noS src=true) (t4:decide (m=0)=true) :
  Calls Tryz.prog 41 #[.agg #[.int .i64 1,.int .i64 n,.string s,.string name,.string src,.slice A m c]] w fun x w'=>x=.returned (.bool (headR 1 n s name src args.length&&args.all (builtE d)))∧Below w.heap.size w w':=by
 have hfin:headR 1 n s name src args.length=true:=by
  rw[ha,headR_1 ]
  simp[t0,t1,t2,t3,t4]
 have Hfin:=Lhd hfin
 clear hfin
 have t0b:max n 0=n:=by simp at t0;omega
 clear t0
 replace t1:=str_empty t1
 replace t2:=str_empty t2
 replace t3:=str_empty t3
 have t4b:m=0:=by simpa using t4
 have hmb:m≤1000:=by omega
 have Hm:=Lhd t4b
 have t4c:((m:Int) !=0)=false:=by simp;omega
 clear t4b t4
 obtain⟨w2,Hw2⟩:∃ w2,Hid (w2=(w.alloc (.cells #[.int .i64 1,.int .i64 n,.string s,.string name,.string src,.slice A m c] 60)).alloc (.cells #[.int .i64 1,.int .i64 0,.string { data:=#[] },.string { data:=#[] },.string { data:=#[] },.slice none 0 0] 60)):=⟨_,rfl⟩
 have hR:Below w.heap.size w w2:=by rw[Hw2.out];exact((Below.refl _ _).alloc (Nat.le_refl _) _).alloc (by simp) _
 have he2:IsBlk w2 w.heap.size 60 #[.int .i64 1,.int .i64 n,.string s,.string name,.string src,.slice A m c]:=by rw[Hw2.out];exact(IsBlk.laid _ _ _).alloc _
 have hw2:IsBlk w2 (w.heap.size+1) 60 #[.int .i64 1,.int .i64 0,.string { data:=#[] },.string { data:=#[] },.string { data:=#[] },.slice none 0 0]:=by rw[Hw2.out];exact laid_at (by simp) _ _
 obtain⟨x0,x1,x2,x3,x4,x5,xl⟩:=exBox he2
 obtain⟨y0,y1,y2,y3,y4,y5,hlw⟩:=exBox hw2
 have hfz:=hw2.frozen
 have hA5:=x5
 clear he2 hw2
 have Ha:=Lhd ha
 clear ha
 go_enter Tryz.func41,Tryz.ntmps41
 go_upto_region 2 with (fail)
 rw[← Hw2.out]
 go_wp2_with (first|fail)
 go_loop [5] (fun i=>i=.int .i64 0) (fun _=>0)
 case atStart=>rfl
 case round =>
  obtain rfl:=hrel
  go_wp2
  go_ret
  have h0:args=[]:=List.eq_nil_of_length_eq_zero (by rw[Ha.out];have:=Hm.out;omega)
  subst h0
  exact⟨ret_bool (by rw[Hfin.out];simp),by repeat (first|exact hR|refine Below.setCell ?_ (by simp) _)⟩
theorem rbuiltK_1  (n:Int) (s name src:ByteArray) (A:Option Addr) (m c:Nat) (args:List Ex) (w:World) (F:Nat→Prop) (d:Nat) (hl:ExsAt F d w A m c args) :
  Calls Tryz.prog 41 #[.agg #[.int .i64 1,.int .i64 n,.string s,.string name,.string src,.slice A m c]] w fun x w'=>x=.returned (.bool (headR 1 n s name src args.length&&args.all (builtE d)))∧Below w.heap.size w w':=by
 have ha:=LsAt.len hl
 cases t0:decide (0≤n)
 rotate_left
 cases t1:noS s
 rotate_left
 cases t2:noS name
 rotate_left
 cases t3:noS src
 rotate_left
 cases t4:decide (m=0)
 rotate_left
 exact rbuilt_1_5 n s name src A m c args w d ha t0 t1 t2 t3 t4
 all_goals
  generalize hfin:headR 1 n s name src args.length=fin
  rw[ha,headR_1 ] at hfin
  simp[*] at hfin
  subst hfin
  clear hl ha
  first|replace t0:=n0_yes t0|(obtain⟨t0b,t0c⟩:=n0_no t0;clear t0)|skip
  first|replace t1:=str_empty t1|(have q:=str_neq t1;clear t1;obtain⟨t1,t1b,t1c⟩:=q)|skip
  first|replace t2:=str_empty t2|(have q:=str_neq t2;clear t2;obtain⟨t2,t2b,t2c⟩:=q)|skip
  first|replace t3:=str_empty t3|(have q:=str_neq t3;clear t3;obtain⟨t3,t3b,t3c⟩:=q)|skip
  first|replace t4:=l0_no t4|skip
  obtain⟨w2,Hw2⟩:∃ w2,Hid (w2=(w.alloc (.cells #[.int .i64 1,.int .i64 n,.string s,.string name,.string src,.slice A m c] 60)).alloc (.cells #[.int .i64 1,.int .i64 0,.string { data:=#[] },.string { data:=#[] },.string { data:=#[] },.slice none 0 0] 60)):=⟨_,rfl⟩
  have hR:Below w.heap.size w w2:=by rw[Hw2.out];exact((Below.refl _ _).alloc (Nat.le_refl _) _).alloc (by simp) _
  have he2:IsBlk w2 w.heap.size 60 #[.int .i64 1,.int .i64 n,.string s,.string name,.string src,.slice A m c]:=by rw[Hw2.out];exact(IsBlk.laid _ _ _).alloc _
  have hw2:IsBlk w2 (w.heap.size+1) 60 #[.int .i64 1,.int .i64 0,.string { data:=#[] },.string { data:=#[] },.string { data:=#[] },.slice none 0 0]:=by rw[Hw2.out];exact laid_at (by simp) _ _
  obtain⟨x0,x1,x2,x3,x4,x5,xl⟩:=exBox he2
  obtain⟨y0,y1,y2,y3,y4,y5,hlw⟩:=exBox hw2
  have hfz:=hw2.frozen
  have hA5:=x5
  clear he2 hw2
  go_enter Tryz.func41,Tryz.ntmps41
  go_upto_region 2 with (fail)
  rw[← Hw2.out]
  go_wp2_with (first|fail)
  all_goals
   go_ret
   exact⟨rfl,by repeat (first|exact hR|refine Below.setCell ?_ (by simp) _)⟩
theorem rbuilt_2_5  (n:Int) (s name src:ByteArray) (A:Option Addr) (m c:Nat) (args:List Ex) (w:World) (d:Nat) (ha:args.length=m) (t0:decide (s.size≤200)=true) (t1:decide (n=0)=true) (t2:noS name=true) (t3:noS src=true) (t4:decide (m=0)=true) :
  Calls Tryz.prog 41 #[.agg #[.int .i64 2,.int .i64 n,.string s,.string name,.string src,.slice A m c]] w fun x w'=>x=.returned (.bool (headR 2 n s name src args.length&&args.all (builtE d)))∧Below w.heap.size w w':=by
 have hfin:headR 2 n s name src args.length=true:=by
  rw[ha,headR_2 ]
  simp[t0,t1,t2,t3,t4]
 have Hfin:=Lhd hfin
 clear hfin
 have t0b:decide ((200:Int)<(s.size:Int))=false:=by simp at t0 ⊢;omega
 clear t0
 have t1b:(n==0)=true:=by simpa using t1
 have t1c:(n !=0)=false:=by simpa using t1
 clear t1
 replace t2:=str_empty t2
 replace t3:=str_empty t3
 have t4b:m=0:=by simpa using t4
 have hmb:m≤1000:=by omega
 have Hm:=Lhd t4b
 have t4c:((m:Int) !=0)=false:=by simp;omega
 clear t4b t4
 obtain⟨w2,Hw2⟩:∃ w2,Hid (w2=(w.alloc (.cells #[.int .i64 2,.int .i64 n,.string s,.string name,.string src,.slice A m c] 60)).alloc (.cells #[.int .i64 2,.int .i64 0,.string { data:=#[] },.string { data:=#[] },.string { data:=#[] },.slice none 0 0] 60)):=⟨_,rfl⟩
 have hR:Below w.heap.size w w2:=by rw[Hw2.out];exact((Below.refl _ _).alloc (Nat.le_refl _) _).alloc (by simp) _
 have he2:IsBlk w2 w.heap.size 60 #[.int .i64 2,.int .i64 n,.string s,.string name,.string src,.slice A m c]:=by rw[Hw2.out];exact(IsBlk.laid _ _ _).alloc _
 have hw2:IsBlk w2 (w.heap.size+1) 60 #[.int .i64 2,.int .i64 0,.string { data:=#[] },.string { data:=#[] },.string { data:=#[] },.slice none 0 0]:=by rw[Hw2.out];exact laid_at (by simp) _ _
 obtain⟨x0,x1,x2,x3,x4,x5,xl⟩:=exBox he2
 obtain⟨y0,y1,y2,y3,y4,y5,hlw⟩:=exBox hw2
 have hfz:=hw2.frozen
 have hA5:=x5
 clear he2 hw2
 have Ha:=Lhd ha
 clear ha
 go_enter Tryz.func41,Tryz.ntmps41
 go_upto_region 2 with (fail)
 rw[← Hw2.out]
 go_wp2_with (first|fail)
 go_loop [5] (fun i=>i=.int .i64 0) (fun _=>0)
 case atStart=>rfl
 case round =>
  obtain rfl:=hrel
  go_wp2
  go_ret
  have h0:args=[]:=List.eq_nil_of_length_eq_zero (by rw[Ha.out];have:=Hm.out;omega)
  subst h0
  exact⟨ret_bool (by rw[Hfin.out];simp),by repeat (first|exact hR|refine Below.setCell ?_ (by simp) _)⟩
theorem rbuiltK_2  (n:Int) (s name src:ByteArray) (A:Option Addr) (m c:Nat) (args:List Ex) (w:World) (F:Nat→Prop) (d:Nat) (hl:ExsAt F d w A m c args) :
  Calls Tryz.prog 41 #[.agg #[.int .i64 2,.int .i64 n,.string s,.string name,.string src,.slice A m c]] w fun x w'=>x=.returned (.bool (headR 2 n s name src args.length&&args.all (builtE d)))∧Below w.heap.size w w':=by
 have ha:=LsAt.len hl
 cases t0:decide (s.size≤200)
 rotate_left
 cases t1:decide (n=0)
 rotate_left
 cases t2:noS name
 rotate_left
 cases t3:noS src
 rotate_left
 cases t4:decide (m=0)
 rotate_left
 exact rbuilt_2_5 n s name src A m c args w d ha t0 t1 t2 t3 t4
 all_goals
  generalize hfin:headR 2 n s name src args.length=fin
  rw[ha,headR_2 ] at hfin
  simp[*] at hfin
  subst hfin
  clear hl ha
  first|replace t0:=s2_yes t0|replace t0:=s2_no t0|skip
  first|(obtain⟨t1b,t1c⟩:=z_yes t1;clear t1)|(obtain⟨t1b,t1c⟩:=z_no t1;clear t1)|skip
  first|replace t2:=str_empty t2|(have q:=str_neq t2;clear t2;obtain⟨t2,t2b,t2c⟩:=q)|skip
  first|replace t3:=str_empty t3|(have q:=str_neq t3;clear t3;obtain⟨t3,t3b,t3c⟩:=q)|skip
  first|replace t4:=l0_no t4|skip
  obtain⟨w2,Hw2⟩:∃ w2,Hid (w2=(w.alloc (.cells #[.int .i64 2,.int .i64 n,.string s,.string name,.string src,.slice A m c] 60)).alloc (.cells #[.int .i64 2,.int .i64 0,.string { data:=#[] },.string { data:=#[] },.string { data:=#[] },.slice none 0 0] 60)):=⟨_,rfl⟩
  have hR:Below w.heap.size w w2:=by rw[Hw2.out];exact((Below.refl _ _).alloc (Nat.le_refl _) _).alloc (by simp) _
  have he2:IsBlk w2 w.heap.size 60 #[.int .i64 2,.int .i64 n,.string s,.string name,.string src,.slice A m c]:=by rw[Hw2.out];exact(IsBlk.laid _ _ _).alloc _
  have hw2:IsBlk w2 (w.heap.size+1) 60 #[.int .i64 2,.int .i64 0,.string { data:=#[] },.string { data:=#[] },.string { data:=#[] },.slice none 0 0]:=by rw[Hw2.out];exact laid_at (by simp) _ _
  obtain⟨x0,x1,x2,x3,x4,x5,xl⟩:=exBox he2
  obtain⟨y0,y1,y2,y3,y4,y5,hlw⟩:=exBox hw2
  have hfz:=hw2.frozen
  have hA5:=x5
  clear he2 hw2
  go_enter Tryz.func41,Tryz.ntmps41
  go_upto_region 2 with (fail)
  rw[← Hw2.out]
  go_wp2_with (first|fail)
  all_goals
   go_ret
   exact⟨rfl,by repeat (first|exact hR|refine Below.setCell ?_ (by simp) _)⟩
theorem rbuilt_3_5  (n:Int) (s name src:ByteArray) (A:Option Addr) (m c:Nat) (args:List Ex) (w:World) (d:Nat) (ha:args.length=m) (t0:(decide (n=0)||decide (n=1))=true) (t1:noS s=true) (t2:noS name=true) (t3:noS src=true) (t4:decide (m=0)=true) :
  Calls Tryz.prog 41 #[.agg #[.int .i64 3,.int .i64 n,.string s,.string name,.string src,.slice A m c]] w fun x w'=>x=.returned (.bool (headR 3 n s name src args.length&&args.all (builtE d)))∧Below w.heap.size w w':=by
 have hfin:headR 3 n s name src args.length=true:=by
  rw[ha,headR_3 ]
  simp[t0,t1,t2,t3,t4]
 have Hfin:=Lhd hfin
 clear hfin
 have t0b:max n 0=n:=by simp at t0;omega
 have t0c:min n 1=n:=by simp at t0;omega
 clear t0
 replace t1:=str_empty t1
 replace t2:=str_empty t2
 replace t3:=str_empty t3
 have t4b:m=0:=by simpa using t4
 have hmb:m≤1000:=by omega
 have Hm:=Lhd t4b
 have t4c:((m:Int) !=0)=false:=by simp;omega
 clear t4b t4
 obtain⟨w2,Hw2⟩:∃ w2,Hid (w2=(w.alloc (.cells #[.int .i64 3,.int .i64 n,.string s,.string name,.string src,.slice A m c] 60)).alloc (.cells #[.int .i64 3,.int .i64 0,.string { data:=#[] },.string { data:=#[] },.string { data:=#[] },.slice none 0 0] 60)):=⟨_,rfl⟩
 have hR:Below w.heap.size w w2:=by rw[Hw2.out];exact((Below.refl _ _).alloc (Nat.le_refl _) _).alloc (by simp) _
 have he2:IsBlk w2 w.heap.size 60 #[.int .i64 3,.int .i64 n,.string s,.string name,.string src,.slice A m c]:=by rw[Hw2.out];exact(IsBlk.laid _ _ _).alloc _
 have hw2:IsBlk w2 (w.heap.size+1) 60 #[.int .i64 3,.int .i64 0,.string { data:=#[] },.string { data:=#[] },.string { data:=#[] },.slice none 0 0]:=by rw[Hw2.out];exact laid_at (by simp) _ _
 obtain⟨x0,x1,x2,x3,x4,x5,xl⟩:=exBox he2
 obtain⟨y0,y1,y2,y3,y4,y5,hlw⟩:=exBox hw2
 have hfz:=hw2.frozen
 have hA5:=x5
 clear he2 hw2
 have Ha:=Lhd ha
 clear ha
 go_enter Tryz.func41,Tryz.ntmps41
 go_upto_region 2 with (fail)
 rw[← Hw2.out]
 go_wp2_with (first|fail)
 go_loop [5] (fun i=>i=.int .i64 0) (fun _=>0)
 case atStart=>rfl
 case round =>
  obtain rfl:=hrel
  go_wp2
  go_ret
  have h0:args=[]:=List.eq_nil_of_length_eq_zero (by rw[Ha.out];have:=Hm.out;omega)
  subst h0
  exact⟨ret_bool (by rw[Hfin.out];simp),by repeat (first|exact hR|refine Below.setCell ?_ (by simp) _)⟩
theorem rbuiltK_3  (n:Int) (s name src:ByteArray) (A:Option Addr) (m c:Nat) (args:List Ex) (w:World) (F:Nat→Prop) (d:Nat) (hl:ExsAt F d w A m c args) :
  Calls Tryz.prog 41 #[.agg #[.int .i64 3,.int .i64 n,.string s,.string name,.string src,.slice A m c]] w fun x w'=>x=.returned (.bool (headR 3 n s name src args.length&&args.all (builtE d)))∧Below w.heap.size w w':=by
 have ha:=LsAt.len hl
 cases t0:(decide (n=0)||decide (n=1))
 rotate_left
 cases t1:noS s
 rotate_left
 cases t2:noS name
 rotate_left
 cases t3:noS src
 rotate_left
 cases t4:decide (m=0)
 rotate_left
 exact rbuilt_3_5 n s name src A m c args w d ha t0 t1 t2 t3 t4
 all_goals
  generalize hfin:headR 3 n s name src args.length=fin
  rw[ha,headR_3 ] at hfin
  simp[*] at hfin
  subst hfin
  clear hl ha
  first|(obtain⟨t0b,t0c⟩:=n01_yes t0;clear t0)|replace t0:=n01_no t0|skip
  first|replace t1:=str_empty t1|(have q:=str_neq t1;clear t1;obtain⟨t1,t1b,t1c⟩:=q)|skip
  first|replace t2:=str_empty t2|(have q:=str_neq t2;clear t2;obtain⟨t2,t2b,t2c⟩:=q)|skip
  first|replace t3:=str_empty t3|(have q:=str_neq t3;clear t3;obtain⟨t3,t3b,t3c⟩:=q)|skip
  first|replace t4:=l0_no t4|skip
  obtain⟨w2,Hw2⟩:∃ w2,Hid (w2=(w.alloc (.cells #[.int .i64 3,.int .i64 n,.string s,.string name,.string src,.slice A m c] 60)).alloc (.cells #[.int .i64 3,.int .i64 0,.string { data:=#[] },.string { data:=#[] },.string { data:=#[] },.slice none 0 0] 60)):=⟨_,rfl⟩
  have hR:Below w.heap.size w w2:=by rw[Hw2.out];exact((Below.refl _ _).alloc (Nat.le_refl _) _).alloc (by simp) _
  have he2:IsBlk w2 w.heap.size 60 #[.int .i64 3,.int .i64 n,.string s,.string name,.string src,.slice A m c]:=by rw[Hw2.out];exact(IsBlk.laid _ _ _).alloc _
  have hw2:IsBlk w2 (w.heap.size+1) 60 #[.int .i64 3,.int .i64 0,.string { data:=#[] },.string { data:=#[] },.string { data:=#[] },.slice none 0 0]:=by rw[Hw2.out];exact laid_at (by simp) _ _
  obtain⟨x0,x1,x2,x3,x4,x5,xl⟩:=exBox he2
  obtain⟨y0,y1,y2,y3,y4,y5,hlw⟩:=exBox hw2
  have hfz:=hw2.frozen
  have hA5:=x5
  clear he2 hw2
  go_enter Tryz.func41,Tryz.ntmps41
  go_upto_region 2 with (fail)
  rw[← Hw2.out]
  go_wp2_with (first|fail)
  all_goals
   go_ret
   exact⟨rfl,by repeat (first|exact hR|refine Below.setCell ?_ (by simp) _)⟩
end Go.Proofs.YtgbgiknfejpcoaaGreat

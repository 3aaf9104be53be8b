/- Parts of this proof, one behind the other: SynZ, SynZ1, RefP, RefX, RefC, RefA, RefJ. -/
import Derived.Test.YtmfcmpnlipnopaaGreatTw23
import Derived.Test.YtmfcmpnlipnopaaGreatTw19
import Derived.Test.YtmfcmpnlipnopaaGreatTw18
import Derived.Outline
set_option maxRecDepth 1000000
set_option maxHeartbeats 40000000
namespace Go.Proofs.YtmfcmpnlipnopaaGreat
open Go.RowKit Go.Afx
theorem resB_no {s:ByteArray} (h:∀ y∈wordsL,(y.toList==s.toList)=false):resB s=false:=by
 unfold resB
 rw[List.any_eq_false]
 exact fun y hy=>by simp[h y hy]
theorem resB_yes {s y:ByteArray} (h:y∈wordsL) (hy:(y.toList==s.toList)=true):resB s=true:=by
 unfold resB
 rw[List.any_eq_true]
 exact⟨y,h,hy⟩
theorem words_ok:∀ y∈wordsL,okS y:=by unfold okS;decide +kernel
theorem resRef_any (s:ByteArray) (w:World):Calls Tryz.prog 50 #[.string s] w fun x w'=>x=.returned (.bool (resB s))∧Below w.heap.size w w':=by
 obtain⟨w1,Hw1⟩:∃ w1,Hid (w1=w.alloc (.cells (wordsL.map fun s=>Value.string s).toArray 9)):=⟨_,rfl⟩
 have hb1:Below w.heap.size w w1:=by rw[Hw1.out];exact(Below.refl _ _).alloc (Nat.le_refl _) _
 have hl:LsAt (fun _=>True) w1 1 SRow (some ⟨w.heap.size,0,none⟩) 43 43 wordsL:=by
  rw[Hw1.out]
  refine⟨wordsL.map fun s=>[.string s],RowsAt.lit _ _ 43 rfl (by simp) rfl (by unfold maxLen;omega),fun _ _ _=>trivial,rfl,fun k r x hr hx=>?_⟩
  rw[List.getElem?_map,hx] at hr
  simp at hr
  subst hr
  exact⟨rfl,rfl,words_ok x (List.mem_of_getElem? hx)⟩
 have Hw2:Hid (w1=w.alloc (.cells (wordsL.map fun s=>Value.string s).toArray 9)):=Hw1
 simp only[wordsL,str,List.map_cons,List.map_nil] at Hw1
 have Hl:=Lhd hl
 clear hl
 go_enter Tryz.func50,Tryz.ntmps50
 go_wp2
 rw[← Hw1.out]
 go_loop [4] (fun i=>∃ k:Nat,k≤43∧i=.int .i64 k∧∀ y∈wordsL.take k,(y.toList==s.toList)=false) (fun i=>43-(intOf i).toNat)
 case atStart=>exact⟨0,Nat.zero_le _,rfl,by simp⟩
 case round =>
  obtain⟨k,hk,rfl,hno⟩:=hrel
  have Hno:=Lhd hno;clear hno
  by_cases hlt:k<43
  ·obtain⟨b,o,x,hA,hbl,hx,hs,hc0⟩:=strAt Hl.out hlt
   cases hA
   have Hx:=Lhd hx;clear hx
   simp only[Nat.zero_add] at hc0
   by_cases he:(x.toList==s.toList)=true
   ·have Hf:=Lhd (resB_yes (List.mem_of_getElem? Hx.out) he)
    go_wp2
    go_ret
    exact⟨by rw[Hf.out];rfl,hb1⟩
   ·have he:(x.toList==s.toList)=false:=by simpa using he
    have Hne:=Lhd (mem_take_succ Hx.out Hno.out he)
    go_wp2
    go_round
    case rel=>exact⟨k+1,by omega,by go_num,Hne.out⟩
    case measure=>simp[intOf];omega
  ·go_wp2
   go_ret
   have h1:=Hno.out
   rw[List.take_of_length_le (by simp only[wordsL,List.length_cons,List.length_nil];omega)] at h1
   exact⟨ret_bool (resB_no h1).symm,hb1⟩
theorem named_eq (s:ByteArray) (h:0<s.size):namedB s=(decide (s.size≤16)&&letterB s[0]&&s.data.toList.all partB):=by
 obtain⟨c,r,hs,hc,hl⟩:=list_of s h
 unfold namedB
 rw[hs,hc,← hl]
 simp only[List.all_cons]
 cases hq:letterB c
 ·simp
 ·simp[letter_part hq]
theorem namedRef_any (s:ByteArray) (w:World) (hs:okS s):Calls Tryz.prog 39 #[.string s] w fun x w'=>x=.returned (.bool (namedB s))∧w=w':=by
 unfold okS at hs
 by_cases h0:s.size=0
 ·have hn:namedB s=false:=by
   unfold namedB
   have:s.data.toList=[]:=List.eq_nil_of_length_eq_zero (by simpa using h0)
   rw[this]
  have hd:decide ((s.size:Int)<1)=true:=by simp;omega
  have Hn:=Lhd hn
  clear h0 hn
  go_enter Tryz.func39,Tryz.ntmps39
  go_wp2
  go_ret
  exact⟨by rw[Hn.out];rfl,rfl⟩
 ·have hpos:0<s.size:=by omega
  have hd:decide ((s.size:Int)<1)=false:=by simp;omega
  have hn:=named_eq s hpos
  clear h0
  by_cases h16:16<s.size
  ·have hn2:namedB s=false:=by rw[hn];simp;omega
   have Hn:=Lhd hn2
   clear hn hn2
   have hd2:decide ((16:Int)<(s.size:Int))=true:=by simp;omega
   go_enter Tryz.func39,Tryz.ntmps39
   go_wp2
   go_ret
   exact⟨by rw[Hn.out];rfl,rfl⟩
  ·have hd2:decide ((16:Int)<(s.size:Int))=false:=by simp;omega
   have hn2:namedB s=(letterB s[0]&&s.data.toList.all partB):=by rw[hn,decide_eq_true (by omega:s.size≤16),Bool.true_and]
   have Hn:=Lhd hn2
   clear hn hn2
   go_enter Tryz.func39,Tryz.ntmps39
   go_wp2
   clear hd hd2
   go_loop [3] (fun i=>∃ k:Nat,k≤s.size∧i=.int .i64 k∧(k=0∨letterB s[0]=true)∧∀ y∈s.data.toList.take k,partB y=true) (fun i=>s.size-(intOf i).toNat)
   case atStart=>exact⟨0,Nat.zero_le _,rfl,.inl rfl,by simp⟩
   case round =>
    obtain⟨k,hk,rfl,hl0,hall⟩:=hrel
    have Hall:=Lhd hall
    have Hl0:=Lhd hl0
    clear hall hl0
    by_cases hlt:k<s.size
    ·have Hy:=Lhd (show s.data.toList[k]?=some s[k] by rw[List.getElem?_eq_getElem (by simpa using hlt)];rfl)
     have Hgo:=Lhd (fun (h1:partB s[k]=true) (h2:k=0→letterB s[k]=true)=>(⟨by
       by_cases hk0:k=0
       ·subst hk0;exact .inr (h2 rfl)
       ·rcases Hl0.out with h|h
        ·exact absurd h hk0
        ·exact .inr h,mem_take_succ Hy.out Hall.out h1⟩:(k+1=0∨letterB s[0]=true)∧∀ y∈s.data.toList.take (k+1),partB y=true))
     have Hst:=Lhd (fun (h:letterB s[k]=false) (hk0:k=0)=>(show namedB s=false by subst hk0;rw[Hn.out,h];rfl))
     have Hst2:=Lhd (fun (h:partB s[k]=false)=>(show namedB s=false by
      have:s.data.toList.all partB=false:=by rw[List.all_eq_false];exact⟨_,List.mem_of_getElem? Hy.out,by simp[h]⟩
      rw[Hn.out,this];simp))
     have HL:Hid (letterB s[k]=(decide (97≤s[k].toNat)&&decide (s[k].toNat≤122))):=Lhd rfl
     have HP:Hid (partB s[k]=((decide (97≤s[k].toNat)&&decide (s[k].toNat≤122))||(decide (48≤s[k].toNat)&&decide (s[k].toNat≤57))||decide (s[k].toNat=95))):=Lhd rfl
     generalize hc:s[k].toNat=c at HL HP
     by_cases hA:97≤c
     ·by_cases hB:c≤122
      ·have dA:(decide ((97:Int)≤(s[k].toNat:Int)))=true:=by simp;omega
       have dB:(decide ((s[k].toNat:Int)≤(122:Int)))=true:=by simp;omega
       have Hg:=Lhd (Hgo.out (by rw[HP.out];simp;omega) (by intro h;rw[HL.out];simp;omega))
       clear hc
       go_wp2
       go_round
       case rel=>exact⟨k+1,by omega,by go_num,Hg.out.1,Hg.out.2⟩
       case measure=>simp[intOf];omega
      ·by_cases hk0:k=0
       ·have dA:(decide ((97:Int)≤(s[k].toNat:Int)))=true:=by simp;omega
        have dB:(decide ((s[k].toNat:Int)≤(122:Int)))=false:=by simp;omega
        have dK:(((k:Int)==0))=true:=by simp;omega
        have Hg:=Lhd (Hst.out (by rw[HL.out];simp;omega) (by omega))
        clear hc hk0
        go_wp2
        go_ret
        exact⟨ret_bool Hg.out.symm,rfl⟩
       ·have dA:(decide ((97:Int)≤(s[k].toNat:Int)))=true:=by simp;omega
        have dB:(decide ((s[k].toNat:Int)≤(122:Int)))=false:=by simp;omega
        have dC:(decide ((48:Int)≤(s[k].toNat:Int)))=true:=by simp;omega
        have dD:(decide ((s[k].toNat:Int)≤(57:Int)))=false:=by simp;omega
        have dE:(((s[k].toNat:Int) !=95))=true:=by simp;omega
        have dK:(((k:Int)==0))=false:=by simp;omega
        have Hg:=Lhd (Hst2.out (by rw[HP.out];simp;omega))
        clear hc
        go_wp2
        go_ret
        exact⟨ret_bool Hg.out.symm,rfl⟩
     ·by_cases hk0:k=0
      ·have dA:(decide ((97:Int)≤(s[k].toNat:Int)))=false:=by simp;omega
       have dK:(((k:Int)==0))=true:=by simp;omega
       have Hg:=Lhd (Hst.out (by rw[HL.out];simp;omega) (by omega))
       clear hc hk0
       go_wp2
       go_ret
       exact⟨ret_bool Hg.out.symm,rfl⟩
      ·by_cases hC:48≤c
       ·by_cases hD:c≤57
        ·have dA:(decide ((97:Int)≤(s[k].toNat:Int)))=false:=by simp;omega
         have dC:(decide ((48:Int)≤(s[k].toNat:Int)))=true:=by simp;omega
         have dD:(decide ((s[k].toNat:Int)≤(57:Int)))=true:=by simp;omega
         have dK:(((k:Int)==0))=false:=by simp;omega
         have Hg:=Lhd (Hgo.out (by rw[HP.out];simp;omega) (by intro h;rw[HL.out];simp;omega))
         clear hc
         go_wp2
         go_round
         case rel=>exact⟨k+1,by omega,by go_num,Hg.out.1,Hg.out.2⟩
         case measure=>simp[intOf];omega
        ·by_cases hE:c=95
         ·have dA:(decide ((97:Int)≤(s[k].toNat:Int)))=false:=by simp;omega
          have dC:(decide ((48:Int)≤(s[k].toNat:Int)))=true:=by simp;omega
          have dD:(decide ((s[k].toNat:Int)≤(57:Int)))=false:=by simp;omega
          have dE:(((s[k].toNat:Int) !=95))=false:=by simp;omega
          have dK:(((k:Int)==0))=false:=by simp;omega
          have Hg:=Lhd (Hgo.out (by rw[HP.out];simp;omega) (by intro h;rw[HL.out];simp;omega))
          clear hc
          go_wp2
          go_round
          case rel=>exact⟨k+1,by omega,by go_num,Hg.out.1,Hg.out.2⟩
          case measure=>simp[intOf];omega
         ·have dA:(decide ((97:Int)≤(s[k].toNat:Int)))=false:=by simp;omega
          have dC:(decide ((48:Int)≤(s[k].toNat:Int)))=true:=by simp;omega
          have dD:(decide ((s[k].toNat:Int)≤(57:Int)))=false:=by simp;omega
          have dE:(((s[k].toNat:Int) !=95))=true:=by simp;omega
          have dK:(((k:Int)==0))=false:=by simp;omega
          have Hg:=Lhd (Hst2.out (by rw[HP.out];simp;omega))
          clear hc
          go_wp2
          go_ret
          exact⟨ret_bool Hg.out.symm,rfl⟩
       ·have dA:(decide ((97:Int)≤(s[k].toNat:Int)))=false:=by simp;omega
        have dC:(decide ((48:Int)≤(s[k].toNat:Int)))=false:=by simp;omega
        have dE:(((s[k].toNat:Int) !=95))=true:=by simp;omega
        have dK:(((k:Int)==0))=false:=by simp;omega
        have Hg:=Lhd (Hst2.out (by rw[HP.out];simp;omega))
        clear hc
        go_wp2
        go_ret
        exact⟨ret_bool Hg.out.symm,rfl⟩
    ·go_wp2
     go_ret
     have h1:=Hall.out
     rw[List.take_of_length_le (by simp;omega)] at h1
     have h2:letterB s[0]=true:=Hl0.out.resolve_left (by omega)
     exact⟨ret_bool (by rw[Hn.out,h2,Bool.true_and,eq_comm,List.all_eq_true];exact h1),rfl⟩
theorem freeRef_any (s:ByteArray) (w:World) (hs:okS s):Calls Tryz.prog 28 #[.string s] w fun x w'=>x=.returned (.bool (freeB s))∧Below w.heap.size w w':=by
 have h1:=namedRef_any s w hs
 have h2:=resRef_any s w
 have hf:freeB s=(namedB s&&!resB s):=rfl
 generalize resB s=r at *
 generalize namedB s=q at *
 have Hf:=Lhd hf
 have H1:=Lhd h1
 have H2:=Lhd h2
 clear h1 h2 hf
 cases q
 ·go_enter Tryz.func28,Tryz.ntmps28
  go_wp2_with (go_at_call 39;refine H1.out.mono ?_;rintro x w1 ⟨rfl,rfl⟩)
  go_ret
  exact⟨ret_bool (by rw[Hf.out];rfl),Below.refl _ _⟩
 ·go_enter Tryz.func28,Tryz.ntmps28
  go_wp2_with (first|(go_at_call 39;refine H1.out.mono ?_;rintro x w1 ⟨rfl,rfl⟩)|(go_at_call 50;refine H2.out.mono ?_;rintro x w2 ⟨rfl,hb2⟩))
  go_ret
  exact⟨ret_bool (by rw[Hf.out];rfl),hb2⟩
open Go.RowKit Go.Afx Go.Maps
def NamesAt (w:World) (A:Option Addr) (n c:Nat) (xs:List ByteArray):Prop:=RowsAt w 1 A n c (xs.map srow)
theorem NamesAt.below {w w':World} {A:Option Addr} {n c:Nat} {xs:List ByteArray} (h:NamesAt w A n c xs) (hb:Below w.heap.size w w'):NamesAt w' A n c xs:=RowsAt.below h hb
theorem NamesAt.len {w:World} {A:Option Addr} {n c:Nat} {xs:List ByteArray} (h:NamesAt w A n c xs):xs.length=n:=by have:=RowsAt.len h;simpa using this
theorem NamesAt.at_ {w:World} {A:Option Addr} {n c:Nat} {xs:List ByteArray} (h:NamesAt w A n c xs) {k:Nat} (hk:k<n):∃ b o x,A=some ⟨b,o,none⟩∧b<w.heap.size∧xs[k]?=some x∧w.cell? ⟨b,o+k,none⟩=some (.string x):=by
 have hl:=h.len
 have hx:xs[k]?=some (xs[k]'(by omega)):=List.getElem?_eq_getElem _
 obtain⟨b,o,hA,hb,hc⟩:=RowsAt.one (u:=.string (xs[k]'(by omega))) h (k:=k) (by rw[List.getElem?_map,hx];rfl)
 exact⟨b,o,_,hA,hb,hx,hc⟩
/-! the example -/
def exE:Ex:=.mk 3 1 (str []) (str []) (str []) []
def exS:St:=.mk 5 (str [97]) (str [116]) 0 [] [exE] [] []
def exP:Pr:=⟨str [112],str [],str [],1,[],[exS]⟩
theorem OwnsN.names {w:World} {base:Nat} {A:Option Addr} {c:Nat} {ns:List (List UInt8)} (h:w.ownsRow base 9 1 (.slice A ns.length c) ns.length (ns.map encStr)):NamesAt w A ns.length c (ns.map str):=by
 have e:((ns.map str).map srow).flatten=ns.map encStr:=by
  rw[List.map_map]
  induction ns with
  | nil=>rfl
  | cons a r ih =>
   have:∀ r:List (List UInt8),(r.map (srow ∘ str)).flatten=r.map encStr:=by
    intro r
    induction r with
    | nil=>rfl
    | cons b r ih=>rw[List.map_cons,List.flatten_cons,ih];rfl
   exact this _
 exact RowsAt.of_own (e▸h) srow_len (by simp)
theorem pick_none (k:Int) (w:World):Calls Tryz.prog 27 #[.int .i64 k,.int .i64 0] w fun x w'=>x=.returned (.int .i64 (-1))∧w=w':=by
 go_enter Tryz.func27,Tryz.ntmps27
 go_wp2
 go_ret
 exact⟨rfl,rfl⟩
theorem pick_zero (k:Int) (n:Nat) (w:World) (hn:n=0):Calls Tryz.prog 27 #[.int .i64 k,.int .i64 (n:Int)] w fun x w'=>x=.returned (.int .i64 (-1))∧w=w':=by
 subst hn
 exact pick_none k w
theorem u64_nonneg (k:Int):0≤IntKind.u64.wrap k:=by
 simp only[IntKind.wrap,IntKind.bits,IntKind.signed]
 simp
 omega
def pickN (k:Int) (n:Nat):Nat:=n-1-(IntKind.u64.wrap k % (n:Int)).toNat
theorem pickN_lt (k:Int) (n:Nat) (h:0<n):pickN k n<n:=by unfold pickN;omega
theorem pick_int (k:Int) (n:Nat) (h0:0<n) (h1:n≤1000):wrap64 ((n:Int)-1-wrap64 ((IntKind.u64.wrap k).tmod (n:Int)))=(pickN k n:Int):=by
 have hu:=u64_nonneg k
 unfold pickN
 generalize IntKind.u64.wrap k=u at *
 rw[Int.tmod_eq_emod_of_nonneg hu]
 have a:=Int.emod_nonneg u (b:=(n:Int)) (by omega)
 have b:=Int.emod_lt_of_pos u (b:=(n:Int)) (by omega)
 generalize u % (n:Int)=m at *
 rw[IntWalk.wrap64_in m ⟨by omega,by omega⟩,IntWalk.wrap64_in _ ⟨by omega,by omega⟩]
 omega
theorem pick_some (k:Int) (n:Nat) (w:World) (h0:0<n) (h1:n≤1000):Calls Tryz.prog 27 #[.int .i64 k,.int .i64 (n:Int)] w fun x w'=>x=.returned (.int .i64 (pickN k n:Int))∧w=w':=by
 have hd:((n:Int)==0)=false:=by simp;omega
 go_enter Tryz.func27,Tryz.ntmps27
 go_wp2
 go_ret
 exact⟨ret_int (pick_int k n h0 h1),rfl⟩
theorem told2_any (n d:Int) (w:World):Calls Tryz.prog 14 #[.int .i64 n,.int .i64 d] w fun x w'=>x=.returned (.tuple #[.int .i64 (toldZ (n,d)).1,.int .i64 (toldZ (n,d)).2])∧w=w':=by
 by_cases h1:1000≤n
 ·have hf:toldZ (n,d)=(1000,1000):=by simp[toldZ,fullZ,h1]
  have Hf:=Lhd hf
  have hd:decide ((1000:Int)≤n)=true:=by simpa using h1
  clear hf
  go_enter Tryz.func14,Tryz.ntmps14
  go_wp2
  go_ret2
  exact⟨by rw[Hf.out];rfl,rfl⟩
 ·have hd:decide ((1000:Int)≤n)=false:=by simpa using h1
  by_cases h2:1000≤d
  ·have hf:toldZ (n,d)=(1000,1000):=by simp[toldZ,fullZ,h2]
   have Hf:=Lhd hf
   have hd2:decide ((1000:Int)≤d)=true:=by simpa using h2
   clear hf
   go_enter Tryz.func14,Tryz.ntmps14
   go_wp2
   go_ret2
   exact⟨by rw[Hf.out];rfl,rfl⟩
  ·have hd2:decide ((1000:Int)≤d)=false:=by simpa using h2
   have hf:toldZ (n,d)=(n,d):=by simp[toldZ,fullZ,h1,h2]
   have Hf:=Lhd hf
   clear hf
   go_enter Tryz.func14,Tryz.ntmps14
   go_wp2
   go_ret2
   exact⟨by rw[Hf.out];rfl,rfl⟩
end Go.Proofs.YtmfcmpnlipnopaaGreat
namespace Go.Afx
open Go.RowKit
def FitsE:Nat→Ex→Prop
 | 0,_=>False
 | d+1,e=>∀ x∈e.args,FitsE d x
def FitsS:Nat→St→Prop
 | 0,_=>False
 | d+1,x=>(∀ y∈x.exprs,FitsE d y)∧(∀ y∈x.body,FitsS d y)∧(∀ y∈x.els,FitsS d y)
theorem FitsE.mono (d:Nat):∀ {d':Nat} {e:Ex},d≤d'→FitsE d e→FitsE d' e:=by
 induction d with
 | zero=>intro d' e _ h;exact h.elim
 | succ d ih =>
  intro d' e hd h
  obtain⟨d',rfl⟩:∃ k,d'=k+1:=⟨d'-1,by omega⟩
  exact fun x hx=>ih (by omega) (h x hx)
theorem ls_mem {α:Type} {F:Nat→Prop} {w:World} {sz:Nat} {P:List Value→α→Prop} {A:Option Addr} {n c:Nat} {xs:List α} (h:LsAt F w sz P A n c xs) {x:α} (hx:x∈xs):∃ r,P r x:=by
 obtain⟨rows,_,_,hl,hp⟩:=h
 obtain⟨k,hk⟩:=List.mem_iff_getElem?.1 hx
 have hlt:=(List.getElem?_eq_some_iff.1 hk).1
 exact⟨_,(hp k _ x (List.getElem?_eq_getElem (by omega)) hk).2⟩
theorem ExAt.fits {F:Nat→Prop} {w:World} (d:Nat):∀ {r:List Value} {e:Ex},ExAt F d w r e→FitsE d e:=by
 induction d with
 | zero=>intro r e h;exact h.elim
 | succ d ih =>
  intro r e h x hx
  obtain⟨_,_,_,_,_,A,m,c,_,hl⟩:=h
  obtain⟨r2,h2⟩:=ls_mem hl hx
  exact ih h2
theorem StAt.fits {F:Nat→Prop} {w:World} (d:Nat):∀ {r:List Value} {e:St},StAt F d w r e→FitsS d e:=by
 induction d with
 | zero=>intro r e h;exact h.elim
 | succ d ih =>
  intro r e h
  obtain⟨_,_,_,_,Ac,nc,cc,Ae,ne,ce,Ab,nb,cb,Al,nl,cl,_,_,k2,k3,k4⟩:=h
  exact⟨fun y hy=>by obtain⟨r2,h2⟩:=ls_mem k2 hy;exact h2.fits d,fun y hy=>by obtain⟨r2,h2⟩:=ls_mem k3 hy;exact ih h2,fun y hy=>by obtain⟨r2,h2⟩:=ls_mem k4 hy;exact ih h2⟩
theorem map_same {α β:Type} {f g:α→β} {l:List α} (h:∀ x∈l,f x=g x):l.map f=l.map g:=List.map_congr_left h
theorem cntE_fits (d:Nat):∀ {d':Nat} {e:Ex},d≤d'→FitsE d e→cntE d' e=cntE d e:=by
 induction d with
 | zero=>intro d' e _ h;exact h.elim
 | succ d ih =>
  intro d' e hd h
  obtain⟨d',rfl⟩:∃ k,d'=k+1:=⟨d'-1,by omega⟩
  rw[cntE,cntE,map_same fun x hx=>ih (by omega) (h x hx)]
theorem dptE_fits (d:Nat):∀ {d':Nat} {e:Ex},d≤d'→FitsE d e→dptE d' e=dptE d e:=by
 induction d with
 | zero=>intro d' e _ h;exact h.elim
 | succ d ih =>
  intro d' e hd h
  obtain⟨d',rfl⟩:∃ k,d'=k+1:=⟨d'-1,by omega⟩
  rw[dptE,dptE,map_same fun x hx=>ih (by omega) (h x hx)]
theorem cntS_fits (d:Nat):∀ {d':Nat} {e:St},d≤d'→FitsS d e→cntS d' e=cntS d e:=by
 induction d with
 | zero=>intro d' e _ h;exact h.elim
 | succ d ih =>
  intro d' e hd h
  obtain⟨d',rfl⟩:∃ k,d'=k+1:=⟨d'-1,by omega⟩
  rw[cntS,cntS,map_same fun x hx=>cntE_fits d (by omega) (h.1 x hx),map_same fun x hx=>ih (by omega) (h.2.1 x hx),map_same fun x hx=>ih (by omega) (h.2.2 x hx)]
theorem dptS_fits (d:Nat):∀ {d':Nat} {e:St},d≤d'→FitsS d e→dptS d' e=dptS d e:=by
 induction d with
 | zero=>intro d' e _ h;exact h.elim
 | succ d ih =>
  intro d' e hd h
  obtain⟨d',rfl⟩:∃ k,d'=k+1:=⟨d'-1,by omega⟩
  rw[dptS,dptS,map_same fun x hx=>dptE_fits d (by omega) (h.1 x hx),map_same fun x hx=>ih (by omega) (h.2.1 x hx),map_same fun x hx=>ih (by omega) (h.2.2 x hx)]
end Go.Afx
namespace Go.Afx
open Go.RowKit
def tellN (N H:Nat):Int×Int:=if 1000≤N then (1000,1000) else (N,H)
def tellE (e:Ex):Int×Int:=tellN (cntE 50 e) (dptE 50 e)
def tellS (x:St):Int×Int:=tellN (cntS 101 x) (dptS 101 x)
def sumT (l:List (Int×Int)):Int:=(l.map (·.1)).sum
def topT (l:List (Int×Int)):Int:=l.foldl (fun m t=>max m (t.2+1)) 1
theorem sumT_snoc (l:List (Int×Int)) (t:Int×Int):sumT (l++[t])=sumT l+t.1:=by simp[sumT]
theorem topT_snoc (l:List (Int×Int)) (t:Int×Int):topT (l++[t])=max (topT l) (t.2+1):=by simp[topT]
theorem sumT_app (a b:List (Int×Int)):sumT (a++b)=sumT a+sumT b:=by simp[sumT]
theorem fold_max (l:List (Int×Int)):∀ m n:Int,l.foldl (fun m t=>max m (t.2+1)) (max m n)=max m (l.foldl (fun m t=>max m (t.2+1)) n):=by
 induction l with
 | nil=>intro m n;rfl
 | cons a r ih=>intro m n;rw[List.foldl_cons,List.foldl_cons,← ih,Int.max_assoc]
theorem topT_ge (l:List (Int×Int)):∀ m:Int,m≤l.foldl (fun m t=>max m (t.2+1)) m:=by
 induction l with
 | nil=>intro m;exact Int.le_refl _
 | cons a r ih=>intro m;rw[List.foldl_cons];have:=ih (max m (a.2+1));omega
theorem topT_app (a b:List (Int×Int)):topT (a++b)=max (topT a) (topT b):=by
 unfold topT
 rw[List.foldl_append]
 have h:=topT_ge a 1
 have e:a.foldl (fun m t=>max m (t.2+1)) 1=max (a.foldl (fun m t=>max m (t.2+1)) 1) 1:=by omega
 rw[e,fold_max,← e]
def Tok (t:Int×Int):Prop:=0≤t.1∧t.1≤1000∧0≤t.2∧t.2≤1000
theorem tellN_ok {N H:Nat} (h:H≤900):Tok (tellN N H):=by
 unfold tellN Tok;split<;>simp<;>omega
theorem tellE_ok (e:Ex):Tok (tellE e):=tellN_ok (by have:=dptE_le 50 e;omega)
theorem tellS_ok (x:St):Tok (tellS x):=tellN_ok (by have:=dptS_le 101 x;omega)
theorem tok_okI {t:Int×Int} (h:Tok t):okI t.1∧okI t.2:=by
 unfold Tok at h;unfold okI;omega
theorem sumT_bd {l:List (Int×Int)} (h:∀ t∈l,Tok t):0≤sumT l∧sumT l≤1000*l.length:=by
 induction l with
 | nil=>simp[sumT]
 | cons a r ih =>
  have h1:=h a (by simp)
  have h2:=ih fun t ht=>h t (by simp[ht])
  unfold Tok at h1
  have e:sumT (a::r)=a.1+sumT r:=by simp[sumT]
  rw[e,List.length_cons]
  omega
theorem topT_le {l:List (Int×Int)} {b:Int} (h:∀ t∈l,t.2+1≤b):∀ m:Int,m≤b→l.foldl (fun m t=>max m (t.2+1)) m≤b:=by
 induction l with
 | nil=>intro m hm;exact hm
 | cons a r ih=>intro m hm;rw[List.foldl_cons];exact ih (fun t ht=>h t (by simp[ht])) _ (by have:=h a (by simp);omega)
theorem topT_bd {l:List (Int×Int)} (h:∀ t∈l,Tok t):1≤topT l∧topT l≤1001 :=
 ⟨topT_ge l 1,topT_le (fun t ht=>by have:=(h t ht).2.2.2;omega) 1 (by omega)⟩
theorem tells_all {P:List (Nat×Nat)} (h:∀ p∈P,p.2≤900):toldZ (1+sumT (P.map fun p=>tellN p.1 p.2),topT (P.map fun p=>tellN p.1 p.2))=tellN (1+(P.map (·.1)).sum) (1+maxN (P.map (·.2))):=by
 have hn:∀ Q:List (Nat×Nat),(∀ p∈Q,p.1<1000)→sumT (Q.map fun p=>tellN p.1 p.2)=((Q.map (·.1)).sum:Nat)∧∀ m:Nat,(Q.map fun p=>tellN p.1 p.2).foldl (fun m t=>max m (t.2+1)) ((m:Int)+1)=((1+max m (maxN (Q.map (·.2))):Nat):Int):=by
  intro Q
  induction Q with
  | nil=>intro _;exact⟨by simp[sumT],fun m=>by simp[maxN];omega⟩
  | cons a r ih =>
   intro hq
   obtain⟨i1,i2⟩:=ih fun p hp=>hq p (by simp[hp])
   have ha:tellN a.1 a.2=((a.1:Int),(a.2:Int)):=by have:=hq a (by simp);unfold tellN;rw[if_neg (by omega)]
   refine⟨?_,fun m=>?_⟩
   ·simp only[List.map_cons,List.sum_cons,ha]
    have e:sumT (((a.1:Int),(a.2:Int))::r.map fun p=>tellN p.1 p.2)=a.1+sumT (r.map fun p=>tellN p.1 p.2):=by simp[sumT]
    rw[e,i1];omega
   ·simp only[List.map_cons,List.foldl_cons,ha]
    have e:max ((m:Int)+1) ((a.2:Int)+1)=((max m a.2:Nat):Int)+1:=by omega
    rw[e,i2,maxN_cons]
    omega
 by_cases hall:∀ p∈P,p.1<1000
 ·obtain⟨h1,h2⟩:=hn P hall
  have h3:=h2 0
  simp only[Nat.zero_max,Int.natCast_zero,Int.zero_add] at h3
  have h4:maxN (P.map (·.2))≤900:=maxN_le fun x hx=>by obtain⟨p,hp,rfl⟩:=List.mem_map.1 hx;exact h p hp
  have h5:topT (P.map fun p=>tellN p.1 p.2)=((1+maxN (P.map (·.2)):Nat):Int):=h3
  rw[h1,h5]
  unfold toldZ fullZ tellN
  by_cases hN:1000≤1+(P.map (·.1)).sum
  ·rw[if_pos hN,if_pos]
   simp;omega
  ·rw[if_neg hN,if_neg]
   ·simp
   ·simp;omega
 ·have hall:∃ p∈P,1000≤p.1:=by
   apply Classical.byContradiction
   intro hc
   exact hall fun p hp=>by
    apply Classical.byContradiction
    intro h1
    exact hc ⟨p,hp,by omega⟩
  obtain⟨p,hp,hp1⟩:=hall
  have h1:1000≤(P.map (·.1)).sum:=by
   have:∀ Q:List (Nat×Nat),p∈Q→p.1≤(Q.map (·.1)).sum:=by
    intro Q
    induction Q with
    | nil=>intro h;cases h
    | cons a r ih =>
     intro h
     rw[List.map_cons,List.sum_cons]
     rcases List.mem_cons.1 h with rfl|h
     ·omega
     ·have:=ih h;omega
   have:=this P hp
   omega
  have hok:∀ t∈P.map (fun p=>tellN p.1 p.2),Tok t:=fun t ht=>by obtain⟨q,hq,rfl⟩:=List.mem_map.1 ht;exact tellN_ok (h q hq)
  have h2:1000≤sumT (P.map fun p=>tellN p.1 p.2):=by
   have:∀ Q:List (Int×Int),(∀ t∈Q,Tok t)→(1000,1000)∈Q→1000≤sumT Q:=by
    intro Q
    induction Q with
    | nil=>intro _ h;cases h
    | cons a r ih =>
     intro hq h
     have e:sumT (a::r)=a.1+sumT r:=by simp[sumT]
     rw[e]
     have b:=(sumT_bd fun t ht=>hq t (List.mem_cons_of_mem _ ht)).1
     rcases List.mem_cons.1 h with rfl|h
     ·show (1000:Int)≤1000+sumT r;omega
     ·have a1:=(hq a (by simp)).1
      have:=ih (fun t ht=>hq t (by simp[ht])) h
      omega
   exact this _ hok (List.mem_map.2 ⟨p,hp,if_pos hp1⟩)
  unfold toldZ fullZ tellN at *
  rw[if_pos (by simp;omega),if_pos (by omega)]
theorem tell_mkE {op n:Int} {s name src:ByteArray} {args:List Ex} (h:∀ a∈args,FitsE 49 a):toldZ (1+sumT (args.map tellE),topT (args.map tellE))=tellE (.mk op n s name src args):=by
 have h1:=tells_all (P:=args.map fun a=>(cntE 50 a,dptE 50 a)) (fun p hp=>by obtain⟨a,_,rfl⟩:=List.mem_map.1 hp;have:=dptE_le 50 a;simp only;omega)
 rw[List.map_map,List.map_map,List.map_map] at h1
 have e1:args.map ((fun p:Nat×Nat=>tellN p.1 p.2) ∘ fun a=>(cntE 50 a,dptE 50 a))=args.map tellE:=rfl
 have e2:args.map ((fun p:Nat×Nat=>p.1) ∘ fun a=>(cntE 50 a,dptE 50 a))=args.map (cntE 49):=map_same fun a ha=>cntE_fits 49 (by omega) (h a ha)
 have e3:args.map ((fun p:Nat×Nat=>p.2) ∘ fun a=>(cntE 50 a,dptE 50 a))=args.map (dptE 49):=map_same fun a ha=>dptE_fits 49 (by omega) (h a ha)
 rw[e1,e2,e3] at h1
 exact h1
theorem sum_app3 (a b c:List Nat):(a++b++c).sum=a.sum+b.sum+c.sum:=by simp;omega
theorem maxN_app (a b:List Nat):maxN (a++b)=max (maxN a) (maxN b):=by
 induction a with
 | nil=>simp[maxN]
 | cons x r ih=>rw[List.cons_append,maxN_cons,maxN_cons,ih];omega
theorem tell_mkS {op n:Int} {name src:ByteArray} {cols:List ByteArray} {exprs:List Ex} {body els:List St} (he:∀ a∈exprs,FitsE 50 a) (hb:∀ a∈body,FitsS 100 a) (hl:∀ a∈els,FitsS 100 a) :
  toldZ (1+(sumT (exprs.map tellE)+sumT (body.map tellS)+sumT (els.map tellS)),max (max (topT (exprs.map tellE)) (topT (body.map tellS))) (topT (els.map tellS)))=tellS (.mk op name src n cols exprs body els):=by
 rw[← sumT_app,← sumT_app,← topT_app,← topT_app]
 have h1:=tells_all (P:=(exprs.map fun a=>(cntE 50 a,dptE 50 a))++(body.map fun a=>(cntS 101 a,dptS 101 a))++(els.map fun a=>(cntS 101 a,dptS 101 a))) (fun p hp=>by
  rcases List.mem_append.1 hp with hp|hp
  ·rcases List.mem_append.1 hp with hp|hp
   ·obtain⟨a,_,rfl⟩:=List.mem_map.1 hp;have:=dptE_le 50 a;simp only;omega
   ·obtain⟨a,_,rfl⟩:=List.mem_map.1 hp;have:=dptS_le 101 a;simp only;omega
  ·obtain⟨a,_,rfl⟩:=List.mem_map.1 hp;have:=dptS_le 101 a;simp only;omega)
 simp only[List.map_append,List.map_map] at h1
 rw[sum_app3,maxN_app,maxN_app] at h1
 have e1:exprs.map ((fun p:Nat×Nat=>tellN p.1 p.2) ∘ fun a=>(cntE 50 a,dptE 50 a))=exprs.map tellE:=rfl
 have f1:body.map ((fun p:Nat×Nat=>tellN p.1 p.2) ∘ fun a=>(cntS 101 a,dptS 101 a))=body.map tellS:=rfl
 have f2:els.map ((fun p:Nat×Nat=>tellN p.1 p.2) ∘ fun a=>(cntS 101 a,dptS 101 a))=els.map tellS:=rfl
 have e2:exprs.map ((fun p:Nat×Nat=>p.1) ∘ fun a=>(cntE 50 a,dptE 50 a))=exprs.map (cntE 100):=map_same fun a ha=>(cntE_fits 50 (by omega) (he a ha)).symm
 have e3:exprs.map ((fun p:Nat×Nat=>p.2) ∘ fun a=>(cntE 50 a,dptE 50 a))=exprs.map (dptE 100):=map_same fun a ha=>(dptE_fits 50 (by omega) (he a ha)).symm
 have g2:body.map ((fun p:Nat×Nat=>p.1) ∘ fun a=>(cntS 101 a,dptS 101 a))=body.map (cntS 100):=map_same fun a ha=>cntS_fits 100 (by omega) (hb a ha)
 have g3:body.map ((fun p:Nat×Nat=>p.2) ∘ fun a=>(cntS 101 a,dptS 101 a))=body.map (dptS 100):=map_same fun a ha=>dptS_fits 100 (by omega) (hb a ha)
 have k2:els.map ((fun p:Nat×Nat=>p.1) ∘ fun a=>(cntS 101 a,dptS 101 a))=els.map (cntS 100):=map_same fun a ha=>cntS_fits 100 (by omega) (hl a ha)
 have k3:els.map ((fun p:Nat×Nat=>p.2) ∘ fun a=>(cntS 101 a,dptS 101 a))=els.map (dptS 100):=map_same fun a ha=>dptS_fits 100 (by omega) (hl a ha)
 rw[e1,f1,f2,e2,e3,g2,g3,k2,k3] at h1
 rw[h1]
 unfold tellS
 rw[cntS,dptS]
 simp only[St.exprs,St.body,St.els]
 congr 1
 omega
end Go.Afx
namespace Go.Proofs.YtmfcmpnlipnopaaGreat
open Go.RowKit Go.Afx
def inB (s:ByteArray) (c:UInt8):Bool:=s.data.toList.any fun x=>x==c
theorem in_any (s:ByteArray) (c:UInt8) (w:World) (hs:okS s):Calls Tryz.prog 51 #[.string s,.int .u8 (c.toNat:Int)] w fun x w'=>x=.returned (.bool (inB s c))∧w=w':=by
 unfold okS at hs
 go_enter Tryz.func51,Tryz.ntmps51
 go_wp2
 go_loop [5] (fun i=>∃ k:Nat,k≤s.size∧i=.int .i64 k∧∀ y∈s.data.toList.take k,(y==c)=false) (fun i=>s.size-(intOf i).toNat)
 case atStart=>exact⟨0,Nat.zero_le _,rfl,by simp⟩
 case round =>
  obtain⟨k,hk,rfl,hno⟩:=hrel
  have Hno:=Lhd hno
  clear hno
  by_cases hlt:k<s.size
  ·have Hy:=Lhd (show s.data.toList[k]?=some s[k] by rw[List.getElem?_eq_getElem (by simpa using hlt)];rfl)
   by_cases he:(s[k]==c)=true
   ·have Hf:Hid (inB s c=true):=Lhd (by unfold inB;rw[List.any_eq_true];exact⟨_,List.mem_of_getElem? Hy.out,he⟩)
    have hd:((s[k].toNat:Int)==(c.toNat:Int))=true:=by
     have:s[k]=c:=by simpa using he
     rw[this];simp
    clear he
    go_wp2
    go_ret
    exact⟨ret_bool Hf.out.symm,rfl⟩
   ·have he:(s[k]==c)=false:=by simpa using he
    have Hne:=Lhd (mem_take_succ Hy.out Hno.out he)
    have hd:((s[k].toNat:Int)==(c.toNat:Int))=false:=by
     rw[beq_eq_false_iff_ne]
     intro h
     have h2:s[k].toNat=c.toNat:=by exact_mod_cast h
     have:s[k]=c:=UInt8.toNat_inj.1 h2
     simp[this] at he
    clear he
    go_wp2
    go_round
    case rel=>exact⟨k+1,by omega,by go_num,Hne.out⟩
    case measure=>simp[intOf];omega
  ·go_wp2
   go_ret
   have h1:=Hno.out
   rw[List.take_of_length_le (by simp;omega)] at h1
   exact⟨ret_bool (by unfold inB;rw[eq_comm,List.any_eq_false];exact fun y hy=>by simp[h1 y hy]),rfl⟩
def atB (part:ByteArray) (l:List Co):Bool:=noS part||l.any fun c=>decide (c.name=part)
def refH (name src part:ByteArray) (fuel:Int) (params:List Co):Bool :=
 params.all (fun c=>freeB c.name&&kindB c)&&decide (params.map Co.name).Nodup&&!(!noS src&&(!freeB src||decide (0<params.length)))&&(freeB name&&decide (params.length≤8)&&atB part params&&decide (1≤fuel)&&decide (fuel≤2000))
theorem refH_heads (name src part:ByteArray) (fuel:Int) (params:List Co):refH name src part fuel params=headsR name src part fuel params:=by
 have e1:params.all (fun c=>freeB c.name&&kindB c)=(params.all kindB&&freesB (params.map Co.name)):=by
  rw[freesB_all]
  induction params with
  | nil=>rfl
  | cons a r ih =>
   rw[List.all_cons,List.all_cons,List.map_cons,List.all_cons,ih]
   cases freeB a.name<;>cases kindB a<;>cases (List.all r kindB)<;>cases (List.all (r.map Co.name) freeB)<;>rfl
 have e2:atB part params=(noS part||(params.map Co.name).any fun x=>decide (x=part)):=by
  unfold atB
  rw[List.any_map]
  rfl
 have e3:params.length=0→(params.map Co.name).any (fun x=>decide (x=part))=false:=fun h=>by
  rw[List.eq_nil_of_length_eq_zero h];rfl
 unfold refH headsR
 rw[e1,e2]
 generalize params.all kindB=a at *
 generalize freesB (params.map Co.name)=b at *
 generalize decide (params.map Co.name).Nodup=c at *
 generalize freeB name=d at *
 generalize freeB src=g at *
 generalize (params.map Co.name).any (fun x=>decide (x=part))=h at *
 generalize noS src=i at *
 generalize noS part=j at *
 rcases Nat.eq_zero_or_pos params.length with h0|h0
 ·rw[h0,e3 h0]
  cases a<;>cases b<;>cases c<;>cases d<;>cases g<;>cases i<;>cases j<;>simp
 ·have h1:decide (0<params.length)=true:=by simpa using h0
  have h2:decide (params.length=0)=false:=by simp;intro h;rw[h] at h0;simp at h0
  rw[h1,h2]
  cases a<;>cases b<;>cases c<;>cases d<;>cases g<;>cases i<;>cases j<;>cases h<;>simp<;>try (cases decide (params.length≤8)<;>cases decide (1≤fuel)<;>cases decide (fuel≤2000)<;>rfl)
end Go.Proofs.YtmfcmpnlipnopaaGreat

/- Parts of this proof, one behind the other: RefI. -/
import Derived.Test.YtmfcmpnlipnopaaGreatTw28
import Derived.Test.YtmfcmpnlipnopaaGreatTw33
import Derived.Deep.DeepCutAuto
import Derived.Deep.QuietTactic
import Derived.Deep.RegionHeld3
import Derived.BigQuiet
import Derived.Outline
set_option maxRecDepth 1000000
set_option maxHeartbeats 40000000
namespace Go.Proofs.YtmfcmpnlipnopaaGreat
open Go.RowKit Go.Afx
def RBuiltS (F:Nat→Prop) (d:Nat):Prop:=∀ (x:St) (row:List Value) (w:World),StAt F d w row x →
 Calls Tryz.prog 29 #[.agg row.toArray] w fun e w'=>e=.returned (.bool (builtS d x))∧Below w.heap.size w w'
theorem rblocks_any (F:Nat→Prop) (d:Nat) (ih:RBuiltS F d) (A:Option Addr) (n c:Nat) (xs:List St) (w:World) (h:StsAt F d w A n c xs) :
  Calls Tryz.prog 16 #[.slice A n c] w fun e w'=>e=.returned (.bool (xs.all (builtS d)))∧Below w.heap.size w w':=by
 have hn:=LsAt.n_le h
 have Ha:=Lhd (LsAt.len h)
 go_enter Tryz.func16,Tryz.ntmps16
 go_wp2
 go_loopw [3] (fun i wr=>∃ k:Nat,k≤n∧i=.int .i64 k∧(∀ y∈xs.take k,builtS d y=true)∧Below w.heap.size w wr) (fun i _=>n-(intOf i).toNat)
 case atStart=>exact⟨0,Nat.zero_le _,rfl,by simp,Below.refl _ _⟩
 case round =>
  obtain⟨k,hk,rfl,hall,hB⟩:=hrel
  have Hall:=Lhd hall
  clear hall
  by_cases hlt:k<n
  ·cases d with
   | zero =>
    obtain⟨b,o,r,e,hA,hbl,_,he,hl,hp,hc⟩:=LsAt.get (StsAt.below h hB) hlt
    exact hp.elim
   | succ d =>
    obtain⟨b,o,x,Ac2,nc2,cc2,Ae2,ne2,ce2,Ab2,nb2,cb2,Al2,nl2,cl2,rfl,hbl,hx,hc0,hc1,hc2,hc3,hc4,hc5,hc6,hc7,hp,_⟩:=StsAt.get (StsAt.below h hB) hlt
    have Hx:=Lhd hx
    clear hx
    obtain⟨q,Hq⟩:∃ q,Hid (builtS (d+1) x=q):=⟨_,rfl⟩
    have hcall:=ih x _ wr hp
    rw[Hq.out] at hcall
    have Hc:=Lhd hcall
    clear hcall
    cases q
    ·go_wp2_with (go_at_call 29;refine Hc.out.mono ?_;rintro y w9 ⟨rfl,hb9⟩)
     go_ret
     have hno:xs.all (builtS (d+1))=false:=by rw[List.all_eq_false];exact⟨x,List.mem_of_getElem? Hx.out,by rw[Hq.out];simp⟩
     exact⟨ret_bool hno.symm,hB.trans (hb9.mono hB.size)⟩
    ·have Hnx:=Lhd (mem_take_succ Hx.out Hall.out Hq.out)
     go_wp2_with (go_at_call 29;refine Hc.out.mono ?_;rintro y w9 ⟨rfl,hb9⟩)
     go_roundw
     case rel=>exact⟨k+1,by omega,by go_num,Hnx.out,hB.trans (hb9.mono hB.size)⟩
     case measure=>simp[intOf];omega
  ·go_wp2
   go_ret
   have h1:=Hall.out
   rw[List.take_of_length_le (by rw[Ha.out];omega)] at h1
   exact⟨ret_bool (by rw[eq_comm,List.all_eq_true];exact h1),hB⟩
end Go.Proofs.YtmfcmpnlipnopaaGreat

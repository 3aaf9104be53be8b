/- Parts of this proof, one behind the other: RtD, RtE, RtF, RtG, RtH, RtI, RtJ. -/
import Derived.Test.YtdgapmnojmhllaaGreatDoorPf32
set_option maxRecDepth 1000000
set_option maxHeartbeats 40000000
namespace Go.Afx
open Go.RowKit
def nxt (L:Nat):Nat:=if L=4 then 4 else L+1
def Claim (d:Nat) (e:Ex) (L:Nat):Prop :=
 ∀ (W:Wds) (f g i:Nat) (k:Int) (rest:List Key),At W i (opndK L e.op (tokE d e)++rest)→(opndK L e.op (tokE d e)).length≤f→(opndK L e.op (tokE d e)).length<g→NoOp (nxt L) rest→0≤k→k+2*(dptE d e:Int)≤(if lvlN e.op<L then 60 else 61) →
  Reach W (exprP W f) g L (stK i k) e (stK (i+(opndK L e.op (tokE d e)).length) k)
theorem nxt_le (L:Nat):nxt L≤L+1:=by unfold nxt;split<;>omega
theorem le_nxt (L:Nat):L≤nxt L:=by unfold nxt;split<;>omega
theorem fuel_lt {W:Wds} {i:Nat} {a rest:List Key} (h:At W i (a++rest)):i+a.length<W.fuel:=by
 have:=h.len
 rw[List.length_append] at this
 unfold Wds.fuel
 omega
theorem Claim.done {d:Nat} {e:Ex} {L:Nat} (hc:Claim d e L) {W:Wds} {f g i:Nat} {k:Int} {rest:List Key} (hA:At W i (opndK L e.op (tokE d e)++rest)) (hf:(opndK L e.op (tokE d e)).length≤f) (hg:(opndK L e.op (tokE d e)).length<g) (hn:NoOp L rest) (h0:0≤k) (hk:k+2*(dptE d e:Int)≤(if lvlN e.op<L then 60 else 61)) :
  levP W (exprP W f) g L (stK i k)=(e,stK (i+(opndK L e.op (tokE d e)).length) k) :=
 (hc W f g i k rest hA hf hg (hn.mono (le_nxt L)) h0 hk).done hA.skip hn
theorem opndK_up {L:Nat} {op:Int} {t:List Key} (h:lvlN op≠L):opndK (L+1) op t=opndK L op t:=by
 unfold opndK
 by_cases h1:lvlN op<L
 ·rw[if_pos h1,if_pos (by omega)]
 ·rw[if_neg h1,if_neg (by omega)]
theorem claim_up {d:Nat} {e:Ex} {L:Nat} (hb:builtE d e=true) (hne:lvlN e.op≠L) (h1:1≤L) (h8:L<8) (hc:Claim d e (L+1)):Claim d e L:=by
 intro W f g i k rest hA hf hg hn h0 hk
 have hu:=opndK_up (t:=tokE d e) hne
 have hn':NoOp (L+1) rest:=hn.mono (nxt_le L)
 have hk':k+2*(dptE d e:Int)≤(if lvlN e.op<L+1 then 60 else 61):=by
  by_cases h:lvlN e.op<L
  ·rw[if_pos h] at hk;rw[if_pos (by omega)];exact hk
  ·rw[if_neg h] at hk;rw[if_neg (by omega)];exact hk
 have hl:=fuel_lt hA
 have h:=hc.done (g:=W.fuel) (by rw[hu];exact hA) (by rw[hu];exact hf) (by rw[hu];omega) hn' h0 hk'
 rw[hu] at h
 have hfirst:∀ t,(∀ k:Key,k=sgK [40]→keySays k t=false)→(¬ lvlN e.op<L→keySays (headK (tokE d e++rest)) t=false)→keySays (headK (opndK L e.op (tokE d e)++rest)) t=false:=by
  intro t ht1 ht2
  by_cases h:lvlN e.op<L
  ·rw[opndK_in h,List.append_assoc,List.append_assoc];exact ht1 _ rfl
  ·rw[opndK_out h];exact ht2 h
 refine Reach.up h8 h1 hA h (by omega) hA.skip hn (fun h3=>hfirst _ (fun k hk=>by subst hk;decide +kernel) (fun h=>(first_says d e hb rest).1 (by omega))) (fun h7=>hfirst _ (fun k hk=>by subst hk;decide +kernel) (fun h=>(first_says d e hb rest).2 ?_))
 have:lvlN e.op≤8:=by unfold lvlN;(repeat' split)<;>omega
 omega
theorem claim_down {d:Nat} {e:Ex} (hb:builtE d e=true) {M:Nat} (hM:M≤8) (hc:Claim d e M):∀ n L,L+n=M→1≤L→(∀ N,L≤N→N<M→lvlN e.op≠N)→Claim d e L:=by
  intro n
  induction n with
  | zero => intro L h _ _;obtain rfl:L=M:=by omega
            exact hc
  | succ n ih =>
    intro L h h1 hne
    exact claim_up hb (hne L (Nat.le_refl _) (by omega)) h1 (by omega) (ih (L+1) (by omega) (by omega) (fun N h2 h3=>hne N (by omega) h3))
def stopK (L:Nat) (k:Key):Bool:=([1,2,4,5,6].all fun M=>decide (M<L)||(lstL M).all fun x=>!keySays k x.1)&&!keySays k (str [46])
theorem noop_of {L:Nat} {k:Key} {r:List Key} (h:stopK L k=true):NoOp L (k::r):=by
 unfold stopK at h
 simp only[Bool.and_eq_true,List.all_eq_true,Bool.or_eq_true,decide_eq_true_eq,Bool.not_eq_true'] at h
 refine⟨fun M hM x hx=>?_,h.2⟩
 have hm:M=1∨M=2∨M=4∨M=5∨M=6∨lstL M=[]:=by
  unfold lstL
  by_cases h1:M=1
  ·exact .inl h1
  by_cases h2:M=2
  ·exact .inr (.inl h2)
  by_cases h3:M=4
  ·exact .inr (.inr (.inl h3))
  by_cases h4:M=5
  ·exact .inr (.inr (.inr (.inl h4)))
  by_cases h5:M=6
  ·exact .inr (.inr (.inr (.inr (.inl h5))))
  ·rw[if_neg h1,if_neg h2,if_neg h3,if_neg h4,if_neg h5];simp
 have hm2:M∈[1,2,4,5,6]∨lstL M=[]:=by
  rcases hm with rfl|rfl|rfl|rfl|rfl|h
  all_goals first|exact .inr h|exact .inl (by simp)
 rcases hm2 with hm2|hm2
 ·rcases h.1 M hm2 with h3|h3
  ·omega
  ·exact h3 x hx
 ·rw[hm2] at hx;cases hx
theorem noop_nil (L:Nat):NoOp L []:=by
 refine⟨fun M _ x _=>?_,rfl⟩
 rfl
theorem expr_at {d:Nat} {e:Ex} (hc:Claim d e 1) {W:Wds} {f i:Nat} {k:Int} {rest:List Key} (hA:At W i (tokE d e++rest)) (hf:(tokE d e).length<f) (hn:NoOp 1 rest) (h0:0≤k) (hk:k+2*(dptE d e:Int)≤61) :
  exprP W f (stK i k)=(e,stK (i+(tokE d e).length) k):=by
 have hl:¬ lvlN e.op<1:=by unfold lvlN;(repeat' split)<;>omega
 obtain⟨f,rfl⟩:∃ m,f=m+1:=⟨f-1,by omega⟩
 have hl2:=fuel_lt hA
 have h:=hc.done (W:=W) (f:=f) (g:=W.fuel) (i:=i) (k:=k) (rest:=rest) (by rw[opndK_out hl];exact hA) (by rw[opndK_out hl];omega) (by rw[opndK_out hl];omega) hn h0 (by rw[if_neg hl];exact hk)
 rw[opndK_out hl] at h
 exact h
theorem claim_paren {d:Nat} {e:Ex} (hb:builtE d e=true) (hlt:lvlN e.op<8) (hc:Claim d e 1):Claim d e 8:=by
 intro W f g i k rest hA hf hg hn h0 hk
 rw[if_pos hlt] at hk
 rw[opndK_in hlt] at hA hf ⊢
 rw[List.append_assoc,List.append_assoc] at hA
 simp only[List.length_append,List.length_cons,List.length_nil] at hf ⊢
 unfold Reach
 rw[if_neg (by decide)]
 have hA:At W i (sgK [40]::(tokE d e++(sgK [41]::rest))):=hA
 have hd:1≤dptE d e:=by cases d with
  | zero=>cases hb
  | succ d=>rw[dptE];omega
 have h1:=expr_at hc (k:=k+1) hA.next (f:=f) (by omega) (noop_of (by decide +kernel)) (by omega) (by omega)
 have h2:=hA.next.skip
 have hh:∀ t:ByteArray,keySays (sgK [40]) t=false→isP W (stK i k) t=false:=fun t ht=>by rw[isP_at hA];exact ht
 show singleP W (exprP W f) (stK i k)=_
 have k1:(W.look (stK i k).at_).kind=0:=look_kind hA
 unfold singleP
 rw[k1,hh _ (by decide +kernel),hh _ (by decide +kernel),hh _ (by decide +kernel),hh _ (by decide +kernel),hh _ (by decide +kernel),hh _ (by decide +kernel),show isP W (stK i k) (str [40])=true from by rw[isP_at hA];show keySays (sgK [40]) _=true;decide +kernel]
 show parenP W (exprP W f) (stK i k)=_
 unfold parenP
 simp only
 rw[must_at hA (show keySays (sgK [40]) (str [40])=true by decide +kernel),enter_at h0 (by omega),h1]
 simp only
 rw[must_at h2 (show keySays (sgK [41]) (str [41])=true by decide +kernel),leave_at h0 (by omega)]
 congr 2
 omega
end Go.Afx
namespace Go.Afx
open Go.RowKit
theorem rows_at {W:Wds} {i:Nat} {k:Int} {rest:List Key} {name src:ByteArray} (h1:freeB name=true) (h2:freeB src=true) (hA:At W i (idK name::nmK [105,110]::idK src::rest)):rowsP W (stK i k)=((name,src),stK (i+1+1+1) k):=by
 unfold rowsP
 simp only
 rw[name_at hA (free_res h1)]
 simp only
 rw[must_at hA.next (show keySays (nmK [105,110]) (str [105,110])=true by decide +kernel),name_at hA.next.next (free_res h2)]
theorem where_at {d:Nat} {a:Ex} (hc:Claim d a 1) (hb:builtE d a=true) {W:Wds} {f i:Nat} {k:Int} {rest:List Key} (hA:At W i (whereK a.op a.n (tokE d a)++rest)) (hf:(whereK a.op a.n (tokE d a)).length≤f) (hn:NoOp 1 rest) (hw:keySays (headK rest) (str [119,104,101,114,101])=false) (h0:0≤k) (hk:k+2*(dptE d a:Int)≤61) :
  whereP W (exprP W f) (stK i k)=(a,stK (i+(whereK a.op a.n (tokE d a)).length) k):=by
 unfold whereK at *
 by_cases h:a.op=3∧a.n=1
 ·rw[if_pos h] at hA hf ⊢
  have ha:a=.mk 3 1 nil0 nil0 nil0 []:=by
   obtain⟨d,rfl⟩:∃ m,d=m+1:=by cases d with
    | zero=>cases hb
    | succ d=>exact⟨d,rfl⟩
   obtain⟨h1,h2⟩:=h
   rcases built_cases hb with ⟨n,_,rfl⟩|⟨s,_,rfl⟩|⟨n,hn,rfl⟩|⟨name,hf,rfl⟩|⟨s,name,hf,_,rfl⟩|⟨op,a,b,h3,_,ha,_,rfl⟩|⟨op,a,h3,ha,rfl⟩|⟨name,src,a,_,_,_,rfl⟩|⟨op,name,src,a,b,h3,_,_,_,_,_,rfl⟩
   ·cases h1
   ·cases h1
   ·have h2:n=1:=h2
    rw[h2]
   ·cases h1
   ·cases h1
   ·have h1:op=3:=h1
    omega
   ·have h1:op=3:=h1
    omega
   ·cases h1
   ·have h1:op=3:=h1
    omega
  unfold whereP
  rw[may_no' hA hw,if_neg Bool.false_ne_true,ha]
  rfl
 ·rw[if_neg h] at hA hf ⊢
  unfold whereP
  have hA:At W i (nmK [119,104,101,114,101]::(tokE d a++rest)):=hA
  rw[may_yes' hA (show keySays (nmK [119,104,101,114,101]) (str [119,104,101,114,101])=true by decide +kernel),if_pos rfl]
  simp only[List.length_cons] at hf ⊢
  rw[expr_at hc hA.next (by omega) hn h0 hk]
  congr 2
  omega
theorem foldOp_at {W:Wds} {i:Nat} {k:Int} {op:Int} {rest:List Key} (h1:21≤op) (h2:op≤24) (hA:At W i (sgnK op::rest)):foldOp W (stK i k)=(op,stK (i+1) k):=by
 unfold foldOp
 simp only[mayP_at hA,show headK (sgnK op::rest)=sgnK op from rfl]
 obtain rfl|rfl|rfl|rfl:op=21∨op=22∨op=23∨op=24:=by omega
 ·rw[show keySays (sgnK 21) (str [99,111,117,110,116])=true by decide +kernel];rfl
 ·rw[show keySays (sgnK 22) (str [99,111,117,110,116])=false by decide +kernel,show keySays (sgnK 22) (str [115,117,109])=true by decide +kernel];rfl
 ·rw[show keySays (sgnK 23) (str [99,111,117,110,116])=false by decide +kernel,show keySays (sgnK 23) (str [115,117,109])=false by decide +kernel,show keySays (sgnK 23) (str [109,105,110])=true by decide +kernel];rfl
 ·rw[show keySays (sgnK 24) (str [99,111,117,110,116])=false by decide +kernel,show keySays (sgnK 24) (str [115,117,109])=false by decide +kernel,show keySays (sgnK 24) (str [109,105,110])=false by decide +kernel,must_at hA (show keySays (sgnK 24) (str [109,97,120])=true by decide +kernel)];rfl
theorem claim8 {d:Nat} {e:Ex} (hl:lvlN e.op=8) (h:∀ (W:Wds) (f i:Nat) (k:Int) (rest:List Key),At W i (tokE d e++rest)→(tokE d e).length≤f→NoOp 9 rest→0≤k→k+2*(dptE d e:Int)≤61→singleP W (exprP W f) (stK i k)=(e,stK (i+(tokE d e).length) k)):Claim d e 8:=by
 intro W f g i k rest hA hf hg hn h0 hk
 rw[opndK_out (by omega)] at hA hf ⊢
 rw[if_neg (by omega)] at hk
 unfold Reach
 rw[if_neg (by decide)]
 exact h W f i k rest hA hf hn h0 hk
theorem base_atoms (d:Nat):(∀ n,Claim (d+1) (.mk 1 n nil0 nil0 nil0 []) 8)∧(∀ s,Claim (d+1) (.mk 2 0 s nil0 nil0 []) 8)∧(∀ n,n=0∨n=1→Claim (d+1) (.mk 3 n nil0 nil0 nil0 []) 8) ∧
  (∀ name,freeB name=true→Claim (d+1) (.mk 4 0 nil0 name nil0 []) 8)∧(∀ s name,freeB name=true→freeB s=true→Claim (d+1) (.mk 5 0 s name nil0 []) 8):=by
 refine⟨fun n=>claim8 rfl ?_,fun s=>claim8 rfl ?_,fun n hn=>claim8 rfl ?_,fun name hf=>claim8 rfl ?_,fun s name hf hs=>claim8 rfl ?_⟩
 ·intro W f i k rest hA _ _ _ _
  have hA:At W i ((1,str (decS n),n)::rest):=hA
  have k1:(W.look (stK i k).at_).kind=1:=look_kind hA
  have k2:(W.look (stK i k).at_).n=n:=look_n hA
  unfold singleP
  rw[k1,k2]
  rfl
 ·intro W f i k rest hA _ _ _ _
  have hA:At W i ((2,s,0)::rest):=hA
  have k1:(W.look (stK i k).at_).kind=2:=look_kind hA
  have k2:(W.look (stK i k).at_).text=s:=look_text hA
  unfold singleP
  rw[k1,k2]
  rfl
 ·intro W f i k rest hA _ _ _ _
  rcases hn with rfl|rfl
  ·have hA:At W i (nmK falseL::rest):=hA
   have k1:(W.look (stK i k).at_).kind=3:=look_kind hA
   unfold singleP
   rw[k1,isP_at hA,isP_at hA,show keySays (headK (nmK falseL::rest)) (str [116,114,117,101])=false from (by decide +kernel:keySays (nmK falseL) (str [116,114,117,101])=false),show keySays (headK (nmK falseL::rest)) (str [102,97,108,115,101])=true from (by decide +kernel:keySays (nmK falseL) (str [102,97,108,115,101])=true)]
   rfl
  ·have hA:At W i (nmK trueL::rest):=hA
   have k1:(W.look (stK i k).at_).kind=3:=look_kind hA
   unfold singleP
   rw[k1,isP_at hA,show keySays (headK (nmK trueL::rest)) (str [116,114,117,101])=true from (by decide +kernel:keySays (nmK trueL) (str [116,114,117,101])=true)]
   rfl
 ·intro W f i k rest hA _ hn _ _
  have hA:At W i (idK name::rest):=hA
  have k1:(W.look (stK i k).at_).kind=3:=look_kind hA
  have hh:∀ t:ByteArray,freeB t=false→isP W (stK i k) t=false:=fun t ht=>by rw[isP_at hA];exact free_says hf ht
  unfold singleP
  rw[k1,hh _ (by decide +kernel),hh _ (by decide +kernel),hh _ (by decide +kernel),hh _ (by decide +kernel),hh _ (by decide +kernel),hh _ (by decide +kernel),hh _ (by decide +kernel)]
  show varP W (stK i k)=_
  unfold varP
  simp only
  rw[name_at hA (free_res hf)]
  simp only
  rw[may_no' hA.next hn.2,if_neg Bool.false_ne_true]
  rfl
 ·intro W f i k rest hA _ hn _ _
  have hA:At W i (idK name::sgK [46]::idK s::rest):=hA
  have k1:(W.look (stK i k).at_).kind=3:=look_kind hA
  have hh:∀ t:ByteArray,freeB t=false→isP W (stK i k) t=false:=fun t ht=>by rw[isP_at hA];exact free_says hf ht
  unfold singleP
  rw[k1,hh _ (by decide +kernel),hh _ (by decide +kernel),hh _ (by decide +kernel),hh _ (by decide +kernel),hh _ (by decide +kernel),hh _ (by decide +kernel),hh _ (by decide +kernel)]
  show varP W (stK i k)=_
  unfold varP
  simp only
  rw[name_at hA (free_res hf)]
  simp only
  rw[may_yes' hA.next (show keySays (sgK [46]) (str [46])=true by decide +kernel),if_pos rfl]
  simp only
  rw[name_at hA.next.next (free_res hs)]
  rfl
theorem single_fold {W:Wds} {E:PSt→Ex×PSt} {i:Nat} {k:Int} {op:Int} {rest:List Key} (h1:21≤op) (h2:op≤24) (hA:At W i (sgnK op::rest)):singleP W E (stK i k)=foldP W E (stK i k):=by
 have k1:(W.look (stK i k).at_).kind=3:=by
  have:(W.look (stK i k).at_).kind=(sgnK op).1:=look_kind hA
  rw[this]
  obtain rfl|rfl|rfl|rfl:op=21∨op=22∨op=23∨op=24:=by omega
  all_goals rfl
 have h3:isP W (stK i k) (str [116,114,117,101])=false∧isP W (stK i k) (str [102,97,108,115,101])=false∧(isP W (stK i k) (str [99,111,117,110,116])||isP W (stK i k) (str [115,117,109])||isP W (stK i k) (str [109,105,110])||isP W (stK i k) (str [109,97,120]))=true:=by
  simp only[isP_at hA,show headK (sgnK op::rest)=sgnK op from rfl]
  obtain rfl|rfl|rfl|rfl:op=21∨op=22∨op=23∨op=24:=by omega
  all_goals decide +kernel
 unfold singleP
 rw[k1,h3.1,h3.2.1,h3.2.2]
 rfl
end Go.Afx
namespace Go.Afx
open Go.RowKit
theorem rowsK_len (name src:ByteArray) (op n:Int) (t:List Key):(rowsK name src op n t).length=3+(whereK op n t).length:=by
 unfold rowsK;simp only[List.length_append,List.length_cons,List.length_nil]
theorem base_count (d:Nat) {name src:ByteArray} {a:Ex} (h1:freeB name=true) (h2:freeB src=true) (hb:builtE d a=true) (IH:Claim d a 1):Claim (d+1) (.mk 21 0 nil0 name src [a]) 8:=by
 refine claim8 rfl ?_
 rw[tok_count]
 intro W f i k rest hA hf hn h0 hk
 have hd:=dpt_arg (d:=d) (op:=21) (n:=0) (s:=nil0) (name:=name) (src:=src) (x:=a) (List.mem_singleton.2 rfl)
 simp only[List.length_append,List.length_cons,List.length_nil,rowsK_len] at hf ⊢
 have hA:At W i (sgnK 21::sgK [40]::((rowsK name src a.op a.n (tokE d a)++[sgK [41]])++rest)):=by
  rw[List.append_assoc] at hA;exact hA
 have hB:At W (i+1+1) (idK name::nmK [105,110]::idK src::(whereK a.op a.n (tokE d a)++(sgK [41]::rest))):=by
  have:=hA.next.next
  rw[List.append_assoc] at this
  unfold rowsK at this
  rw[List.append_assoc] at this
  exact this
 have hC:=hB.next.next.next
 rw[single_fold (by omega) (by omega) hA]
 unfold foldP
 simp only
 rw[foldOp_at (by omega) (by omega) hA]
 simp only
 rw[must_at hA.next (show keySays (sgK [40]) (str [40])=true by decide +kernel),enter_at h0 (by omega),rows_at h1 h2 hB]
 simp only
 rw[where_at IH hb hC (by omega) (noop_of (by decide +kernel)) (by show keySays (sgK [41]) _=false;decide +kernel) (by omega) (by omega),if_pos trivial]
 simp only
 rw[must_at hC.skip (show keySays (sgK [41]) (str [41])=true by decide +kernel),leave_at h0 (by omega)]
 congr 2
 omega
theorem base_fold (d:Nat) {op:Int} {name src:ByteArray} {a b:Ex} (g1:22≤op) (g2:op≤24) (h1:freeB name=true) (h2:freeB src=true) (hb:builtE d a=true) (IH:Claim d a 1) (IHb:Claim d b 1):Claim (d+1) (.mk op 0 nil0 name src [a,b]) 8:=by
 refine claim8 (by show lvlN op=8;unfold lvlN;(repeat' split)<;>omega) ?_
 rw[tok_fold g1]
 intro W f i k rest hA hf hn h0 hk
 have hd:=dpt_arg (d:=d) (op:=op) (n:=0) (s:=nil0) (name:=name) (src:=src) (x:=a) (l:=[a,b]) (by simp)
 have hd2:=dpt_arg (d:=d) (op:=op) (n:=0) (s:=nil0) (name:=name) (src:=src) (x:=b) (l:=[a,b]) (by simp)
 simp only[List.length_append,List.length_cons,List.length_nil,rowsK_len] at hf ⊢
 have hA:At W i (sgnK op::sgK [40]::((rowsK name src a.op a.n (tokE d a)++(sgK [58]::(tokE d b++[sgK [41]])))++rest)):=by
  rw[List.append_assoc] at hA;exact hA
 have hB:At W (i+1+1) (idK name::nmK [105,110]::idK src::(whereK a.op a.n (tokE d a)++(sgK [58]::(tokE d b++(sgK [41]::rest))))):=by
  have:=hA.next.next
  rw[List.append_assoc] at this
  unfold rowsK at this
  rw[List.append_assoc] at this
  have e:(sgK [58]::(tokE d b++[sgK [41]]))++rest=sgK [58]::(tokE d b++(sgK [41]::rest)):=by simp
  rw[e] at this
  exact this
 have hC:=hB.next.next.next
 have hD:=hC.skip
 have hE:=hD.next.skip
 rw[single_fold (by omega) (by omega) hA]
 unfold foldP
 simp only
 rw[foldOp_at (by omega) (by omega) hA]
 simp only
 rw[must_at hA.next (show keySays (sgK [40]) (str [40])=true by decide +kernel),enter_at h0 (by omega),rows_at h1 h2 hB]
 simp only
 rw[where_at IH hb hC (by omega) (noop_of (by decide +kernel)) (by show keySays (sgK [58]) _=false;decide +kernel) (by omega) (by omega),if_neg (by omega)]
 simp only
 rw[must_at hD (show keySays (sgK [58]) (str [58])=true by decide +kernel),expr_at IHb hD.next (by omega) (noop_of (by decide +kernel)) (by omega) (by omega)]
 simp only
 rw[must_at hE (show keySays (sgK [41]) (str [41])=true by decide +kernel),leave_at h0 (by omega)]
 congr 2
 omega
theorem base_not (d:Nat) {a:Ex} (IH:Claim d a 3):Claim (d+1) (oneP 19 a) 3:=by
 intro W f g i k rest hA hf hg hn h0 hk
 have hl:¬ lvlN (oneP 19 a).op<3:=by show ¬ lvlN 19<3;decide
 rw[opndK_out hl] at hA hf hg ⊢
 rw[if_neg hl] at hk
 unfold oneP at *
 rw[tok_one (.inl rfl)] at hA hf hg ⊢
 have hd:=dpt_arg (d:=d) (op:=19) (n:=0) (s:=nil0) (name:=nil0) (src:=nil0) (x:=a) (l:=[a]) (by simp)
 have e3:lvlN 19=3:=by decide
 rw[e3] at hA hf hg ⊢
 simp only[List.length_cons] at hf hg ⊢
 obtain⟨g,rfl⟩:∃ m,g=m+1:=⟨g-1,by omega⟩
 have hA:At W i (sgnK 19::(opndK 3 a.op (tokE d a)++rest)):=hA
 have h:=IH W f g (i+1) (k+1) rest hA.next (by omega) (by omega) hn (by omega) (by split<;>omega)
 unfold Reach at h ⊢
 rw[if_neg (by decide)] at h ⊢
 have h:notP W (exprP W f) g (stK (i+1) (k+1))=(a,stK (i+1+(opndK 3 a.op (tokE d a)).length) (k+1)):=h
 show notP W (exprP W f) (g+1) (stK i k)=_
 unfold notP
 rw[may_yes' hA (show keySays (sgnK 19) (str [110,111,116])=true by decide +kernel),if_pos rfl]
 simp only
 rw[enter_at h0 (by omega),h]
 simp only
 rw[leave_at h0 (by omega)]
 unfold oneP
 congr 2
 omega
theorem base_neg (d:Nat) {a:Ex} (IH:Claim d a 7):Claim (d+1) (oneP 20 a) 7:=by
 intro W f g i k rest hA hf hg hn h0 hk
 have hl:¬ lvlN (oneP 20 a).op<7:=by show ¬ lvlN 20<7;decide
 rw[opndK_out hl] at hA hf hg ⊢
 rw[if_neg hl] at hk
 unfold oneP at *
 rw[tok_one (.inr rfl)] at hA hf hg ⊢
 have hd:=dpt_arg (d:=d) (op:=20) (n:=0) (s:=nil0) (name:=nil0) (src:=nil0) (x:=a) (l:=[a]) (by simp)
 have e3:lvlN 20=7:=by decide
 rw[e3] at hA hf hg ⊢
 simp only[List.length_cons] at hf hg ⊢
 obtain⟨g,rfl⟩:∃ m,g=m+1:=⟨g-1,by omega⟩
 have hA:At W i (sgnK 20::(opndK 7 a.op (tokE d a)++rest)):=hA
 have h:=IH W f g (i+1) (k+1) rest hA.next (by omega) (by omega) hn (by omega) (by split<;>omega)
 unfold Reach at h ⊢
 rw[if_neg (by decide)] at h ⊢
 have h:signedP W (exprP W f) g (stK (i+1) (k+1))=(a,stK (i+1+(opndK 7 a.op (tokE d a)).length) (k+1)):=h
 show signedP W (exprP W f) (g+1) (stK i k)=_
 unfold signedP
 rw[may_yes' hA (show keySays (sgnK 20) (str [45])=true by decide +kernel),if_pos rfl]
 simp only
 rw[enter_at h0 (by omega),h]
 simp only
 rw[leave_at h0 (by omega)]
 unfold oneP
 congr 2
 omega
theorem op_word {op:Int} (h1:6≤op) (h2:op≤18):opOf (lstL (lvlN op)) (sgnK op)=op∧stopK (lvlN op+1) (sgnK op)=true∧(isCh (lvlN op)∨lvlN op=4):=by
 obtain rfl|rfl|rfl|rfl|rfl|rfl|rfl|rfl|rfl|rfl|rfl|rfl|rfl:op=6∨op=7∨op=8∨op=9∨op=10∨op=11∨op=12∨op=13∨op=14∨op=15∨op=16∨op=17∨op=18:=by omega
 all_goals decide +kernel
theorem lst_ne (L:Nat):∀ x∈lstL L,x.2≠0:=by
 unfold lstL
 repeat' split
 all_goals decide
theorem base_two (d:Nat) {op:Int} {a b:Ex} (h1:6≤op) (h2:op≤18) (IHa:∀ L,1≤L→L≤8→Claim d a L) (IHb:∀ L,1≤L→L≤8→Claim d b L):Claim (d+1) (twoP op a b) (lvlN op):=by
 intro W f g i k rest hA hf hg hn h0 hk
 obtain⟨ho,hs,hch⟩:=op_word h1 h2
 have hl:¬ lvlN (twoP op a b).op<lvlN op:=by show ¬ lvlN op<lvlN op;omega
 rw[opndK_out hl] at hA hf hg ⊢
 rw[if_neg hl] at hk
 have hd:=dpt_arg (d:=d) (op:=op) (n:=0) (s:=nil0) (name:=nil0) (src:=nil0) (x:=a) (l:=[a,b]) (by simp)
 have hd2:=dpt_arg (d:=d) (op:=op) (n:=0) (s:=nil0) (name:=nil0) (src:=nil0) (x:=b) (l:=[a,b]) (by simp)
 unfold twoP at hA hf hg hk ⊢
 rw[tok_two h1 h2] at hA hf hg ⊢
 generalize lvlN op=M at *
 have ne0:opOf (lstL M) (sgnK op)≠0:=by rw[ho];omega
 simp only[List.length_append,List.length_cons] at hf hg ⊢
 have hA:At W i (opndK (M+if M=4 then 1 else 0) a.op (tokE d a)++(sgnK op::(opndK (M+1) b.op (tokE d b)++rest))):=by
  rw[List.append_assoc] at hA;exact hA
 have hB:=hA.skip
 have hC:=hB.next
 have hl:=fuel_lt hA
 have hl2:=fuel_lt hC
 have hop:opP W (lstL M) (stK (i+(opndK (M+if M=4 then 1 else 0) a.op (tokE d a)).length) k)=(op,stK (i+(opndK (M+if M=4 then 1 else 0) a.op (tokE d a)).length+1) k):=by
  rw[op_some hB (lst_ne M) ne0]
  show (opOf (lstL M) (sgnK op),_)=_
  rw[ho]
 rcases hch with hch|h4
 ·have hM4:¬ M=4:=by unfold isCh at hch;omega
  have hM7:1≤M∧M≤6:=by unfold isCh at hch;omega
  have en:nxt M=M+1:=by unfold nxt;rw[if_neg hM4]
  rw[en] at hn
  have e0:(M+if M=4 then 1 else 0)=M:=by rw[if_neg hM4];rfl
  rw[e0] at hA hB hC hf hg hl hl2 hop ⊢
  have hA1:=IHa M hM7.1 (by omega) W f g i k _ hA (by omega) (by omega) (by rw[en];exact noop_of hs) h0 (by split<;>omega)
  have hB1:=(IHb (M+1) (by omega) (by omega)).done (f:=f) (g:=W.fuel) hC (by omega) (by omega) hn h0 (by split<;>omega)
  unfold Reach at hA1 ⊢
  rw[if_pos hch] at hA1 ⊢
  obtain⟨F,hF,hA1⟩:=hA1
  have hF:W.fuel≤F+(i+(opndK M a.op (tokE d a)).length-i):=hF
  obtain⟨F,rfl⟩:∃ m,F=m+1:=⟨F-1,by omega⟩
  refine⟨F,?_,?_⟩
  ·show W.fuel≤F+(i+_-i)
   omega
  ·rw[hA1,chainP,hop]
   simp only
   rw[if_neg (by omega),hB1]
   have ee:i+(opndK M a.op (tokE d a)).length+1+(opndK (M+1) b.op (tokE d b)).length=i+((opndK M a.op (tokE d a)).length+((opndK (M+1) b.op (tokE d b)).length+1)):=by omega
   rw[ee]
   rfl
 ·have en:nxt M=4:=by unfold nxt;rw[if_pos h4]
  rw[en] at hn
  subst h4
  have e0:(4+if 4=4 then 1 else 0)=5:=rfl
  rw[e0] at hA hB hC hf hg hl hl2 hop ⊢
  simp only[Nat.reduceAdd] at hB hC hf hg hl hl2 hop ⊢
  have hA1:=(IHa 5 (by omega) (by omega)).done (f:=f) (g:=g) hA (by omega) (by omega) (noop_of hs) h0 (by split<;>omega)
  have hB1:=(IHb 5 (by omega) (by omega)).done (f:=f) (g:=g) hC (by omega) (by omega) (hn.mono (by omega)) h0 (by split<;>omega)
  unfold Reach
  rw[if_neg (by decide)]
  have hA1:sumP W (exprP W f) (stK i k)=_:=hA1
  have hB1:sumP W (exprP W f) _=_:=hB1
  have hop:opP W lvCmp _=_:=hop
  show cmpP W (exprP W f) (stK i k)=_
  unfold cmpP
  simp only
  rw[hA1]
  simp only
  rw[hop]
  simp only
  rw[if_neg (by omega),hB1]
  have ee:i+(opndK 5 a.op (tokE d a)).length+1+(opndK 5 b.op (tokE d b)).length=i+((opndK 5 a.op (tokE d a)).length+((opndK 5 b.op (tokE d b)).length+1)):=by omega
  rw[ee]
  rfl
theorem parse_back:∀ (d:Nat) (e:Ex),builtE d e=true→∀ L,1≤L→L≤8→Claim d e L:=by
 intro d
 induction d with
 | zero=>intro e h;cases h
 | succ d ih =>
  intro e h
  have hbase:Claim (d+1) e (lvlN e.op):=by
   obtain⟨a1,a2,a3,a4,a5⟩:=base_atoms d
   rcases built_cases h with ⟨n,_,rfl⟩|⟨s,_,rfl⟩|⟨n,hn,rfl⟩|⟨name,hf,rfl⟩|⟨s,name,hf,hs,rfl⟩|⟨op,a,b,h1,h2,ha,hb,rfl⟩|⟨op,a,h1,ha,rfl⟩|⟨name,src,a,h1,h2,ha,rfl⟩|⟨op,name,src,a,b,g1,g2,h1,h2,ha,hb,rfl⟩
   ·exact a1 n
   ·exact a2 s
   ·exact a3 n hn
   ·exact a4 name hf
   ·exact a5 s name hf hs
   ·exact base_two d h1 h2 (ih a ha) (ih b hb)
   ·rcases h1 with rfl|rfl
    ·exact base_not d (ih a ha 3 (by omega) (by omega))
    ·exact base_neg d (ih a ha 7 (by omega) (by omega))
   ·exact base_count d h1 h2 ha (ih a ha 1 (by omega) (by omega))
   ·have e8:lvlN (Ex.mk op 0 nil0 name src [a,b]).op=8:=by show lvlN op=8;unfold lvlN;(repeat' split)<;>omega
    rw[e8]
    exact base_fold d g1 g2 h1 h2 ha (ih a ha 1 (by omega) (by omega)) (ih b hb 1 (by omega) (by omega))
  have hM:1≤lvlN e.op∧lvlN e.op≤8:=by unfold lvlN;(repeat' split)<;>omega
  have h1:∀ L,1≤L→L≤lvlN e.op→Claim (d+1) e L:=fun L hL1 hL2=>claim_down h hM.2 hbase (lvlN e.op-L) L (by omega) hL1 (fun N _ h3=>by omega)
  intro L hL1 hL8
  rcases Nat.lt_or_ge (lvlN e.op) L with hlt|hge
  ·have h8:Claim (d+1) e 8:=claim_paren h (by omega) (h1 1 (by omega) hM.1)
   exact claim_down h (Nat.le_refl 8) h8 (8-L) L (by omega) hL1 (fun N h2 _=>by omega)
  ·exact h1 L hL1 hge
end Go.Afx
namespace Go.Afx
open Go.RowKit
def sepsK (l:List (List Key)):List Key:=l.flatMap fun x=>sgK [44]::x
def joinK:List (List Key)→List Key
 | []=>[]
 | a::r=>a++sepsK r
def rowsKx (d:Nat) (name src:ByteArray):List Ex→List Key
 | []=>[]
 | a::_=>rowsK name src a.op a.n (tokE d a)
def setK (d:Nat) (x:ByteArray×Ex):List Key:=idK x.1::sgK [61]::tokE d x.2
def firstK (d:Nat):List Ex→List Key
 | []=>[]
 | a::_=>tokE d a
def exprsK (d:Nat) (es:List Ex):List Key:=joinK (es.map (tokE d))
def blockK (f:St→List Key) (l:List St):List Key:=sgK [123]::(l.flatMap f++[sgK [125]])
def plainK (d:Nat) (op:Int) (name src:ByteArray) (cols:List ByteArray) (exprs:List Ex):List Key :=
 if op=1 then nmK [108,101,116]::idK name::sgK [61]::exprsK d exprs
 else if op=2 then nmK [115,101,116]::idK name::sgK [61]::exprsK d exprs
 else if op=3 then nmK [105,110,115,101,114,116]::idK src::sgK [40]::(exprsK d exprs++[sgK [41]])
 else if op=8 then nmK [101,109,105,116]::idK src::sgK [40]::(exprsK d exprs++[sgK [41]])
 else if op=4 then nmK [117,112,100,97,116,101]::(rowsKx d name src exprs++(nmK [115,101,116]::joinK ((cols.zip exprs.tail).map (setK d))))
 else if op=5 then nmK [100,101,108,101,116,101]::rowsKx d name src exprs
 else if op=9 then nmK [97,98,111,114,116]::exprsK d exprs
 else nmK [114,101,112,108,121]::exprsK d exprs
def limitK (n:Int):List Key:=if 0<n then [nmK [108,105,109,105,116],(1,str (decS n),n)] else []
def tokS:Nat→St→List Key
 | 0,_=>[]
 | d+1,x =>
  if x.op=6 then nmK [102,111,114]::(rowsKx d x.name x.src x.exprs++(limitK x.n++blockK (tokS d) x.body))
  else if x.op=7 then nmK [105,102]::(firstK d x.exprs++(blockK (tokS d) x.body++(if x.els=[] then [] else nmK [101,108,115,101]::blockK (tokS d) x.els)))
  else plainK d x.op x.name x.src x.cols x.exprs++[sgK [59]]
def kindK (k:Int):Key:=nmK (kindT k)
def paramK (c:Co):List Key:=[idK c.name,kindK c.kind]
def tokP (d:Nat) (p:Pr):List Key :=
 nmK [112,114,111,99]::idK p.name::sgK [40]::(joinK (p.params.map paramK)++(sgK [41]::((if noS p.part then [] else [nmK [111,110],idK p.part])++((if noS p.src then [] else [nmK [102,114,111,109],idK p.src])++((if p.fuel=100 then [] else [nmK [102,117,101,108],(1,str (decS p.fuel),p.fuel)])++blockK (tokS d) p.body)))))
theorem expr1_at {d:Nat} {e:Ex} (hb:builtE d e=true) {W:Wds} {i:Nat} {k:Int} {rest:List Key} (hA:At W i (tokE d e++rest)) (hn:NoOp 1 rest) (h0:0≤k) (hk:k+2*(dptE d e:Int)≤61):expr1 W (stK i k)=(e,stK (i+(tokE d e).length) k):=by
 have:=fuel_lt hA
 exact expr_at (parse_back d e hb 1 (by omega) (by omega)) hA (by omega) hn h0 hk
/- what a statement's first word says -/
section
variable {W:Wds} {i:Nat} {k:Int} {rest:List Key}
end
end Go.Afx
namespace Go.Afx
open Go.RowKit
section
variable {d:Nat} {op n:Int} {name src:ByteArray} {cols:List ByteArray} {es:List Ex} {body els:List St}
end
def StmtC (d:Nat) (x:St):Prop :=
 ∀ (W:Wds) (f i:Nat) (k:Int) (rest:List Key),At W i (tokS d x++rest)→(tokS d x).length≤f→keySays (headK rest) (str [101,108,115,101])=false→0≤k→k+2*(dptS d x:Int)≤61→stmtP W (blockP W f) (stK i k)=(x,stK (i+(tokS d x).length) k)
def HeadC (d:Nat) (x:St):Prop:=∃ a r,tokS d x=nmK a::r∧a≠[101,108,115,101]∧a≠[125]
theorem count_le {d:Nat} (xs:List St) (h:∀ x∈xs,HeadC d x):xs.length≤(xs.flatMap (tokS d)).length:=by
 induction xs with
 | nil=>exact Nat.zero_le _
 | cons x xs ih =>
  obtain⟨a,r,hr,_⟩:=h x (by simp)
  have:=ih (fun y hy=>h y (by simp[hy]))
  rw[List.flatMap_cons,List.length_append,hr,List.length_cons,List.length_cons]
  omega
end Go.Afx
namespace Go.Afx
open Go.RowKit
section
variable {d:Nat} {W:Wds} {i:Nat} {k:Int} {rest:List Key}
end
end Go.Afx
namespace Go.Afx
open Go.RowKit
def onK (b:ByteArray):List Key:=if noS b then [] else [nmK [111,110],idK b]
def fromK (b:ByteArray):List Key:=if noS b then [] else [nmK [102,114,111,109],idK b]
def fuelK (n:Int):List Key:=if n=100 then [] else [nmK [102,117,101,108],(1,str (decS n),n)]
end Go.Afx

/- Parts of this proof, one behind the other: PfC, PfE, Del, PfG, SmA, PfD. -/
import Derived.Test.YtdgapmnojmhllaaGreatDoorPf34
import Derived.Test.YtdgapmnojmhllaaGreatDoorPf35
import Derived.Test.YtdgapmnojmhllaaGreatDoorPf1
import Derived.Laws.IdiomCopy
import Derived.Lib.SliceRun
import Derived.Test.YtdgapmnojmhllaaGreatDoorPf9
import Derived.Test.YtdgapmnojmhllaaGreatDoorPf5
import Derived.StillTailTactics
import Derived.Deep.Cut
set_option maxRecDepth 1000000
set_option maxHeartbeats 40000000
namespace Go.Proofs.YtdgapmnojmhllaaGreatDoor
open Go.RowKit Go.Afx
theorem outC_plain {T:List UInt8} (h:∀ c∈T,c≠39∧c≠40) (R:List UInt8):outC false (T++R)=outC false R:=by
 induction T with
 | nil=>rfl
 | cons c r ih =>
  obtain⟨h1,h2⟩:=h c (by simp)
  rw[List.cons_append,outC,if_neg h1,if_neg (fun e=>h2 e.1)]
  exact ih fun x hx=>h x (by simp[hx])
theorem tw_all (p:UInt8→Bool):∀ (l:List UInt8) (c:UInt8),c∈l.takeWhile p→p c=true:=by
 intro l
 induction l with
 | nil=>intro c h;cases h
 | cons a r ih =>
  intro c h
  rw[List.takeWhile_cons] at h
  split at h
  ·rename_i ha
   rcases List.mem_cons.1 h with rfl|h
   ·exact ha
   ·exact ih c h
  ·cases h
theorem tw_self (p:UInt8→Bool):∀ l:List UInt8,(∀ c∈l,p c=true)→l.takeWhile p=l:=by
 intro l
 induction l with
 | nil=>intro _;rfl
 | cons a r ih =>
  intro h
  rw[List.takeWhile_cons,if_pos (h a (by simp)),ih fun c hc=>h c (by simp[hc])]
theorem quo_out:∀ (k:Nat) (s acc:List UInt8) (i:Nat) (b:List UInt8) (n:Nat),s.length≤k→quo s acc i=some (b,n)→outC true s=outC false (s.drop (n-i)):=by
 intro k
 induction k with
 | zero=>intro s acc i b n hk h;cases s with
  | nil=>simp[quo] at h
  | cons c r=>simp at hk
 | succ k ih =>
  intro s acc i b n hk h
  match s with
  | []=>simp[quo] at h
  | [c] =>
   unfold quo at h
   split at h
   ·cases h
   ·split at h
    ·rename_i h39
     have hc:c=39:=UInt8.toNat_inj.1 h39
     simp at h
     rw[← h.2,Nat.add_sub_cancel_left,hc]
     rfl
    ·cases h
  | c :: d::r =>
   simp only[List.length_cons] at hk
   have hlen:=quo_len _ _ _ _ _ _ (Nat.le_refl _) h
   unfold quo at h
   split at h
   ·cases h
   ·split at h
    ·rename_i h39
     have hc:c=39:=UInt8.toNat_inj.1 h39
     split at h
     ·rename_i hd39
      have hd:d=39:=UInt8.toNat_inj.1 hd39
      have h2:=ih _ _ _ _ _ (by omega) h
      have hl:=quo_len _ _ _ _ _ _ (Nat.le_refl _) h
      rw[hc,hd,show n-i=(n-(i+2))+1+1 by omega,List.drop_succ_cons,List.drop_succ_cons,← h2]
      rfl
     ·simp at h
      rw[← h.2,Nat.add_sub_cancel_left,hc,List.drop_succ_cons,List.drop_zero]
      rfl
    ·rename_i h39
     have hc:c≠39:=fun e=>h39 (by rw[e];rfl)
     have h2:=ih _ _ _ _ _ (by simp;omega) h
     have hl:=quo_len _ _ _ _ _ _ (Nat.le_refl _) h
     rw[show n-i=(n-(i+1))+1 by omega,List.drop_succ_cons,← h2,outC,if_neg hc,if_neg (by simp)]
def opnW (x:Wd):Nat:=if x.says (str [40]) then 1 else 0
theorem str_inj' {a b:List UInt8} (h:str a=str b):a=b:=by
 have:=congrArg (fun x=>x.data.toList) h
 simpa [str] using this
theorem next_out {s:List UInt8} {x:Nx} {p:Int} (h:nextX s=some x):opnW ⟨x.kind,str x.text,x.n,p⟩+outC false (s.drop x.len)≤outC false s:=by
 have hpl:∀ t:List UInt8,t=s.takeWhile lexB→outC false (s.drop t.length)=outC false s:=fun t ht=>by
  have e:s=t++s.drop t.length:=by
   conv=>lhs;rw[← List.take_append_drop t.length s]
   rw[show s.take t.length=t by
    rw[ht]
    exact(List.prefix_iff_eq_take.1 (List.takeWhile_prefix lexB)).symm]
  conv=>rhs;rw[e]
  rw[outC_plain fun c hc=>by
   have:=lexB_plain (tw_all lexB s c (ht▸hc))
   exact⟨this.1,this.2.1⟩]
 unfold nextX at h
 split at h
 ·unfold plainX at h
  split at h
  ·cases hn:parseN (s.takeWhile lexB) with
   | none=>rw[hn] at h;cases h
   | some v =>
    rw[hn] at h
    cases h
    have:opnW ⟨1,str (s.takeWhile lexB),v,p⟩=0:=rfl
    simp only
    rw[this,hpl _ rfl,Nat.zero_add]
    exact Nat.le_refl _
  ·split at h
   ·rename_i hnm
    cases h
    have hno:opnW ⟨3,str (s.takeWhile lexB),0,p⟩=0:=by
     unfold opnW
     split
     ·rename_i hs
      unfold Wd.says at hs
      simp only[Bool.and_eq_true,decide_eq_true_eq] at hs
      rw[hs.2] at hnm
      revert hnm
      decide +kernel
     ·rfl
    simp only
    rw[hno,hpl _ rfl,Nat.zero_add]
    exact Nat.le_refl _
   ·cases h
 ·split at h
  ·rename_i hq
   unfold quotedX at h
   split at h
   ·cases h
   ·rename_i b n hb
    split at h
    ·cases h
     cases s with
     | nil=>simp at hq
     | cons c r =>
      have hc:c=39:=UInt8.toNat_inj.1 (by simpa using hq)
      rw[List.drop_succ_cons,List.drop_zero] at hb
      have h2:=quo_out _ _ _ _ _ _ (Nat.le_refl _) hb
      have hl:=quo_len _ _ _ _ _ _ (Nat.le_refl _) hb
      have e:opnW ⟨2,str b,0,p⟩=0:=rfl
      simp only
      rw[e,Nat.zero_add,hc,show n=(n-1)+1 by omega,List.drop_succ_cons,← h2]
      exact Nat.le_refl _
    ·cases h
  ·unfold signX at h
   cases hf:signsL.find? (fun g=>g.isPrefixOf s) with
   | none=>rw[hf] at h;cases h
   | some g =>
    rw[hf] at h
    cases h
    have h1:g <+: s:=by simpa using List.find?_some hf
    have h2:=List.mem_of_find?_eq_some hf
    obtain⟨R,rfl⟩:=h1
    simp only
    rw[List.drop_left]
    by_cases hg:g=[40]
    ·subst hg
     have:opnW ⟨0,str [40],0,p⟩=1:=rfl
     rw[this]
     exact Nat.le_refl _
    ·have hz:opnW ⟨0,str g,0,p⟩=0:=by
      unfold opnW Wd.says
      rw[if_neg]
      intro hs
      simp only[Bool.and_eq_true,decide_eq_true_eq] at hs
      exact hg (str_inj' hs.2)
     rw[hz,Nat.zero_add,outC_plain]
     ·exact Nat.le_refl _
     ·have hall:∀ g∈signsL,g≠[40]→∀ c∈g,c≠39∧c≠40:=by decide
      exact hall g h2 hg
theorem wsB_out {c:UInt8} (h:wsB c=true):c≠39∧c≠40:=⟨fun e=>by subst e;revert h;decide,fun e=>by subst e;revert h;decide⟩
def opnL (ws:List Wd):Nat:=(ws.filter fun x=>x.says (str [40])).length
theorem opnL_cons (x:Wd) (ws:List Wd):opnL (x::ws)=opnW x+opnL ws:=by
 unfold opnL opnW
 rw[List.filter_cons]
 split<;>simp<;>omega
theorem lex_out:∀ (k:Nat) (s:List UInt8) (a:Nat) (ws:List Wd),s.length≤k→(∀ c∈s,c≠10)→lexA a s=.inr ws→opnL ws≤outC false s:=by
 intro k
 induction k with
 | zero =>
  intro s a ws hk _ h
  obtain rfl:=List.eq_nil_of_length_eq_zero (Nat.le_zero.1 hk)
  rw[lexA_nil] at h
  cases h
  exact Nat.zero_le _
 | succ k ih =>
  intro s a ws hk hnl h
  cases s with
  | nil =>
   rw[lexA_nil] at h
   cases h
   exact Nat.zero_le _
  | cons c r =>
   have hr:∀ x∈r,x≠10:=fun x hx=>hnl x (by simp[hx])
   simp only[List.length_cons] at hk
   cases hw:wsB c with
   | true =>
    rw[lexA_blank hw] at h
    obtain⟨h1,h2⟩:=wsB_out hw
    rw[outC,if_neg h1,if_neg (fun e=>h2 e.1)]
    exact ih r _ ws (by omega) hr h
   | false =>
    by_cases hc:c.toNat=47∧r.head?=some 47
    ·obtain⟨h1,h2⟩:=hc
     have hc:c=47:=UInt8.toNat_inj.1 h1
     subst hc
     cases r with
     | nil=>cases h2
     | cons b r =>
      have hb:b=47:=Option.some.inj h2
      subst hb
      rw[lexA_remark] at h
      have e:remL (47::47::r)=(47::47::r).length:=by
       unfold remL
       rw[tw_self]
       intro x hx
       simpa using hnl x hx
      rw[e,List.drop_length,lexA_nil] at h
      cases h
      exact Nat.zero_le _
    ·rw [lexA_word hw hc] at h
     cases hn:nextX (c::r) with
     | none=>rw[hn] at h;cases h
     | some x =>
      rw[hn] at h
      obtain⟨l1,l2⟩:=next_len hn
      simp only at h
      have ho:=next_out (p:=(a:Int)) hn
      cases hl:lexA (a+x.len) ((c::r).drop x.len) with
      | inl e=>rw[hl] at h;cases h
      | inr ws' =>
       rw[hl] at h
       have hws:ws=⟨x.kind,str x.text,x.n,a⟩::ws':=by
        unfold conX at h
        exact(Sum.inr.inj h).symm
       have hi:=ih ((c::r).drop x.len) (a+x.len) ws' (by rw[List.length_drop,List.length_cons];omega) (fun y hy=>hnl y (List.mem_of_mem_drop hy)) hl
       rw[hws,opnL_cons]
       omega
theorem few_less {d:Nat} {x:Ex} {A B C:List UInt8} (h:builtE d x=true) (hnl:nlE d x=false) (hn:NumE d x) (ht:txtE d x=A++[40]++B++[41]++C) (hA:parQ false A=false) (he:(exprX (A++B++C)).2.2=0):(exprX (A++B++C)).1≠x:=by
 intro e
 have hb:=bal_expr d x h hnl hn
 rw[ht] at hb
 have hless:=outC_less (B:=B) (C:=C) hA
 rw[hb.out] at hless
 have hnl2:∀ c∈A++B++C,c≠10:=fun c hc=>hb.nl c (by
  simp only[List.mem_append] at hc ⊢
  rcases hc with (hc|hc)|hc<;>simp[hc])
 generalize A++B++C=L at *
 unfold exprX textX at he e
 split at he
 ·cases he
 ·rename_i h8
  rw[if_neg h8] at e
  cases hl:lexL L with
  | inl a=>rw[hl] at he;cases he
  | inr ws =>
   rw[hl] at he e
   simp only at he e
   unfold endX at he e
   simp only at he e
   split at he
   ·cases he
   ·rename_i h1
    rw[if_neg h1] at e
    split at he
    ·cases he
    ·rename_i h2
     rw[if_neg h2] at e
     split at he
     ·rename_i h3
      rw[if_pos h3] at e
      have h2:(expr1 ⟨ws,L.length⟩ PSt.start).2.bad=false:=by
       cases hbad:(expr1 ⟨ws,L.length⟩ PSt.start).2.bad with
       | false=>rfl
       | true=>rw[hbad] at h2;exact absurd rfl h2
      have hc:=cn_expr ⟨ws,L.length⟩ (Wds.fuel ⟨ws,L.length⟩) PSt.start h2 d
      rw[wr_one] at hc
      have e2:(exprP ⟨ws,L.length⟩ (Wds.fuel ⟨ws,L.length⟩) PSt.start).1=x:=e
      rw[e2] at hc
      have hcl:cntW ⟨ws,L.length⟩ (exprP ⟨ws,L.length⟩ (Wds.fuel ⟨ws,L.length⟩) PSt.start).2.at_≤opnL ws:=by
       unfold cntW opnL
       exact(List.Sublist.filter _ (List.take_sublist _ _)).length_le
      rw[lexA_all] at hl
      have hlo:=lex_out _ L 0 ws (Nat.le_refl _) hnl2 hl
      omega
     ·cases he
structure Sc (s:List UInt8) (i:Nat) (t:Bool) (op:List Nat) (pr:List (Nat×Nat)):Prop where
 text:parQ false (s.take i)=t
 ops:∀ o∈op,o<i∧s[o]?=some 40∧parQ false (s.take o)=false
 prs:∀ p∈pr,p.1<p.2∧p.2<i∧s[p.1]?=some 40∧s[p.2]?=some 41∧parQ false (s.take p.1)=false
 opn:op.length≤i
 prn:pr.length≤i
section
variable {s:List UInt8} {i:Nat} {t:Bool} {op:List Nat} {pr:List (Nat×Nat)} {c:UInt8}
theorem Sc.start (s:List UInt8):Sc s 0 false [] []:=⟨rfl,(fun o h=>by cases h),(fun o h=>by cases h),Nat.le_refl _,Nat.le_refl _⟩
theorem par_next (hc:s[i]?=some c):parQ false (s.take (i+1))=if c=39 then !(parQ false (s.take i)) else parQ false (s.take i):=by
 rw[take_succ_of' hc,parQ_app]
 rfl
theorem Sc.next (h:Sc s i t op pr) {t':Bool} (ht:parQ false (s.take (i+1))=t'):Sc s (i+1) t' op pr :=
 ⟨ht,fun o ho=>⟨Nat.lt_succ_of_lt (h.ops o ho).1,(h.ops o ho).2⟩,fun p hp=>⟨(h.prs p hp).1,Nat.lt_succ_of_lt (h.prs p hp).2.1,(h.prs p hp).2.2⟩,Nat.le_succ_of_le h.opn,Nat.le_succ_of_le h.prn⟩
theorem Sc.quote (h:Sc s i t op pr) (hc:s[i]?=some 39):Sc s (i+1) (!t) op pr:=h.next (by rw[par_next hc,if_pos rfl,h.text])
theorem Sc.other (h:Sc s i t op pr) (hc:s[i]?=some c) (h39:c≠39):Sc s (i+1) t op pr:=h.next (by rw[par_next hc,if_neg h39,h.text])
theorem Sc.opens (h:Sc s i false op pr) (hc:s[i]?=some 40):Sc s (i+1) false (op++[i]) pr:=by
 have k:=h.other hc (by decide)
 refine⟨k.text,fun o ho=>?_,k.prs,by rw[List.length_append];have:=h.opn;simp;omega,k.prn⟩
 rcases List.mem_append.1 ho with ho|ho
 ·exact k.ops o ho
 ·obtain rfl:=List.mem_singleton.1 ho
  exact⟨Nat.lt_succ_self _,hc,h.text⟩
theorem Sc.shuts (h:Sc s i false op pr) (hc:s[i]?=some 41):Sc s (i+1) false op.dropLast pr:=by
 have k:=h.other hc (by decide)
 exact⟨k.text,fun o ho=>k.ops o ((List.dropLast_sublist op).subset ho),k.prs,by rw[List.length_dropLast];have:=h.opn;omega,k.prn⟩
theorem Sc.pair (h:Sc s i false op pr) (hc:s[i]?=some 41) {o:Nat} (ho:o∈op):Sc s (i+1) false op.dropLast (pr++[(o,i)]):=by
 have k:=h.shuts hc
 have a:=h.ops o ho
 refine⟨k.text,k.ops,fun p hp=>?_,k.opn,by rw[List.length_append];have:=h.prn;simp;omega⟩
 rcases List.mem_append.1 hp with hp|hp
 ·exact k.prs p hp
 ·obtain rfl:=List.mem_singleton.1 hp
  exact⟨a.1,Nat.lt_succ_self _,a.2.1,hc,a.2.2⟩
theorem Sc.cut (h:Sc s i t op pr) {a b:Nat} (hp:(a,b)∈pr):s=s.take a++[40]++(s.drop (a+1)).take (b-(a+1))++[41]++s.drop (b+1)∧parQ false (s.take a)=false∧a<b∧b<s.length:=by
 obtain⟨h1,_,h3,h4,h5⟩:=h.prs _ hp
 simp only at h1 h3 h4 h5
 have hb:b<s.length:=(List.getElem?_eq_some_iff.1 h4).1
 refine⟨?_,h5,h1,hb⟩
 have e1:s.drop a=40::s.drop (a+1):=by
  rw[List.drop_eq_getElem_cons (by omega),(List.getElem?_eq_some_iff.1 h3).2]
 have e2:s.drop b=41::s.drop (b+1):=by
  rw[List.drop_eq_getElem_cons hb,(List.getElem?_eq_some_iff.1 h4).2]
 have e3:s.drop (a+1)=(s.drop (a+1)).take (b-(a+1))++s.drop b:=by
  conv=>lhs;rw[← List.take_append_drop (b-(a+1)) (s.drop (a+1))]
  rw[List.drop_drop,show a+1+(b-(a+1))=b by omega]
 conv=>lhs;rw[← List.take_append_drop a s,e1,e3,e2]
 simp
end
end Go.Proofs.YtdgapmnojmhllaaGreatDoor
namespace Go.Afx
open Go.RowKit
def layA (cs:Array Value):Nat→List Value→Array Value
 | _,[]=>cs
 | o,v::r=>layA (cs.setIfInBounds o v) (o+1) r
theorem IsBlk.setCells {t:TypeId} {g:Nat}:∀ (vs:List Value) (o:Nat) (w:World) (cs:Array Value),IsBlk w g t cs→IsBlk (w.setCells g o vs) g t (layA cs o vs)
 | [],_,_,_,h=>h
 | v::r,o,_,_,h=>IsBlk.setCells r (o+1) _ _ (h.stored o v)
theorem But.setCells {S:Nat→Prop} {a:World} {g:Nat} (hg:S g∨a.heap.size≤g):∀ (vs:List Value) (o:Nat) (w:World),But S a w→But S a (w.setCells g o vs)
 | [],_,_,h=>h
 | v::r,o,_,h=>But.setCells hg r (o+1) _ (h.setCell (p:=⟨g,o,none⟩) hg v)
theorem own_first {w:World} {base:Nat} {e:TypeId} {sz:Nat} {A:Option Addr} {n c:Nat} {xs:List (List Value)} (h:w.ownsRow base e sz (.slice A n c) n xs.flatten) (hr:∀ r∈xs,r.length=sz) (hx:xs.length=n) (k:Nat) (hk:k≤n) :
  w.ownsRow base e sz (.slice A k c) k (xs.take k).flatten:=by
 have hl:(xs.take k).flatten.length=k*sz:=by rw[flatten_length _ sz (fun r h=>hr r (List.mem_of_mem_take h)),List.length_take];congr 1;omega
 refine⟨hl,?_⟩
 rcases h.2 with ⟨hv,h0⟩|⟨g,cap,cur,hv,hb,hg,hnc,hcm,hcs,ht⟩
 ·injection hv with h1 h2 h3
  subst h1 h2 h3
  obtain rfl:k=0:=by omega
  exact .inl ⟨rfl,rfl⟩
 ·injection hv with h1 h2 h3
  subst h1 h3
  refine .inr ⟨g,_,cur,rfl,hb,hg,by omega,hcm,hcs,?_⟩
  have e:xs.flatten=(xs.take k).flatten++(xs.drop k).flatten:=by rw[← List.flatten_append,List.take_append_drop]
  have e2:(cur.toList.take (n*sz)).take (k*sz)=cur.toList.take (k*sz):=by rw[List.take_take,Nat.min_eq_left (Nat.mul_le_mul_right _ hk)]
  rw[← e2,ht,e,List.take_append_of_le_length (by omega),List.take_of_length_le (by omega)]
end Go.Afx
namespace Go.Proofs.YtdgapmnojmhllaaGreatDoor
open Go.RowKit Go.Afx
theorem tyPair:ElemTy Tryz.prog 39 40 2 16 (.agg #[.int .i64 0,.int .i64 0]):=⟨Tryz.underlying39,by kernel_rfl,rfl,by decide⟩
def prow (p:Nat×Nat):List Value:=[.int .i64 (p.1:Int),.int .i64 (p.2:Int)]
def orow (o:Nat):List Value:=[.int .i64 (o:Int)]
theorem prow_len (l:List (Nat×Nat)):∀ r∈l.map prow,r.length=2:=by
 intro r hr
 obtain⟨p,_,rfl⟩:=List.mem_map.1 hr
 rfl
theorem orow_len (l:List Nat):∀ r∈l.map orow,r.length=1:=by
 intro r hr
 obtain⟨p,_,rfl⟩:=List.mem_map.1 hr
 rfl
structure Gath (n0:Nat) (L:List UInt8) (i:Nat) (t:Bool) (op:List Nat) (pr:List (Nat×Nat)) (A:Option Addr) (c:Nat) (B:Option Addr) (d:Nat) (w:World):Prop where
 sc:Sc L i t op pr
 pown:w.ownsRow n0 40 2 (.slice A pr.length c) pr.length (pr.map prow).flatten
 oown:w.ownsRow n0 3 1 (.slice B op.length d) op.length (op.map orow).flatten
 ne:∀ a b,A=some a→B=some b→a.block≠b.block
section
variable {n0:Nat} {L:List UInt8} {i j:Nat} {t t':Bool} {op:List Nat} {pr:List (Nat×Nat)} {A B:Option Addr} {c d:Nat} {w w1 w2:World}
theorem Gath.start (n0:Nat) (L:List UInt8) (w:World):Gath n0 L 0 false [] [] none 0 none 0 w:=⟨Sc.start L,World.ownsRow_nil _ _ _ _,World.ownsRow_nil _ _ _ _,fun a b h=>by cases h⟩
theorem Gath.to (h:Gath n0 L i t op pr A c B d w) (hs:Sc L j t' op pr):Gath n0 L j t' op pr A c B d w:=⟨hs,h.pown,h.oown,h.ne⟩
theorem Gath.shut (h:Gath n0 L i t op pr A c B d w) (hs:Sc L j t' op.dropLast pr):Gath n0 L j t' op.dropLast pr A c B d w:=by
 have h1:=own_first h.oown (orow_len op) (by simp) (op.length-1) (by omega)
 have e:(op.map orow).take (op.length-1)=op.dropLast.map orow:=by rw[List.dropLast_eq_take,List.map_take]
 rw[e,show op.length-1=op.dropLast.length by simp] at h1
 exact⟨hs,h.pown,h1,h.ne⟩
theorem Gath.blkA (h:Gath n0 L i t op pr A c B d w) {a:Addr} (ha:A=some a):n0≤a.block∧a.block<w.heap.size:=h.pown.lt a.block (by rw[ha];rfl)
theorem Gath.blkB (h:Gath n0 L i t op pr A c B d w) {a:Addr} (ha:B=some a):n0≤a.block∧a.block<w.heap.size:=h.oown.lt a.block (by rw[ha];rfl)
theorem Gath.opened (h:Gath n0 L i t op pr A c B d w) (hs:Sc L j t' (op++[i]) pr) {o:Obj} {A2:Option Addr} {c2:Nat} (hown:w2.ownsRow n0 3 1 (.slice A2 (op.length+1) c2) (op.length+1) (op.map orow++[orow i]).flatten)
  (hb:But (fun k=>B.map (·.block)=some k) (w.alloc o) w2) (hf:∀ a2,A2=some a2→B=some a2∨(w.alloc o).heap.size≤a2.block):Gath n0 L j t' (op++[i]) pr A c A2 c2 w2:=by
 refine⟨hs,own_but (h.pown.alloc o) hb (fun g hg e=>?_),by simpa using hown,fun a b ha hb2=>?_⟩
 ·cases A with
  | none=>cases hg
  | some a =>
   cases B with
   | none=>cases e
   | some b =>
    have e1:a.block=g:=by simpa [Value.ownBlock] using hg
    have e2:b.block=g:=by simpa using e
    exact h.ne a b rfl rfl (by omega)
 ·rcases hf b hb2 with e|e
  ·exact h.ne a b ha e
  ·have:=h.blkA ha
   simp at e
   omega
theorem Gath.paired {q:Nat×Nat} (h:Gath n0 L i t op pr A c B d w) (hs:Sc L j t' op (pr++[q])) {o:Obj} {A2:Option Addr} {c2:Nat} (hown:w2.ownsRow n0 40 2 (.slice A2 (pr.length+1) c2) (pr.length+1) (pr.map prow++[prow q]).flatten)
  (hb:But (fun k=>A.map (·.block)=some k) (w.alloc o) w2) (hf:∀ a2,A2=some a2→A=some a2∨(w.alloc o).heap.size≤a2.block):Gath n0 L j t' op (pr++[q]) A2 c2 B d w2:=by
 refine⟨hs,by simpa using hown,own_but (h.oown.alloc o) hb (fun g hg e=>?_),fun a b ha hb2=>?_⟩
 ·cases B with
  | none=>cases hg
  | some b =>
   cases A with
   | none=>cases e
   | some a =>
    have e1:b.block=g:=by simpa [Value.ownBlock] using hg
    have e2:a.block=g:=by simpa using e
    exact h.ne a b rfl rfl (by omega)
 ·rcases hf a ha with e|e
  ·exact h.ne a b e hb2
  ·have:=h.blkB hb2
   simp at e
   omega
theorem Gath.last (h:Gath n0 L i t op pr A c B d w) (h0:0<op.length):∃ b o,B=some ⟨b,0,none⟩∧b<w.heap.size∧o∈op∧w.cell? ⟨b,op.length-1,none⟩=some (.int .i64 (o:Nat)):=by
 have hr:=RowsAt.of_own h.oown (orow_len op) (by simp)
 have hx:op[op.length-1]?=some (op[op.length-1]'(by omega)):=List.getElem?_eq_getElem _
 obtain⟨b,o,hB,hb,hc⟩:=hr.at_ (op.length-1) (orow (op[op.length-1]'(by omega))) (by rw[List.getElem?_map,hx];rfl)
 have hz:=hc 0 (.int .i64 ((op[op.length-1]'(by omega):Nat):Int)) rfl
 rcases h.oown.2 with ⟨e,_⟩|⟨g,cap,cur,e,_⟩
 ·injection e with e1 e2 e3;omega
 ·injection e with e1
  rw[hB] at e1
  injection e1 with e1
  injection e1 with e1 e2
  subst e1 e2
  exact⟨b,_,hB,hb,List.getElem_mem _,by simpa using hz⟩
theorem Gath.any (h:Gath n0 L i t op pr A c B d w) {k:Nat} (hk:k<pr.length):∃ b p,A=some ⟨b,0,none⟩∧b<w.heap.size∧p∈pr∧w.cell? ⟨b,k*2,none⟩=some (.int .i64 (p.1:Nat))∧w.cell? ⟨b,k*2+1,none⟩=some (.int .i64 (p.2:Nat)):=by
 have hr:=RowsAt.of_own h.pown (prow_len pr) (by simp)
 have hx:pr[k]?=some (pr[k]'hk):=List.getElem?_eq_getElem _
 obtain⟨b,o,hB,hb,hc⟩:=hr.at_ k (prow (pr[k]'hk)) (by rw[List.getElem?_map,hx];rfl)
 have hz:=hc 0 (.int .i64 ((pr[k]'hk).1:Int)) rfl
 have hy:=hc 1 (.int .i64 ((pr[k]'hk).2:Int)) rfl
 rcases h.pown.2 with ⟨e,_⟩|⟨g,cap,cur,e,_⟩
 ·injection e with e1 e2 e3;omega
 ·injection e with e1
  rw[hB] at e1
  injection e1 with e1
  injection e1 with e1 e2
  subst e1 e2
  exact⟨b,_,hB,hb,List.getElem_mem _,by simpa using hz,by simpa using hy⟩
end
open Go.RowKit Go.Afx
theorem blk6 {w:World} {g:Nat} {T:TypeId} {v0 v1 v2 v3 v4 v5:Value} (h:IsBlk w g T #[v0,v1,v2,v3,v4,v5]):w.cell? ⟨g,0,none⟩=some v0∧w.cell? ⟨g,1,none⟩=some v1∧w.cell? ⟨g,2,none⟩=some v2∧w.cell? ⟨g,3,none⟩=some v3∧w.cell? ⟨g,4,none⟩=some v4∧w.cell? ⟨g,5,none⟩=some v5∧g<w.heap.size:=by
 have h0:=h.cell 0;have h1:=h.cell 1;have h2:=h.cell 2;have h3:=h.cell 3;have h4:=h.cell 4;have h5:=h.cell 5
 simp at h0 h1 h2 h3 h4 h5
 exact⟨h0,h1,h2,h3,h4,h5,h.lt⟩
def TrueB (w:World) (x:Ending) (w':World):Prop:=x=.returned (.bool true)∧Below w.heap.size w w'
theorem oneE_any (F G:Nat→Prop):∀ (d:Nat) (e:Ex) (r1 r2:List Value) (w:World),ExAt F d w r1 e→ExAt G d w r2 e→Calls Tryz.prog 10 #[.agg r1.toArray,.agg r2.toArray] w (TrueB w):=by
 intro d
 induction d with
 | zero=>intro e r1 r2 w h;exact h.elim
 | succ d ih =>
  intro e r1 r2 w h1 h2
  obtain⟨_,_,_,_,_,A,n,c,rfl,hl1⟩:=h1.open_
  obtain⟨_,_,_,_,_,A',n',c',rfl,hl2⟩:=h2.open_
  obtain rfl:n=n':=by rw[← LsAt.len hl1,← LsAt.len hl2]
  have hn:=LsAt.n_le hl1
  obtain⟨w1,Hw1⟩:∃ w1,Hid (w1=(w.alloc (.cells #[.int .i64 e.op,.int .i64 e.n,.string e.s,.string e.name,.string e.src,.slice A n c] 32)).alloc (.cells #[.int .i64 e.op,.int .i64 e.n,.string e.s,.string e.name,.string e.src,.slice A' n c'] 32)):=⟨_,rfl⟩
  have hb1:Below w.heap.size w w1:=by rw[Hw1.out];exact((Below.refl _ _).alloc (Nat.le_refl _) _).alloc (by simp) _
  have hkx:IsBlk w1 w.heap.size 32 #[.int .i64 e.op,.int .i64 e.n,.string e.s,.string e.name,.string e.src,.slice A n c]:=by rw[Hw1.out];exact(IsBlk.laid _ _ _).alloc _
  have hky:IsBlk w1 (w.heap.size+1) 32 #[.int .i64 e.op,.int .i64 e.n,.string e.s,.string e.name,.string e.src,.slice A' n c']:=by
   rw[Hw1.out]
   have h:=IsBlk.laid (w.alloc (.cells #[.int .i64 e.op,.int .i64 e.n,.string e.s,.string e.name,.string e.src,.slice A n c] 32)) 32 #[.int .i64 e.op,.int .i64 e.n,.string e.s,.string e.name,.string e.src,.slice A' n c']
   simpa using h
  obtain⟨x0,x1,x2,x3,x4,x5,xl⟩:=blk6 hkx
  obtain⟨y0,y1,y2,y3,y4,y5,yl⟩:=blk6 hky
  have Hb1:=Lhd hb1
  have Hkx:=Lhd hkx
  have Hky:=Lhd hky
  have Hl:=Lhd (And.intro hl1 hl2)
  have Hih:=Lhd ih
  clear hb1 hkx hky hl1 hl2 ih h1 h2
  go_enter Tryz.func10,Tryz.ntmps10
  go_upto_region 1 with (fail)
  rw[← Hw1.out]
  go_wp2
  clear x0 x1 x2 x3 x4 x5 xl y0 y1 y2 y3 y4 y5 yl
  go_loopw [5] (fun i wr=>∃ k:Nat,k≤n∧i=.int .i64 k∧Below w1.heap.size w1 wr) (fun i _=>n-(intOf i).toNat)
  case atStart=>exact⟨0,Nat.zero_le _,rfl,Below.refl _ _⟩
  case round =>
   obtain⟨k,hk,rfl,hb⟩:=hrel
   have hkx:=Hkx.out.as_was (hb.block _ Hkx.out.lt)
   have hky:=Hky.out.as_was (hb.block _ Hky.out.lt)
   obtain⟨x0,x1,x2,x3,x4,x5,xl⟩:=blk6 hkx
   obtain⟨y0,y1,y2,y3,y4,y5,yl⟩:=blk6 hky
   have hbb:=Hb1.out.trans (hb.mono Hb1.out.size)
   by_cases hlt:k<n
   ·have hl1:=ExsAt.below Hl.out.1 hbb
    have hl2:=ExsAt.below Hl.out.2 hbb
    cases d with
    | zero =>
     obtain⟨b,o,r,x,_,_,_,_,_,hp,_⟩:=LsAt.get hl1 hlt
     exact hp.elim
    | succ d =>
     obtain⟨b,o,x,A2,m2,c2,rfl,hbl,hx,z0,z1,z2,z3,z4,z5,hxx,_⟩:=hl1.get hlt
     obtain⟨b',o',x',A3,m3,c3,rfl,hbl',hx',v0,v1,v2,v3,v4,v5,hyy,_⟩:=hl2.get hlt
     obtain rfl:x=x':=Option.some.inj (hx.symm.trans hx')
     have hc:=Hih.out x _ _ wr.drew (ExAt.below hxx (Below.refl _ _).drew) (ExAt.below hyy (Below.refl _ _).drew)
     have Hc:=Lhd hc
     have Hb:=Lhd hb
     clear hc hl1 hl2 hxx hyy hx hx' hbb hkx hky hb
     go_upto_region 6 with (fail)
     go_still_tail 10,(by kernel_rfl)
     change wpList _ _ _ _ _ wr.drew
     go_wp2_with (fail)
     refine Hc.out.mono ?_
     rintro y w4 ⟨rfl,hb4⟩
     have Hb4:=Lhd (Hb.out.trans (((Below.refl wr.heap.size wr).drew.trans hb4).mono Hb.out.size))
     clear hb4
     go_wp2
     go_roundw
     case rel=>exact⟨k+1,by omega,by go_num,Hb4.out⟩
     case measure=>simp[intOf];omega
   ·have Hbb:=Lhd hbb
    clear hkx hky hbb hb
    go_wp2
    go_ret
    exact⟨rfl,Hbb.out⟩
theorem tl_inj {a b:ByteArray} (h:a.toList=b.toList):a=b:=WideShapes.bytes_inj (by rw[← ByteArray.toList_eq,← ByteArray.toList_eq,h])
def TellsB (w:World) (P:Prop) (e:Ending) (w':World):Prop:=∃ b:Bool,e=.returned (.bool b)∧(b=true→P)∧Below w.heap.size w w'
theorem TellsB.no {w w':World} {P:Prop} (hb:Below w.heap.size w w'):TellsB w P (.returned (.bool false)) w':=⟨false,rfl,(fun h=>by cases h),hb⟩
theorem argsEq {l l':List Ex} (h:l.length=l'.length) (hk:∀ j,j<l.length→l[j]?=l'[j]?):l=l' :=
 List.ext_getElem? fun j=>by
  rcases Nat.lt_or_ge j l.length with hj|hj
  ·exact hk j hj
  ·rw[List.getElem?_eq_none hj,List.getElem?_eq_none (by omega)]
theorem sameEW_any (F G:Nat→Prop):∀ (d:Nat) (x y:Ex) (r1 r2:List Value) (w:World),ExAt F d w r1 x→ExAt G d w r2 y→Calls Tryz.prog 10 #[.agg r1.toArray,.agg r2.toArray] w (TellsB w (x=y)):=by
 intro d
 induction d with
 | zero=>intro x y r1 r2 w h;exact h.elim
 | succ d ih =>
  intro x y r1 r2 w h1 h2
  obtain⟨_,_,_,_,_,A,n,c,rfl,hl1⟩:=h1.open_
  obtain⟨_,_,_,_,_,A',n',c',rfl,hl2⟩:=h2.open_
  have hn:=LsAt.n_le hl1
  have hn':=LsAt.n_le hl2
  have hle:=LsAt.len hl1
  have hle':=LsAt.len hl2
  obtain⟨op,k,s,nm,sr,args⟩:=x
  obtain⟨op',k',s',nm',sr',args'⟩:=y
  simp only[Ex.op,Ex.n,Ex.s,Ex.name,Ex.src,Ex.args] at *
  obtain⟨w1,Hw1⟩:∃ w1,Hid (w1=(w.alloc (.cells #[.int .i64 op,.int .i64 k,.string s,.string nm,.string sr,.slice A n c] 32)).alloc (.cells #[.int .i64 op',.int .i64 k',.string s',.string nm',.string sr',.slice A' n' c'] 32)):=⟨_,rfl⟩
  have hb1:Below w.heap.size w w1:=by rw[Hw1.out];exact((Below.refl _ _).alloc (Nat.le_refl _) _).alloc (by simp) _
  have hkx:IsBlk w1 w.heap.size 32 #[.int .i64 op,.int .i64 k,.string s,.string nm,.string sr,.slice A n c]:=by rw[Hw1.out];exact(IsBlk.laid _ _ _).alloc _
  have hky:IsBlk w1 (w.heap.size+1) 32 #[.int .i64 op',.int .i64 k',.string s',.string nm',.string sr',.slice A' n' c']:=by
   rw[Hw1.out]
   have h:=IsBlk.laid (w.alloc (.cells #[.int .i64 op,.int .i64 k,.string s,.string nm,.string sr,.slice A n c] 32)) 32 #[.int .i64 op',.int .i64 k',.string s',.string nm',.string sr',.slice A' n' c']
   simpa using h
  obtain⟨x0,x1,x2,x3,x4,x5,xl⟩:=blk6 hkx
  obtain⟨y0,y1,y2,y3,y4,y5,yl⟩:=blk6 hky
  have Hb1:=Lhd hb1
  have Hkx:=Lhd hkx
  have Hky:=Lhd hky
  have Hl:=Lhd (And.intro hl1 hl2)
  have Hih:=Lhd ih
  have Hle:=Lhd (And.intro hle hle')
  clear hb1 hkx hky hl1 hl2 ih h1 h2 hle hle'
  go_enter Tryz.func10,Tryz.ntmps10
  go_upto_region 1 with (fail)
  rw[← Hw1.out]
  by_cases t0:op=op'
  rotate_left
  ·have t0:(op !=op')=true:=by simpa using t0
   (go_wp2;go_ret;exact TellsB.no Hb1.out)
  subst t0
  by_cases t1:k=k'
  rotate_left
  ·have t1:(k !=k')=true:=by simpa using t1
   (go_wp2;go_ret;exact TellsB.no Hb1.out)
  subst t1
  by_cases t2:s.toList=s'.toList
  rotate_left
  ·(go_wp2;go_ret;exact TellsB.no Hb1.out)
  obtain rfl:=tl_inj t2
  clear t2
  by_cases t3:nm.toList=nm'.toList
  rotate_left
  ·(go_wp2;go_ret;exact TellsB.no Hb1.out)
  obtain rfl:=tl_inj t3
  clear t3
  by_cases t4:sr.toList=sr'.toList
  rotate_left
  ·(go_wp2;go_ret;exact TellsB.no Hb1.out)
  obtain rfl:=tl_inj t4
  clear t4
  by_cases t5:n=n'
  rotate_left
  ·have t5:((n:Int) !=(n':Int))=true:=by simp;omega
   (go_wp2;go_ret;exact TellsB.no Hb1.out)
  subst t5
  go_wp2
  clear x0 x1 x2 x3 x4 x5 xl y0 y1 y2 y3 y4 y5 yl
  go_loopw [5] (fun i wr=>∃ k:Nat,k≤n∧i=.int .i64 k∧(∀ j,j<k→args[j]?=args'[j]?)∧Below w1.heap.size w1 wr) (fun i _=>n-(intOf i).toNat)
  case atStart=>exact⟨0,Nat.zero_le _,rfl,(fun j hj=>by omega),Below.refl _ _⟩
  case round =>
   obtain⟨q,hq,rfl,heq,hb⟩:=hrel
   have hkx:=Hkx.out.as_was (hb.block _ Hkx.out.lt)
   have hky:=Hky.out.as_was (hb.block _ Hky.out.lt)
   obtain⟨x0,x1,x2,x3,x4,x5,xl⟩:=blk6 hkx
   obtain⟨y0,y1,y2,y3,y4,y5,yl⟩:=blk6 hky
   have hbb:=Hb1.out.trans (hb.mono Hb1.out.size)
   have Heq:=Lhd heq
   clear heq
   by_cases hlt:q<n
   ·have hl1:=ExsAt.below Hl.out.1 hbb
    have hl2:=ExsAt.below Hl.out.2 hbb
    cases d with
    | zero =>
     obtain⟨b,o,r,x,_,_,_,_,_,hp,_⟩:=LsAt.get hl1 hlt
     exact hp.elim
    | succ d =>
     obtain⟨b,o,x,A2,m2,c2,rfl,hbl,hx,z0,z1,z2,z3,z4,z5,hxx,_⟩:=hl1.get hlt
     obtain⟨b',o',x',A3,m3,c3,rfl,hbl',hx',v0,v1,v2,v3,v4,v5,hyy,_⟩:=hl2.get hlt
     have hc:=Hih.out x x' _ _ wr.drew (ExAt.below hxx (Below.refl _ _).drew) (ExAt.below hyy (Below.refl _ _).drew)
     have Hc:=Lhd hc
     have Hb:=Lhd hb
     have Hx:=Lhd (And.intro hx hx')
     clear hc hl1 hl2 hxx hyy hx hx' hbb hkx hky hb
     go_upto_region 6 with (fail)
     go_still_tail 10,(by kernel_rfl)
     change wpList _ _ _ _ _ wr.drew
     go_wp2_with (fail)
     refine Hc.out.mono ?_
     rintro y w4 ⟨b,rfl,hyes,hb4⟩
     have Hb4:=Lhd (Hb.out.trans (((Below.refl wr.heap.size wr).drew.trans hb4).mono Hb.out.size))
     have Hyes:=Lhd hyes
     clear hb4 hyes
     cases b
     ·go_wp2
      go_ret
      exact TellsB.no (Hb1.out.trans (Hb4.out.mono Hb1.out.size))
     ·go_wp2
      go_roundw
      case rel=>exact⟨q+1,by omega,by go_num,(fun j hj=>by
       rcases Nat.lt_or_ge j q with h|h
       ·exact Heq.out j h
       ·obtain rfl:j=q:=by omega
        rw[Hx.out.1,Hx.out.2,Hyes.out (by simp)]),Hb4.out⟩
      case measure=>simp[intOf];omega
   ·have Hbb:=Lhd hbb
    clear hkx hky hbb hb
    go_wp2
    go_ret
    refine⟨true,rfl,fun _=>?_,Hbb.out⟩
    rw[argsEq (l:=args) (l':=args') (by rw[Hle.out.1,Hle.out.2]) (fun j hj=>Heq.out j (by have:=Hle.out.1;omega))]
end Go.Proofs.YtdgapmnojmhllaaGreatDoor

/- Parts of this proof, one behind the other: ParE0, ParU, ParQ, LexP, RtA, RtB. -/
import Derived.Test.YtdgapmnojmhllaaGreatDoorPf20
import Derived.Test.YtdgapmnojmhllaaGreatDoorPf2
import Derived.Test.YtdgapmnojmhllaaGreatDoorPf19
import Derived.Test.YtdgapmnojmhllaaGreatDoorPf18
set_option maxRecDepth 1000000
set_option maxHeartbeats 40000000
namespace Go.Proofs.YtdgapmnojmhllaaGreatDoor
open Go.RowKit Go.Afx
def Fit (W:Wds) (m:Nat) (s:PSt):Prop:=s.bad=true∨W.l.length<s.at_+m
def Up {α:Type} (one:PSt→α×PSt):Prop:=∀ s,s.at_≤(one s).2.at_∧(s.bad=true→(one s).2.bad=true)
theorem Fit.up {W:Wds} {m:Nat} {s:PSt} {α:Type} {one:PSt→α×PSt} (h:Fit W m s) (hu:Up one):Fit W m (one s).2:=by
 obtain⟨h1,h2⟩:=hu s
 rcases h with h|h
 ·exact .inl (h2 h)
 ·exact .inr (by omega)
theorem Fit.more {W:Wds} {m m':Nat} {s:PSt} (h:Fit W m s) (hm:m≤m'):Fit W m' s:=h.imp id (fun h=>by omega)
theorem Fit.on {W:Wds} {m:Nat} {s:PSt} (h:Fit W (m+1) s):Fit W m s.on:=h.imp id (fun h=>by show _<s.at_+1+m;omega)
def Fr (w:World):Nat→Prop:=fun b=>w.heap.size≤b
def GivesE (gp gc gw:Nat) (W:Wds) (s':PSt) (x:Ex) (w:World) (e:Ending) (w':World):Prop:=∃ row D,e=.returned (.agg row.toArray)∧ExAt (Fr w) D w' row x∧PAt gp gc gw W s' w'∧But (On2 gp gc) w w'
def TakesE (gp gc gw:Nat) (W:Wds) (f:FuncId) (one:PSt→Ex×PSt) (m:Nat):Prop:=∀ s w,PAt gp gc gw W s w→Fit W m s→Calls Tryz.prog f #[.pointer (some ⟨gp,0,none⟩)] w (GivesE gp gc gw W (one s).2 (one s).1 w)
theorem fr_on2 {gp gc:Nat} {w2 w3:World} {F:Nat→Prop} (h:But (On2 gp gc) w2 w3) (hF:∀ k,F k→gp<k∧gc<k):Kept F w2 w3:=Kept.of_but h fun k hk hs=>by
 obtain⟨h1,h2⟩:=hF k hk
 rcases hs with e|e<;>omega
theorem opP_cases (W:Wds) (s:PSt):∀ (l:List (ByteArray×Int)),opP W l s=(0,s)∨∃ p∈l,opP W l s=(p.2,s.on)∧s.bad=false∧s.at_<W.l.length:=by
 intro l
 induction l with
 | nil=>exact .inl rfl
 | cons p l ih =>
  obtain⟨t,op⟩:=p
  cases hv:(mayP W t s).1 with
  | true =>
   right
   refine⟨(t,op),by simp,?_⟩
   have e:mayP W t s=(true,s.on):=by
    unfold mayP at hv ⊢
    split at hv
    ·rename_i h;rw[if_pos h]
    ·cases hv
   have e2:opP W ((t,op)::l) s=(op,(mayP W t s).2):=by
    show (if (mayP W t s).1 then _ else _)=_
    rw[hv,if_pos rfl]
   rw[e2,e]
   unfold mayP isP at hv
   split at hv
   ·rename_i h
    simp only[Bool.and_eq_true,Bool.not_eq_true'] at h
    exact⟨rfl,h.1,says_in h.2⟩
   ·cases hv
  | false =>
   have e2:opP W ((t,op)::l) s=opP W l s:=by
    show (if (mayP W t s).1 then _ else _)=_
    rw[hv,if_neg (by decide)]
   rw[e2]
   rcases ih with h|⟨p,hp,h⟩
   ·exact .inl h
   ·exact .inr ⟨p,by simp[hp],h⟩
def contC (W:Wds) (l:List (ByteArray×Int)) (one:PSt→Ex×PSt) (k:Nat) (op:Int) (e:Ex) (s:PSt):Ex×PSt:=if op=0 then (e,s) else chainP W l one k (twoP op e (one s).1) (one s).2
theorem chain_cont (W:Wds) (l:List (ByteArray×Int)) (one:PSt→Ex×PSt) (k:Nat) (e:Ex) (s:PSt):chainP W l one (k+1) e s=contC W l one k (opP W l s).1 e (opP W l s).2:=rfl
theorem step_fit {W:Wds} {l:List (ByteArray×Int)} {s:PSt} {k m:Nat} (h1:Fit W (k+1) s) (h2:Fit W m s) (hop:∀ p∈l,1≤p.2∧p.2≤100) :
  Fit W (k+1) (opP W l s).2∧((opP W l s).1≠0→1≤(opP W l s).1∧(opP W l s).1≤100∧1≤k∧Fit W k (opP W l s).2∧Fit W m (opP W l s).2):=by
 rcases opP_cases W s l with h|⟨p,hp,h,hb,hlt⟩
 ·rw[h];exact⟨h1,fun h=>absurd rfl h⟩
 ·rw[h]
  obtain⟨h3,h4⟩:=hop p hp
  have h1:W.l.length<s.at_+(k+1):=h1.elim (fun h=>by rw[hb] at h;cases h) id
  have h2:W.l.length<s.at_+m:=h2.elim (fun h=>by rw[hb] at h;cases h) id
  exact⟨.inr (by show _<s.at_+1+(k+1);omega),fun _=>⟨h3,h4,by omega,.inr (by show _<s.at_+1+k;omega),.inr (by show _<s.at_+1+m;omega)⟩⟩
theorem op_more {W:Wds} {l:List (ByteArray×Int)} {s:PSt}:s.at_+(if (opP W l s).1=0 then 0 else 1)≤(opP W l s).2.at_:=by
 rcases opP_cases W s l with h|⟨p,hp,h,hb,hlt⟩
 ·rw[h];simp
 ·rw[h]
  show _≤s.at_+1
  split<;>omega
def atOf (w:World) (gc:Nat):Nat:=match w.cell? ⟨gc,0,none⟩ with|some (.int _ a)=>a.toNat|_=>0
theorem atOf_eq {gp gc gw:Nat} {W:Wds} {s:PSt} {w:World} (h:PAt gp gc gw W s w):atOf w gc=s.at_:=by
 obtain⟨⟨A,n,c,hk,_⟩,_⟩:=h.cu
 unfold atOf
 rw[(cells3 hk).1]
 simp
theorem PAt.le {gp gc gw:Nat} {W:Wds} {s:PSt} {w:World} (h:PAt gp gc gw W s w):s.at_≤W.l.length:=h.cu.le
theorem on2_blk {gp gc g:Nat} {w w':World} {T:TypeId} {cs:Array Value} (h:IsBlk w g T cs) (hb:But (On2 gp gc) w w') (hg:gp<g∧gc<g):IsBlk w' g T cs :=
 h.as_was (hb.block _ h.lt (by rintro(e|e)<;>omega))
theorem cells2 {w:World} {g:Nat} {T:TypeId} {v0 v1:Value} (h:IsBlk w g T #[v0,v1]):w.cell? ⟨g,0,none⟩=some v0∧w.cell? ⟨g,1,none⟩=some v1∧g<w.heap.size:=by
 have h0:=h.cell 0;have h1:=h.cell 1
 simp at h0 h1
 exact⟨h0,h1,h.lt⟩
theorem cells6 {w:World} {g:Nat} {T:TypeId} {v0 v1 v2 v3 v4 v5:Value} (h:IsBlk w g T #[v0,v1,v2,v3,v4,v5]):w.cell? ⟨g,0,none⟩=some v0∧w.cell? ⟨g,1,none⟩=some v1∧w.cell? ⟨g,2,none⟩=some v2∧w.cell? ⟨g,3,none⟩=some v3∧w.cell? ⟨g,4,none⟩=some v4∧w.cell? ⟨g,5,none⟩=some v5∧g<w.heap.size:=by
 have h0:=h.cell 0;have h1:=h.cell 1;have h2:=h.cell 2;have h3:=h.cell 3;have h4:=h.cell 4;have h5:=h.cell 5
 simp at h0 h1 h2 h3 h4 h5
 exact⟨h0,h1,h2,h3,h4,h5,h.lt⟩
abbrev zero6:Array Value:=#[.int .i64 0,.int .i64 0,.string ⟨#[]⟩,.string ⟨#[]⟩,.string ⟨#[]⟩,.slice none 0 0]
def chM (W:Wds) (op:Int) (a:Nat):Nat:=2*(W.l.length-a)+(if op=0 then 0 else 1)
def lay6 (w:World) (g:Nat) (v0 v1 v2 v3 v4 v5:Value):World:=(((((w.setCell ⟨g,0,none⟩ v0).setCell ⟨g,1,none⟩ v1).setCell ⟨g,2,none⟩ v2).setCell ⟨g,3,none⟩ v3).setCell ⟨g,4,none⟩ v4).setCell ⟨g,5,none⟩ v5
theorem lay6_eq (w:World) (g:Nat) (v0 v1 v2 v3 v4 v5:Value):(((((w.setCell ⟨g,0,none⟩ v0).setCell ⟨g,1,none⟩ v1).setCell ⟨g,2,none⟩ v2).setCell ⟨g,3,none⟩ v3).setCell ⟨g,4,none⟩ v4).setCell ⟨g,5,none⟩ v5=lay6 w g v0 v1 v2 v3 v4 v5:=rfl
theorem lay6_blk {w:World} {g:Nat} {T:TypeId} {u0 u1 u2 u3 u4 u5:Value} (v0 v1 v2 v3 v4 v5:Value) (h:IsBlk w g T #[u0,u1,u2,u3,u4,u5]):IsBlk (lay6 w g v0 v1 v2 v3 v4 v5) g T #[v0,v1,v2,v3,v4,v5] :=
 (((((h.stored 0 v0).stored 1 v1).stored 2 v2).stored 3 v3).stored 4 v4).stored 5 v5
theorem lay6_but (w:World) (g:Nat) (v0 v1 v2 v3 v4 v5:Value):But (fun k=>k=g) w (lay6 w g v0 v1 v2 v3 v4 v5):=by
 have h:=But.refl (fun k=>k=g) w
 have h:=h.setCell (p:=⟨g,0,none⟩) (.inl rfl) v0
 have h:=h.setCell (p:=⟨g,1,none⟩) (.inl rfl) v1
 have h:=h.setCell (p:=⟨g,2,none⟩) (.inl rfl) v2
 have h:=h.setCell (p:=⟨g,3,none⟩) (.inl rfl) v3
 have h:=h.setCell (p:=⟨g,4,none⟩) (.inl rfl) v4
 exact h.setCell (p:=⟨g,5,none⟩) (.inl rfl) v5
def Ge (s s':PSt):Prop:=s.at_≤s'.at_∧(s.bad=true→s'.bad=true)
theorem Ge.refl (s:PSt):Ge s s:=⟨Nat.le_refl _,id⟩
theorem Ge.trans {a b c:PSt} (h:Ge a b) (k:Ge b c):Ge a c:=⟨Nat.le_trans h.1 k.1,fun x=>k.2 (h.2 x)⟩
theorem Fit.ge {W:Wds} {m:Nat} {s s':PSt} (h:Fit W m s) (hg:Ge s s'):Fit W m s':=h.imp (hg.2) (fun h=>by have:=hg.1;omega)
theorem ge_on (s:PSt):Ge s s.on:=⟨Nat.le_succ _,id⟩
theorem ge_fail (s:PSt):Ge s s.fail:=⟨Nat.le_refl _,fun _=>rfl⟩
theorem ge_may (W:Wds) (t:ByteArray) (s:PSt):Ge s (mayP W t s).2:=by
 unfold mayP
 split
 ·exact ge_on s
 ·exact Ge.refl s
theorem ge_must (W:Wds) (t:ByteArray) (s:PSt):Ge s (mustP W [t] s):=by
 unfold mustP mustP
 split
 ·exact ge_may W t s
 ·exact ge_fail s
theorem ge_enter (s:PSt):Ge s (enterP s):=by
 unfold enterP
 split
 ·exact⟨Nat.le_refl _,fun _=>rfl⟩
 ·exact⟨Nat.le_refl _,id⟩
theorem ge_leave (s:PSt):Ge s (leaveP s):=⟨Nat.le_refl _,id⟩
theorem up_name (W:Wds) (s:PSt):Ge s (nameP W s).2:=by
 unfold nameP
 split
 ·exact ge_fail s
 ·exact ge_on s
theorem up_op (W:Wds) (l:List (ByteArray×Int)) (s:PSt):Ge s (opP W l s).2:=by
 rcases opP_cases W s l with h|⟨p,_,h,_⟩
 ·rw[h];exact Ge.refl s
 ·rw[h];exact ge_on s
theorem up_chain (W:Wds) (l:List (ByteArray×Int)) {one:PSt→Ex×PSt} (h:∀ s,Ge s (one s).2):∀ (k:Nat) (e:Ex) (s:PSt),Ge s (chainP W l one k e s).2:=by
 intro k
 induction k with
 | zero=>exact fun e s=>Ge.refl s
 | succ k ih =>
  intro e s
  unfold chainP
  split
  ·exact up_op W l s
  ·exact(up_op W l s).trans ((h _).trans (ih _ _))
theorem up_chain1 (W:Wds) (l:List (ByteArray×Int)) {one:PSt→Ex×PSt} (h:∀ s,Ge s (one s).2) (s:PSt):Ge s (chain1 W l one s).2:=(h s).trans (up_chain W l h _ _ _)
theorem up_rows (W:Wds) (s:PSt):Ge s (rowsP W s).2:=(up_name W s).trans ((ge_must W _ _).trans (up_name W _))
section
variable (W:Wds) {E:PSt→Ex×PSt} (h:∀ s,Ge s (E s).2)
include h
theorem up_where (s:PSt):Ge s (whereP W E s).2:=by
 unfold whereP
 split
 ·exact(ge_may W _ s).trans (h _)
 ·exact Ge.refl s
omit h in
theorem up_foldOp (s:PSt):Ge s (foldOp W s).2:=by
 unfold foldOp
 split
 ·exact ge_may W _ s
 ·split
  ·exact ge_may W _ s
  ·split
   ·exact ge_may W _ s
   ·exact ge_must W _ s
theorem up_fold (s:PSt):Ge s (foldP W E s).2:=by
 have h1:=(up_foldOp W s).trans ((ge_must W (str [40]) _).trans ((ge_enter _).trans ((up_rows W _).trans (up_where W h _))))
 unfold foldP
 simp only
 split
 ·exact h1.trans ((ge_must W _ _).trans (ge_leave _))
 ·exact h1.trans ((ge_must W _ _).trans ((h _).trans ((ge_must W _ _).trans (ge_leave _))))
theorem up_paren (s:PSt):Ge s (parenP W E s).2:=(ge_must W _ s).trans ((ge_enter _).trans ((h _).trans ((ge_must W _ _).trans (ge_leave _))))
omit h in
theorem up_var (s:PSt):Ge s (varP W s).2:=by
 unfold varP
 simp only
 split
 ·exact(up_name W s).trans ((ge_may W _ _).trans (up_name W _))
 ·exact up_name W s
theorem up_single (s:PSt):Ge s (singleP W E s).2:=by
 unfold singleP
 repeat' split
 all_goals first|exact Ge.refl s|exact ge_on s|exact up_fold W h s|exact up_paren W h s|exact up_var W s
theorem up_signed:∀ (k:Nat) (s:PSt),Ge s (signedP W E k s).2:=by
 intro k
 induction k with
 | zero=>exact fun s=>Ge.refl s
 | succ k ih =>
  intro s
  unfold signedP
  split
  ·exact(ge_may W _ s).trans ((ge_enter _).trans ((ih _).trans (ge_leave _)))
  ·exact up_single W h s
theorem up_product (s:PSt):Ge s (productP W E s).2:=up_chain1 W _ (up_signed W h _) s
theorem up_sum (s:PSt):Ge s (sumP W E s).2:=up_chain1 W _ (up_product W h) s
theorem up_cmp (s:PSt):Ge s (cmpP W E s).2:=by
 unfold cmpP
 simp only
 split
 ·exact(up_sum W h s).trans (up_op W _ _)
 ·exact(up_sum W h s).trans ((up_op W _ _).trans (up_sum W h _))
theorem up_not:∀ (k:Nat) (s:PSt),Ge s (notP W E k s).2:=by
 intro k
 induction k with
 | zero=>exact fun s=>Ge.refl s
 | succ k ih =>
  intro s
  unfold notP
  split
  ·exact(ge_may W _ s).trans ((ge_enter _).trans ((ih _).trans (ge_leave _)))
  ·exact up_cmp W h s
theorem up_both (s:PSt):Ge s (bothP W E s).2:=up_chain1 W _ (up_not W h _) s
end
theorem up_expr (W:Wds):∀ (f:Nat) (s:PSt),Ge s (exprP W f s).2:=by
 intro f
 induction f with
 | zero=>exact fun s=>Ge.refl s
 | succ f ih=>exact fun s=>up_chain1 W _ (up_both W ih) s
end Go.Proofs.YtdgapmnojmhllaaGreatDoor
namespace Go.Afx
open Go.RowKit
section
variable (W:Wds)
def listP {α:Type} (one:PSt→α×PSt):Nat→List α→PSt→List α×PSt
 | 0,l,s=>(l,s)
 | f+1,l,s=>if (mayP W (str [44]) s).1 then listP one f (l++[(one (mayP W (str [44]) s).2).1]) (one (mayP W (str [44]) s).2).2 else (l,s)
def list1 {α:Type} (one:PSt→α×PSt) (s:PSt):List α×PSt:=listP W one W.fuel [(one s).1] (one s).2
def exprsP (s:PSt):List Ex×PSt:=list1 W (expr1 W) s
def st0:St:=.mk 0 nil0 nil0 0 [] [] [] []
def assignP (op:Int) (s:PSt):St×PSt :=
 let a:=nameP W s
 let e:=expr1 W (mustP W [(str [61])] a.2)
 (.mk op a.1 nil0 0 [] [e.1] [] [],e.2)
def intoP (op:Int) (s:PSt):St×PSt :=
 let a:=nameP W s
 let l:=exprsP W (enterP (mustP W [(str [40])] a.2))
 (.mk op nil0 a.1 0 [] l.1 [] [],leaveP (mustP W [(str [41])] l.2))
def setP (s:PSt):(ByteArray×Ex)×PSt :=
 let a:=nameP W s
 let e:=expr1 W (mustP W [(str [61])] a.2)
 ((a.1,e.1),e.2)
def changeP (s:PSt):St×PSt :=
 let r:=rowsP W s
 let a:=whereP W (expr1 W) r.2
 let l:=list1 W (setP W) (mustP W [(str [115,101,116])] a.2)
 (.mk 4 r.1.1 r.1.2 0 (l.1.map (·.1)) (a.1::l.1.map (·.2)) [] [],l.2)
def plainP (s:PSt):St×PSt :=
 if (mayP W (str [108,101,116]) s).1 then assignP W 1 (mayP W (str [108,101,116]) s).2
 else if (mayP W (str [115,101,116]) s).1 then assignP W 2 (mayP W (str [115,101,116]) s).2
 else if (mayP W (str [105,110,115,101,114,116]) s).1 then intoP W 3 (mayP W (str [105,110,115,101,114,116]) s).2
 else if (mayP W (str [101,109,105,116]) s).1 then intoP W 8 (mayP W (str [101,109,105,116]) s).2
 else if (mayP W (str [117,112,100,97,116,101]) s).1 then changeP W (mayP W (str [117,112,100,97,116,101]) s).2
 else if (mayP W (str [100,101,108,101,116,101]) s).1 then
  let r:=rowsP W (mayP W (str [100,101,108,101,116,101]) s).2
  let a:=whereP W (expr1 W) r.2
  (.mk 5 r.1.1 r.1.2 0 [] [a.1] [] [],a.2)
 else if (mayP W (str [97,98,111,114,116]) s).1 then
  let e:=expr1 W (mayP W (str [97,98,111,114,116]) s).2
  (.mk 9 nil0 nil0 0 [] [e.1] [] [],e.2)
 else if (mayP W (str [114,101,112,108,121]) s).1 then
  let l:=exprsP W (mayP W (str [114,101,112,108,121]) s).2
  (.mk 10 nil0 nil0 0 [] l.1 [] [],l.2)
 else (st0,s.fail)
def limitP (s:PSt):Int×PSt :=
 let s1:=if (W.look s.at_).kind=1∧(W.look s.at_).n=0 then s.fail else s
 (min (numP W s1).1 1001,(numP W s1).2)
section
variable (B:PSt→List St×PSt)
def forP (s:PSt):St×PSt :=
 let r:=rowsP W s
 let a:=whereP W (expr1 W) r.2
 let n:=if (mayP W (str [108,105,109,105,116]) a.2).1 then limitP W (mayP W (str [108,105,109,105,116]) a.2).2 else (0,a.2)
 let b:=B n.2
 (.mk 6 r.1.1 r.1.2 n.1 [] [a.1] b.1 [],b.2)
def ifP (s:PSt):St×PSt :=
 let e:=expr1 W s
 let b:=B e.2
 if (mayP W (str [101,108,115,101]) b.2).1 then (.mk 7 nil0 nil0 0 [] [e.1] b.1 (B (mayP W (str [101,108,115,101]) b.2).2).1,(B (mayP W (str [101,108,115,101]) b.2).2).2)
 else (.mk 7 nil0 nil0 0 [] [e.1] b.1 [],b.2)
def stmtP (s:PSt):St×PSt :=
 if (mayP W (str [102,111,114]) s).1 then forP W B (mayP W (str [102,111,114]) s).2
 else if (mayP W (str [105,102]) s).1 then ifP W B (mayP W (str [105,102]) s).2
 else
  let x:=plainP W s
  (x.1,mustP W [(str [59])] x.2)
end
def stmtsP (one:PSt→St×PSt):Nat→List St→PSt→List St×PSt
 | 0,l,s=>(l,s)
 | f+1,l,s=>if !s.bad&&!isP W s (str [125]) then stmtsP one f (l++[(one s).1]) (one s).2 else (l,s)
def blockP:Nat→PSt→List St×PSt
 | 0,s=>([],s)
 | f+1,s =>
  let l:=stmtsP W (stmtP W (blockP f)) W.fuel [] (enterP (mustP W [(str [123])] s))
  (l.1,leaveP (mustP W [(str [125])] l.2))
def block1 (s:PSt):List St×PSt:=blockP W W.fuel s
def kindP (s:PSt):Int×PSt :=
 if (mayP W (str [105,110,116]) s).1 then (1,(mayP W (str [105,110,116]) s).2) else if (mayP W (str [116,101,120,116]) s).1 then (2,(mayP W (str [116,101,120,116]) s).2) else if (mayP W (str [98,111,111,108]) s).1 then (3,(mayP W (str [98,111,111,108]) s).2) else (0,s.fail)
def paramP (s:PSt):Co×PSt :=
 let a:=nameP W s
 let k:=kindP W a.2
 (⟨a.1,k.1⟩,k.2)
def fuelP (s:PSt):Int×PSt:=if (mayP W (str [102,117,101,108]) s).1 then (min (numP W (mayP W (str [102,117,101,108]) s).2).1 2001,(numP W (mayP W (str [102,117,101,108]) s).2).2) else (100,s)
def procP (s:PSt):Pr×PSt :=
 let a:=nameP W (mustP W [(str [112,114,111,99])] s)
 let s1:=enterP (mustP W [(str [40])] a.2)
 let l:=if isP W s1 (str [41]) then ([],s1) else list1 W (paramP W) s1
 let s2:=leaveP (mustP W [(str [41])] l.2)
 let o:=if (mayP W (str [111,110]) s2).1 then nameP W (mayP W (str [111,110]) s2).2 else (nil0,s2)
 let f:=if (mayP W (str [111,110]) s2).1 then (nil0,o.2) else if (mayP W (str [102,114,111,109]) s2).1 then nameP W (mayP W (str [102,114,111,109]) s2).2 else (nil0,s2)
 let u:=fuelP W f.2
 let b:=block1 W u.2
 (⟨a.1,f.1,o.1,u.1,l.1,b.1⟩,b.2)
end
def PSt.start:PSt:=⟨0,0,false,false⟩
end Go.Afx
namespace Go.Afx
open Go.RowKit
def lexB (c:UInt8):Bool:=(decide (97≤c.toNat)&&decide (c.toNat≤122))||(decide (65≤c.toNat)&&decide (c.toNat≤90))||(decide (48≤c.toNat)&&decide (c.toNat≤57))||decide (c.toNat=95)
def wsB (c:UInt8):Bool:=decide (c.toNat=32)||decide (c.toNat=9)||decide (c.toNat=10)
def dgB (c:UInt8):Bool:=decide (48≤c.toNat)&&decide (c.toNat≤57)
def blk:Bool→List UInt8→Nat
 | _,[]=>0
 | true,c::r=>if c.toNat=10 then 1+blk false r else 1+blk true r
 | false,c::r=>if wsB c then 1+blk false r else if c.toNat=47∧r.head?=some 47 then 1+blk true r else 0
def numL (t:List UInt8):Nat:=t.foldl (fun a c=>10*a+(c.toNat-48)) 0
def parseN (t:List UInt8):Option Nat:=if (t.head?=some 48∧1<t.length)∨t.all dgB=false then none else if numL t≤9223372036854775807 then some (numL t) else none
def quo:List UInt8→List UInt8→Nat→Option (List UInt8×Nat)
 | [],_,_=>none
 | [c],acc,i=>if c.toNat=10 then none else if c.toNat=39 then some (acc,i+1) else none
 | c::d::r,acc,i=>if c.toNat=10 then none else if c.toNat=39 then (if d.toNat=39 then quo r (acc++[39]) (i+2) else some (acc,i+1)) else quo (d::r) (acc++[c]) (i+1)
def signsL:List (List UInt8):=[[60,61],[33,61],[62,61],[40],[41],[123],[125],[91],[93],[44],[59],[58],[46],[43],[45],[42],[47],[37],[60],[61],[62]]
structure Nx where
 kind:Int
 text:List UInt8
 n:Int
 len:Nat
def plainX (s:List UInt8):Option Nx :=
 if (s.takeWhile lexB).head?.any dgB then (parseN (s.takeWhile lexB)).map fun v=>⟨1,s.takeWhile lexB,v,(s.takeWhile lexB).length⟩
 else if namedB (str (s.takeWhile lexB)) then some ⟨3,s.takeWhile lexB,0,(s.takeWhile lexB).length⟩ else none
def quotedX (s:List UInt8):Option Nx:=match quo (s.drop 1) [] 1 with
 | none=>none
 | some (b,n)=>if b.length≤200 then some ⟨2,b,0,n⟩ else none
def signX (s:List UInt8):Option Nx:=(signsL.find? fun g=>g.isPrefixOf s).map fun g=>⟨0,g,0,g.length⟩
def nextX (s:List UInt8):Option Nx :=
 if s.head?.any lexB then plainX s else if s.head?.any (fun c=>c.toNat=39) then quotedX s else signX s
def conX (x:Wd):Nat ⊕ List Wd→Nat ⊕ List Wd
 | .inl e=>.inl e
 | .inr l=>.inr (x::l)
def appX (p:List Wd):Nat ⊕ List Wd→Nat ⊕ List Wd
 | .inl e=>.inl e
 | .inr l=>.inr (p++l)
def lexH:Nat→Nat→List UInt8→Nat ⊕ List Wd
 | 0,at_,_=>.inl at_
 | f+1,at_,s=>if s=[] then .inr [] else match nextX s with
  | none=>.inl at_
  | some x=>conX ⟨x.kind,str x.text,x.n,at_⟩ (lexH f (at_+x.len+blk false (s.drop x.len)) ((s.drop x.len).drop (blk false (s.drop x.len))))
def lexL (s:List UInt8):Nat ⊕ List Wd:=lexH (s.length+1) (blk false s) (s.drop (blk false s))
theorem appX_nil (r:Nat ⊕ List Wd):appX [] r=r:=by cases r<;>rfl
theorem appX_con (p:List Wd) (x:Wd) (r:Nat ⊕ List Wd):appX p (conX x r)=appX (p++[x]) r:=by
 cases r with
 | inl e=>rfl
 | inr l=>simp[appX,conX]
theorem blk_le:∀ (s:List UInt8) (b:Bool),blk b s≤s.length:=by
 intro s
 induction s with
 | nil=>intro b;cases b<;>simp[blk]
 | cons c r ih =>
  intro b
  have h1:=ih true
  have h2:=ih false
  cases b<;>simp only[blk,List.length_cons]<;>repeat' split
  all_goals omega
theorem blk_stop:∀ (s:List UInt8),(∀ c,(s.drop (blk false s)).head?=some c→wsB c=false)∧(∀ c,(s.drop (blk true s)).head?=some c→wsB c=false):=by
 intro s
 induction s with
 | nil=>simp[blk]
 | cons c r ih =>
  refine⟨fun d hd=>?_,fun d hd=>?_⟩
  ·unfold blk at hd
   split at hd
   ·rw[Nat.add_comm,List.drop_succ_cons] at hd;exact ih.1 d hd
   ·rename_i hw
    split at hd
    ·rw[Nat.add_comm,List.drop_succ_cons] at hd;exact ih.2 d hd
    ·simp at hd;subst hd;simpa using hw
  ·unfold blk at hd
   split at hd
   ·rw[Nat.add_comm,List.drop_succ_cons] at hd;exact ih.1 d hd
   ·rw[Nat.add_comm,List.drop_succ_cons] at hd;exact ih.2 d hd
theorem quo_len:∀ (k:Nat) (s acc:List UInt8) (i:Nat) (b:List UInt8) (n:Nat),s.length≤k→quo s acc i=some (b,n)→i+1≤n∧n≤i+s.length:=by
 intro k
 induction k with
 | zero=>intro s acc i b n hk h;cases s with
  | nil=>simp[quo] at h
  | cons c r=>simp at hk
 | succ k ih =>
  intro s acc i b n hk h
  match s with
  | []=>simp[quo] at h
  | [c] =>
   unfold quo at h
   split at h
   ·cases h
   ·split at h
    ·simp at h;simp;omega
    ·cases h
  | c :: d::r =>
   simp only[List.length_cons] at hk
   unfold quo at h
   split at h
   ·cases h
   ·split at h
    ·split at h
     ·have:=ih _ _ _ _ _ (by omega) h
      simp only[List.length_cons];omega
     ·simp at h;simp only[List.length_cons];omega
    ·have:=ih _ _ _ _ _ (by simp;omega) h
     simp only[List.length_cons] at this ⊢;omega
theorem next_len {s:List UInt8} {x:Nx} (h:nextX s=some x):1≤x.len∧x.len≤s.length:=by
 have htk:∀ (p:UInt8→Bool) (s:List UInt8),(s.takeWhile p).length≤s.length:=fun p s=>(List.takeWhile_prefix p).length_le
 unfold nextX at h
 split at h
 ·rename_i hp
  have h1:1≤(s.takeWhile lexB).length:=by
   cases s with
   | nil=>simp at hp
   | cons c r =>
    have hp:lexB c=true:=by simpa using hp
    rw[List.takeWhile_cons,if_pos hp];simp
  have h2:=htk lexB s
  unfold plainX at h
  split at h
  ·cases hn:parseN (s.takeWhile lexB) with
   | none=>rw[hn] at h;cases h
   | some v=>rw[hn] at h;cases h;exact⟨h1,h2⟩
  ·split at h
   ·cases h;exact⟨h1,h2⟩
   ·cases h
 ·split at h
  ·rename_i hq
   unfold quotedX at h
   split at h
   ·cases h
   ·rename_i b n hb
    split at h
    ·cases h
     have:=quo_len _ _ _ _ _ _ (Nat.le_refl _) hb
     cases s with
     | nil=>simp at hq
     | cons c r=>simp at this ⊢;omega
    ·cases h
  ·unfold signX at h
   cases hf:signsL.find? (fun g=>g.isPrefixOf s) with
   | none=>rw[hf] at h;cases h
   | some g =>
    rw[hf] at h
    cases h
    have h1:=List.find?_some hf
    have h2:=List.mem_of_find?_eq_some hf
    have h3:g.length≤s.length:=(List.isPrefixOf_iff_prefix.1 h1).length_le
    refine⟨?_,h3⟩
    revert h2
    have:∀ g∈signsL,1≤g.length:=by decide
    exact this g
end Go.Afx
namespace Go.Afx
open Go.RowKit
abbrev Key:=Int×ByteArray×Int
def Wd.key (x:Wd):Key:=(x.kind,x.text,x.n)
def sgK (t:List UInt8):Key:=(0,str t,0)
def nmK (t:List UInt8):Key:=(3,str t,0)
def idK (b:ByteArray):Key:=(3,b,0)
def keySays (k:Key) (t:ByteArray):Bool:=(decide (k.1=0)||decide (k.1=3))&&decide (k.2.1=t)
def headK (ks:List Key):Key:=ks.head?.getD (4,str [],0)
def At (W:Wds) (i:Nat) (ks:List Key):Prop:=(W.l.drop i).map Wd.key=ks∧i≤W.l.length
def stK (i:Nat) (k:Int):PSt:=⟨i,k,false,false⟩
theorem At.look {W:Wds} {i:Nat} {ks:List Key} (h:At W i ks):(W.look i).key=headK ks:=by
 obtain⟨rfl,_⟩:=h
 unfold headK Wds.look
 rw[List.head?_map,List.head?_drop]
 cases W.l[i]?<;>rfl
theorem At.next {W:Wds} {i:Nat} {k:Key} {ks:List Key} (h:At W i (k::ks)):At W (i+1) ks:=by
 obtain⟨h1,h2⟩:=h
 have h3:i<W.l.length:=by
  rcases Nat.lt_or_ge i W.l.length with h3|h3
  ·exact h3
  ·rw[List.drop_eq_nil_of_le h3] at h1;cases h1
 rw[List.drop_eq_getElem_cons h3] at h1
 exact⟨(List.cons.inj h1).2,h3⟩
theorem At.skip {W:Wds}:∀ {a:List Key} {i:Nat} {ks:List Key},At W i (a++ks)→At W (i+a.length) ks:=by
 intro a
 induction a with
 | nil=>intro i ks h;exact h
 | cons k a ih =>
  intro i ks h
  have:=ih (At.next h)
  rw[List.length_cons,show i+(a.length+1)=i+1+a.length by omega]
  exact this
theorem At.len {W:Wds} {i:Nat} {ks:List Key} (h:At W i ks):i+ks.length=W.l.length:=by
 obtain⟨rfl,h⟩:=h
 rw[List.length_map,List.length_drop];omega
section
variable {W:Wds} {i:Nat} {ks:List Key} {k:Int}
theorem isP_at (h:At W i ks) (t:ByteArray):isP W (stK i k) t=keySays (headK ks) t:=by
 have:=h.look
 unfold isP Wd.says keySays
 rw[← this]
 rfl
theorem mayP_at (h:At W i ks) (t:ByteArray):mayP W t (stK i k)=if keySays (headK ks) t then (true,stK (i+1) k) else (false,stK i k):=by
 unfold mayP
 rw[isP_at h]
 rfl
theorem may_yes' (h:At W i ks) {t:ByteArray} (ht:keySays (headK ks) t=true):mayP W t (stK i k)=(true,stK (i+1) k):=by rw[mayP_at h,ht];rfl
theorem may_no' (h:At W i ks) {t:ByteArray} (ht:keySays (headK ks) t=false):mayP W t (stK i k)=(false,stK i k):=by rw[mayP_at h,ht];rfl
theorem must_at (h:At W i ks) {t:ByteArray} (ht:keySays (headK ks) t=true):mustP W [t] (stK i k)=stK (i+1) k:=by
 unfold mustP
 rw[may_yes' h ht,if_pos rfl]
 rfl
theorem enter_at (h0:0≤k) (h1:k<60):enterP (stK i k)=stK i (k+1):=by
 have e:wrap64 (k+1)=k+1:=by unfold wrap64;omega
 unfold enterP upP stK
 simp only[e]
 rw[if_neg (by simp;omega)]
theorem leave_at (h0:0≤k) (h1:k<60):leaveP (stK i (k+1))=stK i k:=by
 have e:wrap64 (k+1-1)=k:=by unfold wrap64;omega
 unfold leaveP stK
 simp only[e]
theorem look_kind (h:At W i ks):(W.look i).kind=(headK ks).1:=by rw[← h.look];rfl
theorem look_text (h:At W i ks):(W.look i).text=(headK ks).2.1:=by rw[← h.look];rfl
theorem look_n (h:At W i ks):(W.look i).n=(headK ks).2.2:=by rw[← h.look];rfl
theorem name_at {b:ByteArray} (h:At W i (idK b::ks)) (hb:resB b=false):nameP W (stK i k)=(b,stK (i+1) k):=by
 have h1:(W.look (stK i k).at_).kind=3:=look_kind h
 have h2:(W.look (stK i k).at_).text=b:=look_text h
 unfold nameP
 rw[h1,h2,hb,if_neg (by simp[stK])]
 rfl
end
def NoneK (l:List (ByteArray×Int)) (ks:List Key):Prop:=∀ x∈l,keySays (headK ks) x.1=false
theorem op_none {W:Wds} {i:Nat} {ks:List Key} {k:Int} (h:At W i ks):∀ {l:List (ByteArray×Int)},NoneK l ks→opP W l (stK i k)=(0,stK i k):=by
 intro l
 induction l with
 | nil=>intro _;rfl
 | cons x l ih =>
  intro hn
  obtain⟨t,op⟩:=x
  unfold opP
  rw[may_no' h (hn (t,op) (by simp)),if_neg Bool.false_ne_true]
  exact ih (fun y hy=>hn y (by simp[hy]))
def opOf:List (ByteArray×Int)→Key→Int
 | [],_=>0
 | (t,op)::r,k=>if keySays k t then op else opOf r k
theorem op_some {W:Wds} {i:Nat} {ks:List Key} {k:Int} (h:At W i ks):∀ {l:List (ByteArray×Int)},(∀ x∈l,x.2≠0)→opOf l (headK ks)≠0→opP W l (stK i k)=(opOf l (headK ks),stK (i+1) k):=by
 intro l
 induction l with
 | nil=>intro _ h;exact absurd rfl h
 | cons x l ih =>
  intro hl h0
  obtain⟨t,op⟩:=x
  unfold opP
  unfold opOf at h0 ⊢
  cases hk:keySays (headK ks) t with
  | true=>rw[may_yes' h hk,if_pos rfl];rfl
  | false =>
   rw[may_no' h hk,if_neg Bool.false_ne_true]
   rw[hk,if_neg (by decide)] at h0
   exact ih (fun y hy=>hl y (by simp[hy])) h0
end Go.Afx
namespace Go.Afx
open Go.RowKit
def sgnK (op:Int):Key:=if op=17 then nmK [97,110,100] else if op=18 then nmK [111,114] else if op=19 then nmK [110,111,116] else if 21≤op then nmK (sgnL op) else sgK (sgnL op)
def lvlN (op:Int):Nat:=if op=18 then 1 else if op=17 then 2 else if op=19 then 3 else if 11≤op∧op≤16 then 4 else if 6≤op∧op≤7 then 5 else if 8≤op∧op≤10 then 6 else if op=20 then 7 else 8
theorem lvlN_eq {op:Int} (h1:1≤op) (h2:op≤24):lvlZ op=(lvlN op:Nat):=by
 rcases op_cases h1 h2 with rfl|rfl|rfl|rfl|rfl|rfl|rfl|rfl|rfl|rfl|rfl|rfl|rfl|rfl|rfl|rfl|rfl|rfl|rfl|rfl|rfl|rfl|rfl|rfl<;>decide
def opndK (L:Nat) (op:Int) (t:List Key):List Key:=if lvlN op<L then [sgK [40]]++t++[sgK [41]] else t
def whereK (op n:Int) (t:List Key):List Key:=if op=3∧n=1 then [] else nmK [119,104,101,114,101]::t
def rowsK (name src:ByteArray) (op n:Int) (t:List Key):List Key:=[idK name,nmK [105,110],idK src]++whereK op n t
def tokE:Nat→Ex→List Key
 | 0,_=>[]
 | d+1,e =>
  if e.op=1 then [(1,str (decS e.n),e.n)]
  else if e.op=2 then [(2,e.s,0)]
  else if e.op=3 then [nmK (if e.n=1 then trueL else falseL)]
  else if e.op=4 then [idK e.name]
  else if e.op=5 then [idK e.name,sgK [46],idK e.s]
  else match e.args with
   | []=>[]
   | a::r =>
    if e.op=19∨e.op=20 then sgnK e.op::opndK (lvlN e.op) a.op (tokE d a)
    else if 21≤e.op then [sgnK e.op,sgK [40]]++(rowsK e.name e.src a.op a.n (tokE d a)++((if e.op=21 then [] else sgK [58]::(match r with|[]=>[]|b::_=>tokE d b))++[sgK [41]]))
    else opndK (lvlN e.op+if lvlN e.op=4 then 1 else 0) a.op (tokE d a)++(sgnK e.op::(match r with|[]=>[]|b::_=>opndK (lvlN e.op+1) b.op (tokE d b)))
section
variable (W:Wds) (E:PSt→Ex×PSt)
def levP (g:Nat):Nat→PSt→Ex×PSt
 | 1=>chain1 W lvOr (bothP W E)
 | 2=>bothP W E
 | 3=>notP W E g
 | 4=>cmpP W E
 | 5=>sumP W E
 | 6=>productP W E
 | 7=>signedP W E g
 | _=>singleP W E
def isCh (L:Nat):Prop:=L=1∨L=2∨L=5∨L=6
instance (L:Nat):Decidable (isCh L):=by unfold isCh;exact inferInstance
def lstL (L:Nat):List (ByteArray×Int):=if L=1 then lvOr else if L=2 then lvAnd else if L=4 then lvCmp else if L=5 then lvSum else if L=6 then lvMul else []
theorem lev_ch {g L:Nat} (h:isCh L) (s:PSt):levP W E g L s=chainP W (lstL L) (levP W E W.fuel (L+1)) W.fuel (levP W E W.fuel (L+1) s).1 (levP W E W.fuel (L+1) s).2:=by
 rcases h with rfl|rfl|rfl|rfl<;>rfl
def Reach (g L:Nat) (s:PSt) (e:Ex) (s':PSt):Prop :=
 if isCh L then ∃ F,W.fuel≤F+(s'.at_-s.at_)∧levP W E g L s=chainP W (lstL L) (levP W E W.fuel (L+1)) F e s' else levP W E g L s=(e,s')
end
def NoOp (L:Nat) (ks:List Key):Prop:=(∀ M,L≤M→NoneK (lstL M) ks)∧keySays (headK ks) (str [46])=false
theorem NoOp.mono {L M:Nat} {ks:List Key} (h:NoOp L ks) (hL:L≤M):NoOp M ks:=⟨fun N hN=>h.1 N (Nat.le_trans hL hN),h.2⟩
theorem chain_end {W:Wds} {i:Nat} {ks:List Key} {k:Int} {l:List (ByteArray×Int)} {one:PSt→Ex×PSt} (h:At W i ks) (hn:NoneK l ks):∀ F e,chainP W l one F e (stK i k)=(e,stK i k):=by
 intro F e
 cases F with
 | zero=>rfl
 | succ F =>
  unfold chainP
  rw[op_none h hn,if_pos rfl]
theorem Reach.done {W:Wds} {E:PSt→Ex×PSt} {g L i j:Nat} {ks:List Key} {k:Int} {e:Ex} (h:Reach W E g L (stK i k) e (stK j k)) (hj:At W j ks) (hn:NoOp L ks):levP W E g L (stK i k)=(e,stK j k):=by
 unfold Reach at h
 split at h
 ·obtain⟨F,_,h⟩:=h
  rw[h]
  exact chain_end hj (hn.1 L (Nat.le_refl _)) F e
 ·exact h
theorem Reach.up {W:Wds} {E:PSt→Ex×PSt} {g L i j:Nat} {ks kz:List Key} {k:Int} {e:Ex} (hL:L<8) (hL1:1≤L) (hi:At W i kz) (h:levP W E W.fuel (L+1) (stK i k)=(e,stK j k)) (hg0:0<g) (hj:At W j ks) (hn:NoOp (if L=4 then 4 else L+1) ks)
  (h3:L=3→keySays (headK kz) (str [110,111,116])=false) (h7:L=7→keySays (headK kz) (str [45])=false):Reach W E g L (stK i k) e (stK j k):=by
 have hc:L=3∨L=4∨L=7∨isCh L:=by unfold isCh;omega
 obtain⟨g,rfl⟩:∃ m,g=m+1:=⟨g-1,by omega⟩
 unfold Reach
 rcases hc with rfl|rfl|rfl|hc
 ·rw[if_neg (by decide)]
  show notP W E (g+1) _=_
  unfold notP
  rw[may_no' hi (h3 rfl),if_neg Bool.false_ne_true]
  exact h
 ·rw[if_neg (by decide)]
  have h:sumP W E (stK i k)=(e,stK j k):=h
  show cmpP W E _=_
  unfold cmpP
  simp only
  rw[h]
  simp only
  have hn4:NoneK lvCmp ks:=hn.1 4 (by simp)
  rw[op_none hj hn4,if_pos rfl]
 ·rw[if_neg (by decide)]
  show signedP W E (g+1) _=_
  unfold signedP
  rw[may_no' hi (h7 rfl),if_neg Bool.false_ne_true]
  exact h
 ·rw[if_pos hc]
  refine⟨W.fuel,by omega,?_⟩
  rw[lev_ch W E hc,h]
end Go.Afx

/- Parts of this proof, one behind the other: ParY0. -/
import Derived.Test.YtgbgiknfejpcoaaGreatPx23
set_option maxRecDepth 1000000
set_option maxHeartbeats 40000000
namespace Go.Proofs.YtgbgiknfejpcoaaGreat
open Go.RowKit Go.Afx
theorem up_listP {α:Type} (W:Wds) {one:PSt→α×PSt} (h:∀ s,Ge s (one s).2):∀ (k:Nat) (l:List α) (s:PSt),Ge s (listP W one k l s).2:=by
 intro k
 induction k with
 | zero=>exact fun l s=>Ge.refl s
 | succ k ih =>
  intro l s
  unfold listP
  split
  ·exact(ge_may W _ s).trans ((h _).trans (ih _ _))
  ·exact Ge.refl s
theorem up_list1 {α:Type} (W:Wds) {one:PSt→α×PSt} (h:∀ s,Ge s (one s).2) (s:PSt):Ge s (list1 W one s).2:=(h s).trans (up_listP W h _ _ _)
theorem up_exprs (W:Wds) (s:PSt):Ge s (exprsP W s).2:=up_list1 W (up_expr1 W) s
theorem up_assign (W:Wds) (op:Int) (s:PSt):Ge s (assignP W op s).2:=(up_name W s).trans ((ge_must W _ _).trans (up_expr1 W _))
theorem up_into (W:Wds) (op:Int) (s:PSt):Ge s (intoP W op s).2:=(up_name W s).trans ((ge_must W _ _).trans ((ge_enter _).trans ((up_exprs W _).trans ((ge_must W _ _).trans (ge_leave _)))))
theorem up_change (W:Wds) (s:PSt):Ge s (changeP W s).2:=(up_rows W s).trans ((up_where W (up_expr1 W) _).trans ((ge_must W _ _).trans (up_list1 W (up_set W) _)))
theorem up_limit (W:Wds) (s:PSt):Ge s (limitP W s).2:=by
 rw[limitP_eq]
 split
 ·exact(ge_fail s).trans (up_num W _)
 ·exact up_num W _
theorem may_yes {W:Wds} {s:PSt} {t:ByteArray} (h:(mayP W t s).1=true):(mayP W t s).2=s.on∧s.bad=false:=by
 rcases may_cases W t s with e|⟨e,hb,_⟩
 ·rw[e] at h;cases h
 ·rw[e];exact⟨rfl,hb⟩
theorem plain_more (W:Wds) (s:PSt):Ge s (plainP W s).2∧((plainP W s).2.bad=true∨s.at_+1≤(plainP W s).2.at_):=by
 have key:∀ (t:ByteArray) (x:PSt),(mayP W t s).1=true→Ge (mayP W t s).2 x→Ge s x∧(x.bad=true∨s.at_+1≤x.at_):=fun t x ht hg=>by
  obtain⟨e,hb⟩:=may_yes ht
  rw[e] at hg
  exact⟨(ge_on s).trans hg,.inr hg.1⟩
 rw[plainP_eq]
 split
 ·rename_i h;exact key _ _ h (up_assign W _ _)
 ·split
  ·rename_i h;exact key _ _ h (up_assign W _ _)
  ·split
   ·rename_i h;exact key _ _ h (up_into W _ _)
   ·split
    ·rename_i h;exact key _ _ h (up_into W _ _)
    ·split
     ·rename_i h;exact key _ _ h (up_change W _)
     ·split
      ·rename_i h;exact key _ _ h ((up_rows W _).trans (up_where W (up_expr1 W) _))
      ·split
       ·rename_i h;exact key _ _ h (up_expr1 W _)
       ·split
        ·rename_i h;exact key _ _ h (up_exprs W _)
        ·exact⟨ge_fail s,.inl rfl⟩
section
variable (W:Wds) {B:PSt→List St×PSt} (h:∀ s,Ge s (B s).2)
include h
theorem up_for (s:PSt):Ge s (forP W B s).2:=by
 unfold forP
 simp only
 split
 ·exact(up_rows W s).trans ((up_where W (up_expr1 W) _).trans ((ge_may W _ _).trans ((up_limit W _).trans (h _))))
 ·exact(up_rows W s).trans ((up_where W (up_expr1 W) _).trans (h _))
theorem up_if (s:PSt):Ge s (ifP W B s).2:=by
 unfold ifP
 simp only
 split
 ·exact(up_expr1 W s).trans ((h _).trans ((ge_may W _ _).trans (h _)))
 ·exact(up_expr1 W s).trans (h _)
theorem stmt_more (s:PSt):Ge s (stmtP W B s).2∧((stmtP W B s).2.bad=true∨s.at_+1≤(stmtP W B s).2.at_):=by
 have key:∀ (t:ByteArray) (x:PSt),(mayP W t s).1=true→Ge (mayP W t s).2 x→Ge s x∧(x.bad=true∨s.at_+1≤x.at_):=fun t x ht hg=>by
  obtain⟨e,hb⟩:=may_yes ht
  rw[e] at hg
  exact⟨(ge_on s).trans hg,.inr hg.1⟩
 unfold stmtP
 split
 ·rename_i h1;exact key _ _ h1 (up_for W h _)
 ·split
  ·rename_i h1;exact key _ _ h1 (up_if W h _)
  ·have h1:=plain_more W s
   have h2:=ge_must W (str [59]) (plainP W s).2
   exact⟨h1.1.trans h2,h1.2.imp (fun e=>h2.2 e) (fun e=>Nat.le_trans e h2.1)⟩
end
theorem up_stmts (W:Wds) {one:PSt→St×PSt} (h:∀ s,Ge s (one s).2):∀ (k:Nat) (l:List St) (s:PSt),Ge s (stmtsP W one k l s).2:=by
 intro k
 induction k with
 | zero=>exact fun l s=>Ge.refl s
 | succ k ih =>
  intro l s
  unfold stmtsP
  split
  ·exact(h _).trans (ih _ _)
  ·exact Ge.refl s
theorem up_block (W:Wds):∀ (f:Nat) (s:PSt),Ge s (blockP W f s).2:=by
 intro f
 induction f with
 | zero=>exact fun s=>Ge.refl s
 | succ f ih=>exact fun s=>(ge_must W _ s).trans ((ge_enter _).trans ((up_stmts W (fun s=>(stmt_more W ih s).1) _ _ _).trans ((ge_must W _ _).trans (ge_leave _))))
def GivesB (gp gc gw:Nat) (W:Wds) (s':PSt) (l:List St) (w:World) (e:Ending) (w':World):Prop:=∃ A n c D,e=.returned (.slice A n c)∧StsAt (Fr w) D w' A n c l∧PAt gp gc gw W s' w'∧But (On2 gp gc) w w'
def TakesB (gp gc gw:Nat) (W:Wds) (m:Nat):Prop:=∀ s w,PAt gp gc gw W s w→Fit W m s→1≤m→Calls Tryz.prog 130 #[.pointer (some ⟨gp,0,none⟩)] w (GivesB gp gc gw W (blockP W m s).2 (blockP W m s).1 w)
def TakesS (gp gc gw:Nat) (W:Wds) (m:Nat):Prop:=∀ s w,PAt gp gc gw W s w→Fit W m s→1≤m→Calls Tryz.prog 172 #[.pointer (some ⟨gp,0,none⟩)] w (GivesS gp gc gw W (stmtP W (blockP W m) s).2 (stmtP W (blockP W m) s).1 w)
theorem lim_ok {gp gc gw:Nat} {W:Wds} {s:PSt} {w:World} (h:PAt gp gc gw W s w) (s':PSt):okI (limitP W s').1:=by
 rw[limitP_eq]
 have h1:=num_ok h (if (W.look s'.at_).kind=1∧(W.look s'.at_).n=0 then s'.fail else s')
 generalize (numP W (if (W.look s'.at_).kind=1∧(W.look s'.at_).n=0 then s'.fail else s')).1=n at *
 obtain⟨h2,h3⟩:=h1
 constructor
 ·show _≤min n 1001;omega
 ·show min n 1001≤_;omega
structure StsOwn (n0:Nat) (w:World) (A:Option Addr) (c:Nat) (rows:List (List Value)) (D:Nat) (xs:List St):Prop where
 own:w.ownsRow n0 73 8 (.slice A xs.length c) xs.length rows.flatten
 len:rows.length=xs.length
 at_:∀ (k:Nat) (r:List Value) (x:St),rows[k]?=some r→xs[k]?=some x→r.length=8∧StAt (fun b=>n0≤b∧A.map (·.block)≠some b) D w r x
theorem StsOwn.low {n0:Nat} {w:World} {A:Option Addr} {c:Nat} {rows:List (List Value)} {D:Nat} {xs:List St} (h:StsOwn n0 w A c rows D xs):∀ k,A.map (·.block)=some k→n0≤k∧k<w.heap.size:=by
 intro k hk
 cases A with
 | none=>cases hk
 | some a =>
  have e:a.block=k:=by simpa using hk
  subst e
  exact h.own.lt a.block rfl
theorem StsOwn.wid {n0:Nat} {w:World} {A:Option Addr} {c:Nat} {rows:List (List Value)} {D:Nat} {xs:List St} (h:StsOwn n0 w A c rows D xs):∀ r∈rows,r.length=8:=by
 intro r hr
 obtain⟨k,hk,rfl⟩:=List.mem_iff_getElem.1 hr
 exact(h.at_ k _ _ (List.getElem?_eq_getElem hk) (List.getElem?_eq_getElem (by have:=h.len;omega))).1
theorem StsOwn.nil_ (n0:Nat) (w:World):StsOwn n0 w none 0 [] 0 []:=⟨World.ownsRow_nil _ _ _ _,rfl,fun k r x h=>by simp at h⟩
theorem StsOwn.keep {n0:Nat} {w w':World} {A:Option Addr} {c:Nat} {rows:List (List Value)} {D:Nat} {xs:List St} {S:Nat→Prop} (h:StsOwn n0 w A c rows D xs) (hb:But S w w') (hS:∀ k,S k→k<n0):StsOwn n0 w' A c rows D xs :=
 ⟨own_but h.own hb (fun g hg hs=>by have:=(h.own.lt g hg).1;have:=hS g hs;omega),h.len,
  fun k r x hr hx=>⟨(h.at_ k r x hr hx).1,(h.at_ k r x hr hx).2.kept (Kept.of_but hb fun b hb hs=>by have:=hS b hs;have:=hb.1;omega)⟩⟩
theorem StsOwn.list {n0:Nat} {w:World} {A:Option Addr} {c:Nat} {rows:List (List Value)} {D:Nat} {xs:List St} (h:StsOwn n0 w A c rows D xs):StsAt (fun b=>n0≤b) D w A xs.length c xs :=
 ⟨rows,RowsAt.of_own h.own h.wid h.len,fun a ha _=>(h.low a.block (by rw[ha];rfl)).1,h.len,fun k r x hr hx=>⟨(h.at_ k r x hr hx).1,StAt.conv (fun _ h=>h.1) (Kept.refl _ _) D (Nat.le_refl _) (h.at_ k r x hr hx).2⟩⟩
theorem StAt.turn {F F':Nat→Prop} {w w':World} (hF:∀ k,k<w.heap.size→F k→F' k) (hk:Kept F w w') {d d':Nat} {r:List Value} {x:St} (hd:d≤d') (h:StAt F d w r x):StAt F' d' w' r x:=by
 induction d generalizing d' r x with
 | zero=>exact h.elim
 | succ d ih =>
  obtain⟨d',rfl⟩:∃ k,d'=k+1:=⟨d'-1,by omega⟩
  obtain⟨h1,h2,h3,h4,Ac,nc,cc,Ae,ne,ce,Ab,nb,cb,Al,nl,cl,hr,hc,he,hb,hl⟩:=h.open_
  refine⟨h1,h2,h3,h4,Ac,nc,cc,Ae,ne,ce,Ab,nb,cb,Al,nl,cl,hr,?_,?_,?_,?_⟩
  ·exact LsAt.conv hc hk (fun a ha hn hf=>hF _ (LsAt.lt hc hn a ha) hf) (fun _ _ _ h=>h)
  ·exact LsAt.conv he hk (fun a ha hn hf=>hF _ (LsAt.lt he hn a ha) hf) (fun r x _ hx=>ExAt.turn hF hk d (by omega) hx)
  ·exact LsAt.conv hb hk (fun a ha hn hf=>hF _ (LsAt.lt hb hn a ha) hf) (fun r x _ hx=>ih (by omega) hx)
  ·exact LsAt.conv hl hk (fun a ha hn hf=>hF _ (LsAt.lt hl hn a ha) hf) (fun r x _ hx=>ih (by omega) hx)
theorem StsOwn.push {gp gc gw n0:Nat} {W:Wds} {s':PSt} {w w5 Wc w6:World} {A:Option Addr} {c D D5:Nat} {rows:List (List Value)} {xs:List St} {x:St} {row:List Value} (h:StsOwn n0 w A c rows D xs) (hg:gp<n0∧gc<n0∧gw<n0) (hn:n0≤w.heap.size) (hB:But (On2 gp gc) w w5) (hx:StAt (Fr w) D5 w5 row x) (hP:PAt gp gc gw W s' w5)
  (hal:Below w5.heap.size w5 Wc) {A6:Option Addr} {c6:Nat} (hown:w6.ownsRow n0 73 8 (.slice A6 (xs.length+1) c6) (xs.length+1) (rows++[row]).flatten)
  (hbut:But (fun k=>A.map (·.block)=some k) Wc w6) (hf:∀ a2,A6=some a2→A=some a2∨Wc.heap.size≤a2.block):PAt gp gc gw W s' w6∧StsOwn n0 w6 A6 c6 (rows++[row]) (max D D5) (xs++[x])∧But (fun k=>k=gp∨k=gc∨n0≤k) w w6:=by
 have h':StsOwn n0 w5 A c rows D xs:=h.keep hB (fun k hk=>by rcases hk with e|e<;>subst e<;>omega)
 have hlow:=h.low
 have hs:=hB.size
 have hsz:=hal.size
 have hfr:∀ b,A6.map (·.block)=some b→A.map (·.block)=some b∨w5.heap.size≤b:=fun b h2=>by
  cases A6 with
  | none=>cases h2
  | some a6 =>
   have e:a6.block=b:=by simpa using h2
   rcases hf a6 rfl with e2|e2
   ·exact .inl (by rw[e2];simpa using e)
   ·exact .inr (by omega)
 have hne:∀ b,b<w5.heap.size→A.map (·.block)≠some b→A6.map (·.block)≠some b:=fun b hb h1 h2=>by
  rcases hfr b h2 with e|e
  ·exact h1 e
  ·omega
 have e1:(xs++[x]).length=xs.length+1:=by simp
 have hold:∀ (k:Nat) (r:List Value) (y:St),rows[k]?=some r→xs[k]?=some y→r.length=8∧StAt (fun b=>n0≤b∧A6.map (·.block)≠some b) (max D D5) w6 r y:=fun k r y hr hy=>by
  refine⟨(h'.at_ k r y hr hy).1,?_⟩
  have h1:=StAt.turn (F':=fun b=>(n0≤b∧A6.map (·.block)≠some b)∧A.map (·.block)≠some b) (fun k hk hf=>⟨⟨hf.1,hne k hk hf.2⟩,hf.2⟩) (Kept.of_below hal) (Nat.le_max_left D D5) (h'.at_ k r y hr hy).2
  exact StAt.conv (fun _ h=>h.1) (Kept.of_but hbut fun b hb hk=>hb.2 hk) _ (Nat.le_refl _) h1
 have hnew:StAt (fun b=>n0≤b∧A6.map (·.block)≠some b) (max D D5) w6 row x:=by
  have h1:=StAt.turn (F':=fun b=>(n0≤b∧A6.map (·.block)≠some b)∧A.map (·.block)≠some b) (fun k hk (hf:w.heap.size≤k)=>⟨⟨by omega,hne k hk (fun e=>by have:=(hlow k e).2;omega)⟩,fun e=>by have:=(hlow k e).2;omega⟩) (Kept.of_below hal) (Nat.le_max_right D D5) hx
  exact StAt.conv (fun _ h=>h.1) (Kept.of_but hbut fun b hb hk=>hb.2 hk) _ (Nat.le_refl _) h1
 refine⟨(hP.below hal).off hbut fun k hk=>by have:=hlow k hk;omega,⟨by rw[e1];exact hown,by simp[h.len],fun k r y hr hy=>?_⟩,((hB.mono fun i hi=>.inl (by rcases hi with e|e;exact .inl e;exact .inr (.inl e))).trans (But.of_below hal |>.trans hbut (fun i hi=>.inl hi)) fun i hi=>.inl (.inr (.inr (hlow i hi).1)))⟩
 rcases Nat.lt_trichotomy k xs.length with h1|h1|h1
 ·rw[List.getElem?_append_left (by have:=h.len;omega)] at hr
  rw[List.getElem?_append_left h1] at hy
  exact hold k r y hr hy
 ·subst h1
  rw[List.getElem?_append_right (by have:=h.len;omega),h.len] at hr
  rw[List.getElem?_append_right (Nat.le_refl _)] at hy
  simp at hr hy
  subst hr hy
  exact⟨hx.len,hnew⟩
 ·rw[List.getElem?_eq_none (by simp;omega)] at hy
  cases hy
theorem tyStt:ElemTy Tryz.prog 34 73 8 144 (.agg #[.int .i64 0,.string ByteArray.empty,.string ByteArray.empty,.int .i64 0,.slice none 0 0,.slice none 0 0,.slice none 0 0,.slice none 0 0]):=⟨Tryz.underlying34,by kernel_rfl,rfl,by decide⟩
end Go.Proofs.YtgbgiknfejpcoaaGreat

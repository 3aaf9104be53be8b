/- Parts of this proof, one behind the other: ParY0. -/
import Derived.Test.YtjjfkhbajidmdaaGreatDoorPb33
set_option maxRecDepth 1000000
set_option maxHeartbeats 40000000
namespace Go.Proofs.YtjjfkhbajidmdaaGreatDoor
open Go.RowKit Go.Afx
theorem xw {α:Type} (W:aV) {one:au→α×au} (h:∀ s,Ge s (one s).2):∀ (k:Nat) (l:List α) (s:au),Ge s (jC W one k l s).2:=by
 intro k
 induction k with
 | zero=>exact fun l s=>Ge.refl s
 | succ k ih =>
  intro l s
  unfold jC
  split
  ·exact(ja W _ s).trans ((h _).trans (ih _ _))
  ·exact Ge.refl s
theorem Jz {α:Type} (W:aV) {one:au→α×au} (h:∀ s,Ge s (one s).2) (s:au):Ge s (iE W one s).2:=(h s).trans (xw W h _ _ _)
theorem D9 (W:aV) (s:au):Ge s (fG W s).2:=Jz W (dJ W) s
theorem xY (W:aV) (op:Int) (s:au):Ge s (iF W op s).2:=(jK W s).trans ((bY W _ _).trans (dJ W _))
theorem Iw (W:aV) (op:Int) (s:au):Ge s (oU W op s).2:=(jK W s).trans ((bY W _ _).trans ((dW _).trans ((D9 W _).trans ((bY W _ _).trans (jb _)))))
theorem KY (W:aV) (s:au):Ge s (jX W s).2:=(kN W s).trans ((jB W (dJ W) _).trans ((bY W _ _).trans (Jz W (Nk W) _)))
theorem JA (W:aV) (s:au):Ge s (kE W s).2:=by
 rw[EP]
 split
 ·exact(xR s).trans (Ue W _)
 ·exact Ue W _
theorem pX {W:aV} {s:au} {t:ByteArray} (h:(ay W t s).1=true):(ay W t s).2=s.on∧s.bad=false:=by
 rcases bC W t s with e|⟨e,hb,_⟩
 ·rw[e] at h;cases h
 ·rw[e];exact⟨rfl,hb⟩
theorem Ux (W:aV) (s:au):Ge s (dH W s).2∧((dH W s).2.bad=true∨s.at_+1≤(dH W s).2.at_):=by
 have key:∀ (t:ByteArray) (x:au),(ay W t s).1=true→Ge (ay W t s).2 x→Ge s x∧(x.bad=true∨s.at_+1≤x.at_):=fun t x ht hg=>by
  obtain⟨e,hb⟩:=pX ht
  rw[e] at hg
  exact⟨(uK s).trans hg,.inr hg.1⟩
 rw[ER]
 split
 ·rename_i h;exact key _ _ h (xY W _ _)
 ·split
  ·rename_i h;exact key _ _ h (xY W _ _)
  ·split
   ·rename_i h;exact key _ _ h (Iw W _ _)
   ·split
    ·rename_i h;exact key _ _ h (Iw W _ _)
    ·split
     ·rename_i h;exact key _ _ h (KY W _)
     ·split
      ·rename_i h;exact key _ _ h ((kN W _).trans (jB W (dJ W) _))
      ·split
       ·rename_i h;exact key _ _ h (dJ W _)
       ·split
        ·rename_i h;exact key _ _ h (D9 W _)
        ·exact⟨xR s,.inl rfl⟩
section
variable (W:aV) {B:au→List St×au} (h:∀ s,Ge s (B s).2)
include h
theorem abD (s:au):Ge s (MZ W B s).2:=by
 unfold MZ
 simp only
 split
 ·exact(kN W s).trans ((jB W (dJ W) _).trans ((ja W _ _).trans ((JA W _).trans (h _))))
 ·exact(kN W s).trans ((jB W (dJ W) _).trans (h _))
theorem agD (s:au):Ge s (ifP W B s).2:=by
 unfold ifP
 simp only
 split
 ·exact(dJ W s).trans ((h _).trans ((ja W _ _).trans (h _)))
 ·exact(dJ W s).trans (h _)
theorem ES (s:au):Ge s (jD W B s).2∧((jD W B s).2.bad=true∨s.at_+1≤(jD W B s).2.at_):=by
 have key:∀ (t:ByteArray) (x:au),(ay W t s).1=true→Ge (ay W t s).2 x→Ge s x∧(x.bad=true∨s.at_+1≤x.at_):=fun t x ht hg=>by
  obtain⟨e,hb⟩:=pX ht
  rw[e] at hg
  exact⟨(uK s).trans hg,.inr hg.1⟩
 unfold jD
 split
 ·rename_i h1;exact key _ _ h1 (abD W h _)
 ·split
  ·rename_i h1;exact key _ _ h1 (agD W h _)
  ·have h1:=Ux W s
   have h2:=bY W (str [59]) (dH W s).2
   exact⟨h1.1.trans h2,h1.2.imp (fun e=>h2.2 e) (fun e=>Nat.le_trans e h2.1)⟩
end
theorem JB (W:aV) {one:au→St×au} (h:∀ s,Ge s (one s).2):∀ (k:Nat) (l:List St) (s:au),Ge s (jc W one k l s).2:=by
 intro k
 induction k with
 | zero=>exact fun l s=>Ge.refl s
 | succ k ih =>
  intro l s
  unfold jc
  split
  ·exact(h _).trans (ih _ _)
  ·exact Ge.refl s
theorem xx (W:aV):∀ (f:Nat) (s:au),Ge s (gG W f s).2:=by
 intro f
 induction f with
 | zero=>exact fun s=>Ge.refl s
 | succ f ih=>exact fun s=>(bY W _ s).trans ((dW _).trans ((JB W (fun s=>(ES W ih s).1) _ _ _).trans ((bY W _ _).trans (jb _))))
def abE (gp gc gw:Nat) (W:aV) (s':au) (l:List St) (w:World) (e:Ending) (w':World):Prop:=∃ A n c D,e=.returned (.slice A n c)∧aP (Fr w) D w' A n c l∧aW gp gc gw W s' w'∧But (fV gp gc) w w'
def Uy (gp gc gw:Nat) (W:aV) (m:Nat):Prop:=∀ s w,aW gp gc gw W s w→Fit W m s→1≤m→Calls Tryz.prog 54 #[.pointer (some ⟨gp,0,none⟩)] w (abE gp gc gw W (gG W m s).2 (gG W m s).1 w)
def abG (gp gc gw:Nat) (W:aV) (m:Nat):Prop:=∀ s w,aW gp gc gw W s w→Fit W m s→1≤m→Calls Tryz.prog 94 #[.pointer (some ⟨gp,0,none⟩)] w (vG gp gc gw W (jD W (gG W m) s).2 (jD W (gG W m) s).1 w)
theorem ah7 {gp gc gw:Nat} {W:aV} {s:au} {w:World} (h:aW gp gc gw W s w) (s':au):okI (kE W s').1:=by
 rw[EP]
 have h1:=aa7 h (if (W.look s'.at_).kind=1∧(W.look s'.at_).n=0 then s'.fail else s')
 generalize (mP W (if (W.look s'.at_).kind=1∧(W.look s'.at_).n=0 then s'.fail else s')).1=n at *
 obtain⟨h2,h3⟩:=h1
 constructor
 ·show _≤min n 1001;omega
 ·show min n 1001≤_;omega
structure jJ (n0:Nat) (w:World) (A:Option Addr) (c:Nat) (rows:List (List Value)) (D:Nat) (xs:List St):Prop where
 own:w.ownsRow n0 49 8 (.slice A xs.length c) xs.length rows.flatten
 len:rows.length=xs.length
 at_:∀ (k:Nat) (r:List Value) (x:St),rows[k]?=some r→xs[k]?=some x→r.length=8∧bQ (fun b=>n0≤b∧A.map (·.block)≠some b) D w r x
theorem jJ.low {n0:Nat} {w:World} {A:Option Addr} {c:Nat} {rows:List (List Value)} {D:Nat} {xs:List St} (h:jJ n0 w A c rows D xs):∀ k,A.map (·.block)=some k→n0≤k∧k<w.heap.size:=by
 intro k hk
 cases A with
 | none=>cases hk
 | some a =>
  have e:a.block=k:=by simpa using hk
  subst e
  exact h.own.lt a.block rfl
theorem jJ.wid {n0:Nat} {w:World} {A:Option Addr} {c:Nat} {rows:List (List Value)} {D:Nat} {xs:List St} (h:jJ n0 w A c rows D xs):∀ r∈rows,r.length=8:=by
 intro r hr
 obtain⟨k,hk,rfl⟩:=List.mem_iff_getElem.1 hr
 exact(h.at_ k _ _ (List.getElem?_eq_getElem hk) (List.getElem?_eq_getElem (by have:=h.len;omega))).1
theorem jJ.nil_ (n0:Nat) (w:World):jJ n0 w none 0 [] 0 []:=⟨World.ownsRow_nil _ _ _ _,rfl,fun k r x h=>by simp at h⟩
theorem jJ.keep {n0:Nat} {w w':World} {A:Option Addr} {c:Nat} {rows:List (List Value)} {D:Nat} {xs:List St} {S:Nat→Prop} (h:jJ n0 w A c rows D xs) (hb:But S w w') (hS:∀ k,S k→k<n0):jJ n0 w' A c rows D xs :=
 ⟨eP h.own hb (fun g hg hs=>by have:=(h.own.lt g hg).1;have:=hS g hs;omega),h.len,
  fun k r x hr hx=>⟨(h.at_ k r x hr hx).1,(h.at_ k r x hr hx).2.kept (Kept.aN hb fun b hb hs=>by have:=hS b hs;have:=hb.1;omega)⟩⟩
theorem jJ.list {n0:Nat} {w:World} {A:Option Addr} {c:Nat} {rows:List (List Value)} {D:Nat} {xs:List St} (h:jJ n0 w A c rows D xs):aP (fun b=>n0≤b) D w A xs.length c xs :=
 ⟨rows,az.kS h.own h.wid h.len,fun a ha _=>(h.low a.block (by rw[ha];rfl)).1,h.len,fun k r x hr hx=>⟨(h.at_ k r x hr hx).1,bQ.conv (fun _ h=>h.1) (Kept.refl _ _) D (Nat.le_refl _) (h.at_ k r x hr hx).2⟩⟩
theorem bQ.turn {F F':Nat→Prop} {w w':World} (hF:∀ k,k<w.heap.size→F k→F' k) (hk:Kept F w w') {d d':Nat} {r:List Value} {x:St} (hd:d≤d') (h:bQ F d w r x):bQ F' d' w' r x:=by
 induction d generalizing d' r x with
 | zero=>exact h.elim
 | succ d ih =>
  obtain⟨d',rfl⟩:∃ k,d'=k+1:=⟨d'-1,by omega⟩
  obtain⟨h1,h2,h3,h4,Ac,nc,cc,Ae,ne,ce,Ab,nb,cb,Al,nl,cl,hr,hc,he,hb,hl⟩:=h.open_
  refine⟨h1,h2,h3,h4,Ac,nc,cc,Ae,ne,ce,Ab,nb,cb,Al,nl,cl,hr,?_,?_,?_,?_⟩
  ·exact ai.conv hc hk (fun a ha hn hf=>hF _ (ai.lt hc hn a ha) hf) (fun _ _ _ h=>h)
  ·exact ai.conv he hk (fun a ha hn hf=>hF _ (ai.lt he hn a ha) hf) (fun r x _ hx=>aC.turn hF hk d (by omega) hx)
  ·exact ai.conv hb hk (fun a ha hn hf=>hF _ (ai.lt hb hn a ha) hf) (fun r x _ hx=>ih (by omega) hx)
  ·exact ai.conv hl hk (fun a ha hn hf=>hF _ (ai.lt hl hn a ha) hf) (fun r x _ hx=>ih (by omega) hx)
theorem jJ.push {gp gc gw n0:Nat} {W:aV} {s':au} {w w5 Wc w6:World} {A:Option Addr} {c D D5:Nat} {rows:List (List Value)} {xs:List St} {x:St} {row:List Value} (h:jJ n0 w A c rows D xs) (hg:gp<n0∧gc<n0∧gw<n0) (hn:n0≤w.heap.size) (hB:But (fV gp gc) w w5) (hx:bQ (Fr w) D5 w5 row x) (hP:aW gp gc gw W s' w5)
  (hal:Below w5.heap.size w5 Wc) {A6:Option Addr} {c6:Nat} (hown:w6.ownsRow n0 49 8 (.slice A6 (xs.length+1) c6) (xs.length+1) (rows++[row]).flatten)
  (fE:But (fun k=>A.map (·.block)=some k) Wc w6) (hf:∀ a2,A6=some a2→A=some a2∨Wc.heap.size≤a2.block):aW gp gc gw W s' w6∧jJ n0 w6 A6 c6 (rows++[row]) (max D D5) (xs++[x])∧But (fun k=>k=gp∨k=gc∨n0≤k) w w6:=by
 have h':jJ n0 w5 A c rows D xs:=h.keep hB (fun k hk=>by rcases hk with e|e<;>subst e<;>omega)
 have hlow:=h.low
 have hs:=hB.size
 have hsz:=hal.size
 have hfr:∀ b,A6.map (·.block)=some b→A.map (·.block)=some b∨w5.heap.size≤b:=fun b h2=>by
  cases A6 with
  | none=>cases h2
  | some a6 =>
   have e:a6.block=b:=by simpa using h2
   rcases hf a6 rfl with e2|e2
   ·exact .inl (by rw[e2];simpa using e)
   ·exact .inr (by omega)
 have hne:∀ b,b<w5.heap.size→A.map (·.block)≠some b→A6.map (·.block)≠some b:=fun b hb h1 h2=>by
  rcases hfr b h2 with e|e
  ·exact h1 e
  ·omega
 have e1:(xs++[x]).length=xs.length+1:=by simp
 have hold:∀ (k:Nat) (r:List Value) (y:St),rows[k]?=some r→xs[k]?=some y→r.length=8∧bQ (fun b=>n0≤b∧A6.map (·.block)≠some b) (max D D5) w6 r y:=fun k r y hr hy=>by
  refine⟨(h'.at_ k r y hr hy).1,?_⟩
  have h1:=bQ.turn (F':=fun b=>(n0≤b∧A6.map (·.block)≠some b)∧A.map (·.block)≠some b) (fun k hk hf=>⟨⟨hf.1,hne k hk hf.2⟩,hf.2⟩) (Kept.of_below hal) (Nat.le_max_left D D5) (h'.at_ k r y hr hy).2
  exact bQ.conv (fun _ h=>h.1) (Kept.aN fE fun b hb hk=>hb.2 hk) _ (Nat.le_refl _) h1
 have hnew:bQ (fun b=>n0≤b∧A6.map (·.block)≠some b) (max D D5) w6 row x:=by
  have h1:=bQ.turn (F':=fun b=>(n0≤b∧A6.map (·.block)≠some b)∧A.map (·.block)≠some b) (fun k hk (hf:w.heap.size≤k)=>⟨⟨by omega,hne k hk (fun e=>by have:=(hlow k e).2;omega)⟩,fun e=>by have:=(hlow k e).2;omega⟩) (Kept.of_below hal) (Nat.le_max_right D D5) hx
  exact bQ.conv (fun _ h=>h.1) (Kept.aN fE fun b hb hk=>hb.2 hk) _ (Nat.le_refl _) h1
 refine⟨(hP.below hal).off fE fun k hk=>by have:=hlow k hk;omega,⟨by rw[e1];exact hown,by simp[h.len],fun k r y hr hy=>?_⟩,((hB.mono fun i hi=>.inl (by rcases hi with e|e;exact .inl e;exact .inr (.inl e))).trans (But.of_below hal |>.trans fE (fun i hi=>.inl hi)) fun i hi=>.inl (.inr (.inr (hlow i hi).1)))⟩
 rcases Nat.lt_trichotomy k xs.length with h1|h1|h1
 ·rw[List.getElem?_append_left (by have:=h.len;omega)] at hr
  rw[List.getElem?_append_left h1] at hy
  exact hold k r y hr hy
 ·subst h1
  rw[List.getElem?_append_right (by have:=h.len;omega),h.len] at hr
  rw[List.getElem?_append_right (Nat.le_refl _)] at hy
  simp at hr hy
  subst hr hy
  exact⟨hx.len,hnew⟩
 ·rw[List.getElem?_eq_none (by simp;omega)] at hy
  cases hy
theorem alc:kC Tryz.prog 28 49 8 144 (.agg #[.int .i64 0,.string ByteArray.empty,.string ByteArray.empty,.int .i64 0,.slice none 0 0,.slice none 0 0,.slice none 0 0,.slice none 0 0]):=⟨Tryz.underlying28,by kernel_rfl,rfl,by decide⟩
end Go.Proofs.YtjjfkhbajidmdaaGreatDoor

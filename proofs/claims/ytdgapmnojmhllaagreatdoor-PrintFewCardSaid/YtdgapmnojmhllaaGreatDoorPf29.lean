/- Parts of this proof, one behind the other: ParN3, ParW, ParX, ParV, ParY0, ParY, ParZ, ParZ1, ParZ2, ParZ3, ParZ4. -/
import Derived.Test.YtdgapmnojmhllaaGreatDoorPf28
import Derived.Test.YtdgapmnojmhllaaGreatDoorPf5
import Derived.Deep.Cut
set_option maxRecDepth 1000000
set_option maxHeartbeats 40000000
namespace Go.Proofs.YtdgapmnojmhllaaGreatDoor
open Go.RowKit Go.Afx
theorem SetOwn.st {n0 gl:Nat} {w:World} {nm sc:ByteArray} {Ac:Option Addr} {cc:Nat} {A:Option Addr} {c:Nat} {rows:List (List Value)} {D:Nat} {ns:List ByteArray} {xs:List Ex} (h:SetOwn n0 gl w nm sc Ac cc A c rows D ns xs) (hm:okS nm) (hs:okS sc) :
  StAt (fun b=>n0≤b) (D+1) w [.int .i64 4,.string nm,.string sc,.int .i64 0,.slice Ac ns.length cc,.slice A xs.length c,.slice none 0 0,.slice none 0 0] (.mk 4 nm sc 0 ns xs [] []):=by
 have hw:∀ r∈ns.map txrow,r.length=1:=by
  intro r hr
  obtain⟨x,_,rfl⟩:=List.mem_map.1 hr
  rfl
 refine st_of (n:=0) (by decide) (by decide) okI_0 hm hs ⟨ns.map txrow,RowsAt.of_own h.ownc hw (by simp),fun a ha _=>(h.lowc _ (by rw[ha];rfl)).1,by simp,fun k r x hr hx=>?_⟩ ⟨rows,RowsAt.of_own h.row.own h.row.wid h.row.len,fun a ha _=>(h.row.low _ (by rw[ha];rfl)).1,h.row.len,fun k r x hr hx=>⟨(h.row.at_ k r x hr hx).1,ExAt.conv (fun _ h=>h.1) (Kept.refl _ _) D (Nat.le_refl _) (h.row.at_ k r x hr hx).2⟩⟩ (sts_nil _ _ _) (sts_nil _ _ _)
 rw[List.getElem?_map,hx] at hr
 simp only[Option.map_some,Option.some.injEq] at hr
 subst hr
 exact⟨rfl,rfl,h.okc x (List.mem_of_getElem? hx)⟩
theorem SetOwn.out {n0 gl:Nat} {w:World} {nm sc:ByteArray} {Ac:Option Addr} {cc:Nat} {A:Option Addr} {c:Nat} {rows:List (List Value)} {D:Nat} {ns:List ByteArray} {xs:List Ex} (h:SetOwn n0 gl w nm sc Ac cc A c rows D ns xs) (hm:okS nm) (hs:okS sc) :
  ∃ nc ne,IsBlk w gl 67 #[.int .i64 4,.string nm,.string sc,.int .i64 0,.slice Ac nc cc,.slice A ne c,.slice none 0 0,.slice none 0 0]∧StAt (fun b=>n0≤b) (D+1) w [.int .i64 4,.string nm,.string sc,.int .i64 0,.slice Ac nc cc,.slice A ne c,.slice none 0 0,.slice none 0 0] (.mk 4 nm sc 0 ns xs [] []):=⟨_,_,h.blk,h.st hm hs⟩
theorem SetOwn.first {w8:World} {gl n0 D:Nat} {nm sc:ByteArray} {ax:Ex} {A2:Option Addr} {m2 c2:Nat} {w7:World} (hx:ExAt (Fr w7) D w8 [.int .i64 ax.op,.int .i64 ax.n,.string ax.s,.string ax.name,.string ax.src,.slice A2 m2 c2] ax) (h7:n0≤w7.heap.size) (h78:w7.heap.size≤w8.heap.size) (hgl:gl<n0)
  (hk:IsBlk w8 gl 67 #[.int .i64 4,.string nm,.string sc,.int .i64 0,.slice none 0 0,.slice none 0 0,.slice none 0 0,.slice none 0 0]) :
  SetOwn n0 gl ((w8.setCell ⟨gl,5,none⟩ (.slice (some ⟨w8.heap.size,0,none⟩) 1 1)).alloc (.cells #[.int .i64 ax.op,.int .i64 ax.n,.string ax.s,.string ax.name,.string ax.src,.slice A2 m2 c2] 32)) nm sc none 0 (some ⟨w8.heap.size,0,none⟩) 1 [[.int .i64 ax.op,.int .i64 ax.n,.string ax.s,.string ax.name,.string ax.src,.slice A2 m2 c2]] D [] [ax]:=by
 have hb8:=(But.refl (fun k=>k=gl) w8).setCell (p:=⟨gl,5,none⟩) (.inl rfl) (.slice (some ⟨w8.heap.size,0,none⟩) 1 1)
 have hk5:IsBlk _ gl 67 #[.int .i64 4,.string nm,.string sc,.int .i64 0,.slice none 0 0,.slice (some ⟨w8.heap.size,0,none⟩) 1 1,.slice none 0 0,.slice none 0 0]:=hk.stored 5 (.slice (some ⟨w8.heap.size,0,none⟩) 1 1)
 have hsz:(w8.setCell ⟨gl,5,none⟩ (.slice (some ⟨w8.heap.size,0,none⟩) 1 1)).heap.size=w8.heap.size:=by simp[World.setCell]
 have hx8:=hx.kept (Kept.of_but hb8 fun k (hk:w7.heap.size≤k) e=>by omega)
 generalize w8.setCell ⟨gl,5,none⟩ (.slice (some ⟨w8.heap.size,0,none⟩) 1 1)=w9 at *
 have hal:=(Below.refl w9.heap.size w9).alloc (Nat.le_refl _) (.cells #[.int .i64 ax.op,.int .i64 ax.n,.string ax.s,.string ax.name,.string ax.src,.slice A2 m2 c2] 32)
 have hown:(w9.alloc (.cells #[.int .i64 ax.op,.int .i64 ax.n,.string ax.s,.string ax.name,.string ax.src,.slice A2 m2 c2] 32)).ownsRow n0 32 6 (.slice (some ⟨w9.heap.size,0,none⟩) 1 1) 1 [[.int .i64 ax.op,.int .i64 ax.n,.string ax.s,.string ax.name,.string ax.src,.slice A2 m2 c2]].flatten:=World.ownsRow_lit (base:=n0) (e:=32) (size:=6) w9 #[.int .i64 ax.op,.int .i64 ax.n,.string ax.s,.string ax.name,.string ax.src,.slice A2 m2 c2] 1 (by omega) (by unfold maxLen;omega) rfl
 rw[hsz] at hown
 refine⟨hk5.alloc _,World.ownsRow_nil _ _ _ _,by simp,⟨hown,rfl,fun k r x hr hy=>?_,fun b hb=>by cases hb⟩⟩
 rcases k with _|k
 ·simp at hr hy
  subst hr hy
  refine⟨rfl,ExAt.turn (fun k hk (hf:w7.heap.size≤k)=>⟨by omega,fun e=>?_,fun e=>by cases e⟩) (Kept.of_below hal) D (Nat.le_refl _) hx8⟩
  have:w8.heap.size=k:=by simpa using e
  omega
 ·simp at hr
def delP (W:Wds) (s:PSt):St×PSt:=(.mk 5 (rowsP W s).1.1 (rowsP W s).1.2 0 [] [(whereP W (expr1 W) (rowsP W s).2).1] [] [],(whereP W (expr1 W) (rowsP W s).2).2)
def abortP (W:Wds) (s:PSt):St×PSt:=(.mk 9 nil0 nil0 0 [] [(expr1 W s).1] [] [],(expr1 W s).2)
def replyP (W:Wds) (s:PSt):St×PSt:=(.mk 10 nil0 nil0 0 [] (exprsP W s).1 [] [],(exprsP W s).2)
structure Plained (gp gc gw:Nat) (W:Wds) (fin:St×PSt) (w w1 wr:World):Prop where
 p:PAt gp gc gw W fin.2 wr
 b:But (On2 gp gc) w wr
 k2:IsBlk wr w.heap.size 67 zero8
 k3:∃ Ac nc cc Ae ne ce Ab nb cb Al nl cl D,IsBlk wr (w.heap.size+1) 67 #[.int .i64 fin.1.op,.string fin.1.name,.string fin.1.src,.int .i64 fin.1.n,.slice Ac nc cc,.slice Ae ne ce,.slice Ab nb cb,.slice Al nl cl] ∧
  StAt (Fr w1) D wr [.int .i64 fin.1.op,.string fin.1.name,.string fin.1.src,.int .i64 fin.1.n,.slice Ac nc cc,.slice Ae ne ce,.slice Ab nb cb,.slice Al nl cl] fin.1
theorem may_yes {W:Wds} {s:PSt} {t:ByteArray} (h:(mayP W t s).1=true):(mayP W t s).2=s.on∧s.bad=false:=by
 rcases may_cases W t s with e|⟨e,hb,_⟩
 ·rw[e] at h;cases h
 ·rw[e];exact⟨rfl,hb⟩
section
variable (W:Wds) {B:PSt→List St×PSt} (h:∀ s,Ge s (B s).2)
include h
end
def GivesB (gp gc gw:Nat) (W:Wds) (s':PSt) (l:List St) (w:World) (e:Ending) (w':World):Prop:=∃ A n c D,e=.returned (.slice A n c)∧StsAt (Fr w) D w' A n c l∧PAt gp gc gw W s' w'∧But (On2 gp gc) w w'
def TakesB (gp gc gw:Nat) (W:Wds) (m:Nat):Prop:=∀ s w,PAt gp gc gw W s w→Fit W m s→1≤m→Calls Tryz.prog 86 #[.pointer (some ⟨gp,0,none⟩)] w (GivesB gp gc gw W (blockP W m s).2 (blockP W m s).1 w)
def TakesS (gp gc gw:Nat) (W:Wds) (m:Nat):Prop:=∀ s w,PAt gp gc gw W s w→Fit W m s→1≤m→Calls Tryz.prog 133 #[.pointer (some ⟨gp,0,none⟩)] w (GivesS gp gc gw W (stmtP W (blockP W m) s).2 (stmtP W (blockP W m) s).1 w)
structure StsOwn (n0:Nat) (w:World) (A:Option Addr) (c:Nat) (rows:List (List Value)) (D:Nat) (xs:List St):Prop where
 own:w.ownsRow n0 67 8 (.slice A xs.length c) xs.length rows.flatten
 len:rows.length=xs.length
 at_:∀ (k:Nat) (r:List Value) (x:St),rows[k]?=some r→xs[k]?=some x→r.length=8∧StAt (fun b=>n0≤b∧A.map (·.block)≠some b) D w r x
theorem StsOwn.low {n0:Nat} {w:World} {A:Option Addr} {c:Nat} {rows:List (List Value)} {D:Nat} {xs:List St} (h:StsOwn n0 w A c rows D xs):∀ k,A.map (·.block)=some k→n0≤k∧k<w.heap.size:=by
 intro k hk
 cases A with
 | none=>cases hk
 | some a =>
  have e:a.block=k:=by simpa using hk
  subst e
  exact h.own.lt a.block rfl
theorem StsOwn.wid {n0:Nat} {w:World} {A:Option Addr} {c:Nat} {rows:List (List Value)} {D:Nat} {xs:List St} (h:StsOwn n0 w A c rows D xs):∀ r∈rows,r.length=8:=by
 intro r hr
 obtain⟨k,hk,rfl⟩:=List.mem_iff_getElem.1 hr
 exact(h.at_ k _ _ (List.getElem?_eq_getElem hk) (List.getElem?_eq_getElem (by have:=h.len;omega))).1
theorem StsOwn.nil_ (n0:Nat) (w:World):StsOwn n0 w none 0 [] 0 []:=⟨World.ownsRow_nil _ _ _ _,rfl,fun k r x h=>by simp at h⟩
theorem StsOwn.keep {n0:Nat} {w w':World} {A:Option Addr} {c:Nat} {rows:List (List Value)} {D:Nat} {xs:List St} {S:Nat→Prop} (h:StsOwn n0 w A c rows D xs) (hb:But S w w') (hS:∀ k,S k→k<n0):StsOwn n0 w' A c rows D xs :=
 ⟨own_but h.own hb (fun g hg hs=>by have:=(h.own.lt g hg).1;have:=hS g hs;omega),h.len,
  fun k r x hr hx=>⟨(h.at_ k r x hr hx).1,(h.at_ k r x hr hx).2.kept (Kept.of_but hb fun b hb hs=>by have:=hS b hs;have:=hb.1;omega)⟩⟩
theorem StsOwn.list {n0:Nat} {w:World} {A:Option Addr} {c:Nat} {rows:List (List Value)} {D:Nat} {xs:List St} (h:StsOwn n0 w A c rows D xs):StsAt (fun b=>n0≤b) D w A xs.length c xs :=
 ⟨rows,RowsAt.of_own h.own h.wid h.len,fun a ha _=>(h.low a.block (by rw[ha];rfl)).1,h.len,fun k r x hr hx=>⟨(h.at_ k r x hr hx).1,StAt.conv (fun _ h=>h.1) (Kept.refl _ _) D (Nat.le_refl _) (h.at_ k r x hr hx).2⟩⟩
theorem StAt.turn {F F':Nat→Prop} {w w':World} (hF:∀ k,k<w.heap.size→F k→F' k) (hk:Kept F w w') {d d':Nat} {r:List Value} {x:St} (hd:d≤d') (h:StAt F d w r x):StAt F' d' w' r x:=by
 induction d generalizing d' r x with
 | zero=>exact h.elim
 | succ d ih =>
  obtain⟨d',rfl⟩:∃ k,d'=k+1:=⟨d'-1,by omega⟩
  obtain⟨h1,h2,h3,h4,Ac,nc,cc,Ae,ne,ce,Ab,nb,cb,Al,nl,cl,hr,hc,he,hb,hl⟩:=h.open_
  refine⟨h1,h2,h3,h4,Ac,nc,cc,Ae,ne,ce,Ab,nb,cb,Al,nl,cl,hr,?_,?_,?_,?_⟩
  ·exact LsAt.conv hc hk (fun a ha hn hf=>hF _ (LsAt.lt hc hn a ha) hf) (fun _ _ _ h=>h)
  ·exact LsAt.conv he hk (fun a ha hn hf=>hF _ (LsAt.lt he hn a ha) hf) (fun r x _ hx=>ExAt.turn hF hk d (by omega) hx)
  ·exact LsAt.conv hb hk (fun a ha hn hf=>hF _ (LsAt.lt hb hn a ha) hf) (fun r x _ hx=>ih (by omega) hx)
  ·exact LsAt.conv hl hk (fun a ha hn hf=>hF _ (LsAt.lt hl hn a ha) hf) (fun r x _ hx=>ih (by omega) hx)
theorem StsOwn.push {gp gc gw n0:Nat} {W:Wds} {s':PSt} {w w5 Wc w6:World} {A:Option Addr} {c D D5:Nat} {rows:List (List Value)} {xs:List St} {x:St} {row:List Value} (h:StsOwn n0 w A c rows D xs) (hg:gp<n0∧gc<n0∧gw<n0) (hn:n0≤w.heap.size) (hB:But (On2 gp gc) w w5) (hx:StAt (Fr w) D5 w5 row x) (hP:PAt gp gc gw W s' w5)
  (hal:Below w5.heap.size w5 Wc) {A6:Option Addr} {c6:Nat} (hown:w6.ownsRow n0 67 8 (.slice A6 (xs.length+1) c6) (xs.length+1) (rows++[row]).flatten)
  (hbut:But (fun k=>A.map (·.block)=some k) Wc w6) (hf:∀ a2,A6=some a2→A=some a2∨Wc.heap.size≤a2.block):PAt gp gc gw W s' w6∧StsOwn n0 w6 A6 c6 (rows++[row]) (max D D5) (xs++[x])∧But (fun k=>k=gp∨k=gc∨n0≤k) w w6:=by
 have h':StsOwn n0 w5 A c rows D xs:=h.keep hB (fun k hk=>by rcases hk with e|e<;>subst e<;>omega)
 have hlow:=h.low
 have hs:=hB.size
 have hsz:=hal.size
 have hfr:∀ b,A6.map (·.block)=some b→A.map (·.block)=some b∨w5.heap.size≤b:=fun b h2=>by
  cases A6 with
  | none=>cases h2
  | some a6 =>
   have e:a6.block=b:=by simpa using h2
   rcases hf a6 rfl with e2|e2
   ·exact .inl (by rw[e2];simpa using e)
   ·exact .inr (by omega)
 have hne:∀ b,b<w5.heap.size→A.map (·.block)≠some b→A6.map (·.block)≠some b:=fun b hb h1 h2=>by
  rcases hfr b h2 with e|e
  ·exact h1 e
  ·omega
 have e1:(xs++[x]).length=xs.length+1:=by simp
 have hold:∀ (k:Nat) (r:List Value) (y:St),rows[k]?=some r→xs[k]?=some y→r.length=8∧StAt (fun b=>n0≤b∧A6.map (·.block)≠some b) (max D D5) w6 r y:=fun k r y hr hy=>by
  refine⟨(h'.at_ k r y hr hy).1,?_⟩
  have h1:=StAt.turn (F':=fun b=>(n0≤b∧A6.map (·.block)≠some b)∧A.map (·.block)≠some b) (fun k hk hf=>⟨⟨hf.1,hne k hk hf.2⟩,hf.2⟩) (Kept.of_below hal) (Nat.le_max_left D D5) (h'.at_ k r y hr hy).2
  exact StAt.conv (fun _ h=>h.1) (Kept.of_but hbut fun b hb hk=>hb.2 hk) _ (Nat.le_refl _) h1
 have hnew:StAt (fun b=>n0≤b∧A6.map (·.block)≠some b) (max D D5) w6 row x:=by
  have h1:=StAt.turn (F':=fun b=>(n0≤b∧A6.map (·.block)≠some b)∧A.map (·.block)≠some b) (fun k hk (hf:w.heap.size≤k)=>⟨⟨by omega,hne k hk (fun e=>by have:=(hlow k e).2;omega)⟩,fun e=>by have:=(hlow k e).2;omega⟩) (Kept.of_below hal) (Nat.le_max_right D D5) hx
  exact StAt.conv (fun _ h=>h.1) (Kept.of_but hbut fun b hb hk=>hb.2 hk) _ (Nat.le_refl _) h1
 refine⟨(hP.below hal).off hbut fun k hk=>by have:=hlow k hk;omega,⟨by rw[e1];exact hown,by simp[h.len],fun k r y hr hy=>?_⟩,((hB.mono fun i hi=>.inl (by rcases hi with e|e;exact .inl e;exact .inr (.inl e))).trans (But.of_below hal |>.trans hbut (fun i hi=>.inl hi)) fun i hi=>.inl (.inr (.inr (hlow i hi).1)))⟩
 rcases Nat.lt_trichotomy k xs.length with h1|h1|h1
 ·rw[List.getElem?_append_left (by have:=h.len;omega)] at hr
  rw[List.getElem?_append_left h1] at hy
  exact hold k r y hr hy
 ·subst h1
  rw[List.getElem?_append_right (by have:=h.len;omega),h.len] at hr
  rw[List.getElem?_append_right (Nat.le_refl _)] at hy
  simp at hr hy
  subst hr hy
  exact⟨hx.len,hnew⟩
 ·rw[List.getElem?_eq_none (by simp;omega)] at hy
  cases hy
open Go.RowKit Go.Afx
structure Built (gp gc gw gx:Nat) (W:Wds) (s:PSt) (w w1 wN:World) (op:Int) (nm sc:ByteArray) (n:Int) (Ae:Option Addr) (ax:Ex) (Ab:Option Addr) (nb cb:Nat) (bl:List St) (D:Nat):Prop where
 p:PAt gp gc gw W s wN
 b:But (On2 gp gc) w wN
 k4:IsBlk wN w.heap.size 67 zero8
 k5:IsBlk wN gx 67 #[.int .i64 op,.string nm,.string sc,.int .i64 n,.slice none 0 0,.slice Ae 1 1,.slice Ab nb cb,.slice none 0 0]
 e:ExsAt (fun k=>w1.heap.size≤k∧k≠gx) D wN Ae 1 1 [ax]
 l:StsAt (fun k=>w1.heap.size≤k∧k≠gx) D wN Ab nb cb bl
section
variable {gp gc gw gx:Nat} {W:Wds} {s s':PSt} {w w1 wN w8:World} {op:Int} {nm sc:ByteArray} {n:Int} {Ae:Option Addr} {ax:Ex} {Ab:Option Addr} {nb cb:Nat} {bl:List St} {D:Nat}
theorem Built.on2 (h:Built gp gc gw gx W s w w1 wN op nm sc n Ae ax Ab nb cb bl D) (hz:gp<w.heap.size∧gc<w.heap.size∧gw<w.heap.size) (hs1:w1.heap.size=w.heap.size+1) (hgx:w.heap.size<gx) (hP:PAt gp gc gw W s' w8) (hB:But (On2 gp gc) wN w8):Built gp gc gw gx W s' w w1 w8 op nm sc n Ae ax Ab nb cb bl D :=
 ⟨hP,h.b.trans' hB,on2_blk h.k4 hB (by omega),on2_blk h.k5 hB (by omega),ExsAt.kept h.e (fr_on2 hB (fun k hk=>by omega)),StsAt.kept h.l (fr_on2 hB (fun k hk=>by omega))⟩
theorem Built.num (h:Built gp gc gw gx W s w w1 wN op nm sc n Ae ax none 0 0 [] D) (hz:gp<w.heap.size∧gc<w.heap.size∧gw<w.heap.size) (hgx:w.heap.size<gx) (n':Int):Built gp gc gw gx W s w w1 (wN.setCell ⟨gx,3,none⟩ (.int .i64 n')) op nm sc n' Ae ax none 0 0 [] D:=by
 have hb:=(But.refl (fun k=>k=gx) wN).setCell (p:=⟨gx,3,none⟩) (.inl rfl) (.int .i64 n')
 exact⟨h.p.elsewhere hb (by omega),h.b.trans hb (fun i hi=>.inr (by omega)),h.k4.as_was (hb.block _ h.k4.lt (by omega)),h.k5.stored 3 (.int .i64 n'),ExsAt.kept h.e (Kept.of_but hb fun k hk e=>hk.2 e),sts_nil _ _ _⟩
theorem Built.body {D2:Nat} {A:Option Addr} {m c:Nat} {el:List St} (h:Built gp gc gw gx W s w w1 wN op nm sc n Ae ax none 0 0 [] D) (hz:gp<w.heap.size∧gc<w.heap.size∧gw<w.heap.size) (hs1:w1.heap.size=w.heap.size+1) (hgx:w.heap.size<gx)
  (hx:StsAt (Fr wN) D2 w8 A m c el) (hP:PAt gp gc gw W s' w8) (hB:But (On2 gp gc) wN w8) :
  IsBlk w8 gx 67 #[.int .i64 op,.string nm,.string sc,.int .i64 n,.slice none 0 0,.slice Ae 1 1,.slice none 0 0,.slice none 0 0] ∧
  Built gp gc gw gx W s' w w1 (w8.setCell ⟨gx,6,none⟩ (.slice A m c)) op nm sc n Ae ax A m c el (max D D2):=by
 have hk5:=on2_blk h.k5 hB (by omega)
 have hk4:=on2_blk h.k4 hB (by omega)
 have hb:=(But.refl (fun k=>k=gx) w8).setCell (p:=⟨gx,6,none⟩) (.inl rfl) (.slice A m c)
 have hk56:IsBlk _ gx 67 #[.int .i64 op,.string nm,.string sc,.int .i64 n,.slice none 0 0,.slice Ae 1 1,.slice A m c,.slice none 0 0]:=hk5.stored 6 (.slice A m c)
 have hlt:=h.k5.lt
 refine⟨hk5,hP.elsewhere hb (by omega),(h.b.trans' hB).trans hb (fun i hi=>.inr (by omega)),hk4.as_was (hb.block _ hk4.lt (by omega)),hk56,?_,?_⟩
 ·have h2:=ExsAt.kept h.e (fr_on2 hB (fun k (hk:w1.heap.size≤k∧k≠gx)=>by omega))
  exact ExsAt.conv (fun _ h=>h) (Kept.of_but hb fun k hk e=>hk.2 e) (Nat.le_max_left D D2) h2
 ·have h2:StsAt (fun k=>w1.heap.size≤k∧k≠gx) (max D D2) w8 A m c el:=StsAt.conv (fun k (hf:wN.heap.size≤k)=>⟨by omega,by omega⟩) (Kept.refl _ _) (Nat.le_max_right D D2) hx
  exact StsAt.kept h2 (Kept.of_but hb fun k hk e=>hk.2 e)
theorem Built.out (h:Built gp gc gw gx W s w w1 wN op nm sc n Ae ax Ab nb cb bl D) (hz:gp<w.heap.size∧gc<w.heap.size∧gw<w.heap.size) (hs1:w1.heap.size=w.heap.size+1) (h0:0≤op) (h1:op≤100) (hn:okI n) (hm:okS nm) (hs:okS sc) :
  IsBlk (lay8 wN w.heap.size (.int .i64 op) (.string nm) (.string sc) (.int .i64 n) (.slice none 0 0) (.slice Ae 1 1) (.slice Ab nb cb) (.slice none 0 0)) w.heap.size 67 #[.int .i64 op,.string nm,.string sc,.int .i64 n,.slice none 0 0,.slice Ae 1 1,.slice Ab nb cb,.slice none 0 0] ∧
  GivesS gp gc gw W s (.mk op nm sc n [] [ax] bl []) w (.returned (.agg #[.int .i64 op,.string nm,.string sc,.int .i64 n,.slice none 0 0,.slice Ae 1 1,.slice Ab nb cb,.slice none 0 0])) (lay8 wN w.heap.size (.int .i64 op) (.string nm) (.string sc) (.int .i64 n) (.slice none 0 0) (.slice Ae 1 1) (.slice Ab nb cb) (.slice none 0 0)):=by
 have hst:=st_of h0 h1 hn hm hs (LsAt.nil_ (Fr w1) wN 1 SRow) (ExsAt.conv (F':=Fr w1) (fun k hk=>hk.1) (Kept.refl _ _) (Nat.le_refl D) h.e) (StsAt.conv (F':=Fr w1) (fun k hk=>hk.1) (Kept.refl _ _) (Nat.le_refl D) h.l) (sts_nil (Fr w1) D wN)
 exact gives8_of (x:=.mk op nm sc n [] [ax] bl []) (w3:=w1) hst h.p h.b h.k4 (Nat.le_refl _) (by omega) hz
end
open Go.RowKit Go.Afx
def badOf (w:World) (gp:Nat):Nat:=match w.cell? ⟨gp,3,none⟩ with|some (.bool b)=>if b then 0 else 1|_=>0
abbrev crow (p:Co):List Value:=[.string p.name,.int .i64 p.kind]
theorem crow_len (ps:List Co):∀ r∈ps.map crow,r.length=2:=by
 intro r hr
 obtain⟨p,_,rfl⟩:=List.mem_map.1 hr
 rfl
structure ProOwn (n0 gl:Nat) (w:World) (nm:ByteArray) (A:Option Addr) (c:Nat) (ps:List Co):Prop where
 blk:IsBlk w gl 50 #[.string nm,.string ⟨#[]⟩,.string ⟨#[]⟩,.int .i64 100,.slice A ps.length c,.slice none 0 0]
 own:w.ownsRow n0 92 2 (.slice A ps.length c) ps.length (ps.map crow).flatten
 ok:∀ p∈ps,okS p.name∧okI p.kind
section
variable {gp gc gw gl gb n0:Nat} {W:Wds} {s':PSt} {w w' w5 Wc w6:World} {nm:ByteArray} {A:Option Addr} {c:Nat} {ps:List Co}
theorem ProOwn.low (h:ProOwn n0 gl w nm A c ps):∀ k,A.map (·.block)=some k→n0≤k∧k<w.heap.size:=by
 intro k hk
 cases A with
 | none=>cases hk
 | some a =>
  have e:a.block=k:=by simpa using hk
  subst e
  exact h.own.lt a.block rfl
theorem ProOwn.on2 (h:ProOwn n0 gl w nm A c ps) (hb:But (On2 gp gc) w w5) (hg:gp<n0∧gc<n0∧gl≠gp∧gl≠gc):ProOwn n0 gl w5 nm A c ps :=
 ⟨h.blk.as_was (hb.block _ h.blk.lt (by rintro(e|e);exact hg.2.2.1 e;exact hg.2.2.2 e)),own_but h.own hb (fun g hg2 hs=>by have:=(h.own.lt g hg2).1;rcases hs with e|e<;>omega),h.ok⟩
theorem ProOwn.list (h:ProOwn n0 gl w nm A c ps):LsAt (fun b=>n0≤b) w 2 CoRow A ps.length c ps :=
 ⟨ps.map crow,RowsAt.of_own h.own (crow_len ps) (by simp),fun a ha _=>(h.low a.block (by rw[ha];rfl)).1,by simp,fun k r x hr hx=>by
  rw[List.getElem?_map,hx] at hr
  simp only[Option.map_some,Option.some.injEq] at hr
  subst hr
  exact⟨rfl,rfl,h.ok x (List.mem_of_getElem? hx)⟩⟩
theorem ProOwn.push {x:Co} (hl:ProOwn n0 gl w nm A c ps) (hg:gp<n0∧gc<n0∧gw<n0∧gl≠gp∧gl≠gc) (hg2:gl≠gw∧gl<n0∧gb<n0∧gb≠gp∧gb≠gc∧gb≠gl) (hok:okS x.name∧okI x.kind)
  (hB:But (On2 gp gc) w.drew w5) (hP:PAt gp gc gw W s' w5) (hal:Below w5.heap.size w5 Wc) {A6:Option Addr} {c6:Nat} (hown:w6.ownsRow n0 92 2 (.slice A6 (ps.length+1) c6) (ps.length+1) (ps.map crow++[crow x]).flatten) (hbut:But (fun k=>A.map (·.block)=some k) Wc w6) :
  IsBlk w6 gl 50 #[.string nm,.string ⟨#[]⟩,.string ⟨#[]⟩,.int .i64 100,.slice A ps.length c,.slice none 0 0]∧PAt gp gc gw W s' (w6.setCell ⟨gl,4,none⟩ (.slice A6 (ps.length+1) c6))∧ProOwn n0 gl (w6.setCell ⟨gl,4,none⟩ (.slice A6 (ps.length+1) c6)) nm A6 c6 (ps++[x])∧But (On3 gp gc gl n0) w (w6.setCell ⟨gl,4,none⟩ (.slice A6 (ps.length+1) c6)):=by
 have hld:ProOwn n0 gl w5 nm A c ps:=(hl.on2 (gp:=gp) (gc:=gc) ((But.refl _ w).drew) ⟨hg.1,hg.2.1,hg.2.2.2⟩).on2 hB ⟨hg.1,hg.2.1,hg.2.2.2⟩
 have hlow:=hld.low
 have hk6:=(hld.blk.as_was (hal.block _ hld.blk.lt)).as_was (hbut.block _ (hld.blk.as_was (hal.block _ hld.blk.lt)).lt (fun e=>by have:=hlow gl e;omega))
 have hbl:=(But.refl (fun k=>k=gl) w6).setCell (p:=⟨gl,4,none⟩) (.inl rfl) (.slice A6 (ps.length+1) c6)
 have e:(ps++[x]).length=ps.length+1:=by simp
 have e2:(ps++[x]).map crow=ps.map crow++[crow x]:=by simp
 refine⟨hk6,((hP.below hal).off hbut (fun k hk=>by have:=hlow k hk;omega)).off hbl (fun k hk=>by omega),⟨?_,?_,?_⟩,?_⟩
 ·have:=hk6.stored 4 (.slice A6 (ps.length+1) c6)
  rw[e]
  simpa using this
 ·rw[e,e2]
  exact own_but hown hbl (fun g2 hg2 e2=>by have:=(hown.lt g2 hg2).1;omega)
 ·intro y hy
  rcases List.mem_append.1 hy with hy|hy
  ·exact hl.ok y hy
  ·simp only[List.mem_singleton] at hy;subst hy;exact hok
 ·have h1:But (On3 gp gc gl n0) w w5:=((But.refl (On3 gp gc gl n0) w).drew).trans' (on3_on2 hB)
  exact((h1.trans' (But.of_below hal)).trans hbut (fun i hi=>.inl (.inr (.inr (.inr (hlow i hi).1))))).trans hbl (fun i hi=>.inl (.inr (.inr (.inl hi))))
end
open Go.RowKit Go.Afx
def headP (W:Wds) (s:PSt):List Co×PSt:=if isP W s (str [41]) then ([],s) else list1 W (paramP W) s
def fromP (W:Wds) (s:PSt):(ByteArray×ByteArray)×PSt :=
 if (mayP W (str [111,110]) s).1 then ((nil0,(nameP W (mayP W (str [111,110]) s).2).1),(nameP W (mayP W (str [111,110]) s).2).2)
 else if (mayP W (str [102,114,111,109]) s).1 then (((nameP W (mayP W (str [102,114,111,109]) s).2).1,nil0),(nameP W (mayP W (str [102,114,111,109]) s).2).2)
 else ((nil0,nil0),s)
def GivesP (gp gc gw:Nat) (W:Wds) (s':PSt) (x:Pr) (w:World) (e:Ending) (w':World):Prop:=∃ row D,e=.returned (.agg row.toArray)∧PrAt (Fr w) D w' row x∧PAt gp gc gw W s' w'∧But (On2 gp gc) w w'
abbrev zeroP:Array Value:=#[.string ⟨#[]⟩,.string ⟨#[]⟩,.string ⟨#[]⟩,.int .i64 0,.slice none 0 0,.slice none 0 0]
structure Prc (gp gc gw gb gr gx:Nat) (W:Wds) (s:PSt) (w wr:World) (nm src part:ByteArray) (fu:Int) (A:Option Addr) (c:Nat) (ps:List Co):Prop where
 p:PAt gp gc gw W s wr
 b:But (On2 gp gc) w wr
 kb:IsBlk wr gb 75 #[.pointer (some ⟨gp,0,none⟩)]
 kr:IsBlk wr gr 50 zeroP
 kx:IsBlk wr gx 50 #[.string nm,.string src,.string part,.int .i64 fu,.slice A ps.length c,.slice none 0 0]
 ls:LsAt (fun b=>gx<b) wr 2 CoRow A ps.length c ps
 ne:gp<gb∧gc<gb∧gw<gb∧gb<gr∧gr<gx∧gb=w.heap.size
section
variable {gp gc gw gb gr gx:Nat} {W:Wds} {s s':PSt} {w wr w8:World} {nm src part:ByteArray} {fu:Int} {A:Option Addr} {c:Nat} {ps:List Co}
theorem Prc.on2 (h:Prc gp gc gw gb gr gx W s w wr nm src part fu A c ps) (hP:PAt gp gc gw W s' w8) (hB:But (On2 gp gc) wr w8):Prc gp gc gw gb gr gx W s' w w8 nm src part fu A c ps :=
 ⟨hP,h.b.trans' hB,on2_blk h.kb hB (by have:=h.ne;omega),on2_blk h.kr hB (by have:=h.ne;omega),on2_blk h.kx hB (by have:=h.ne;omega),
  LsAt.kept h.ls (fr_on2 hB (fun k hk=>by have:=h.ne;omega)),h.ne⟩
theorem Prc.turned {src' part':ByteArray} {fu':Int} (h:Prc gp gc gw gb gr gx W s w wr nm src part fu A c ps) (hB:But (fun k=>k=gx) wr w8) (hk:IsBlk w8 gx 50 #[.string nm,.string src',.string part',.int .i64 fu',.slice A ps.length c,.slice none 0 0]):Prc gp gc gw gb gr gx W s w w8 nm src' part' fu' A c ps:=by
 have hn:=h.ne
 exact⟨h.p.elsewhere hB (by omega),h.b.trans hB (fun i hi=>.inr (by omega)),h.kb.as_was (hB.block _ h.kb.lt (by omega)),h.kr.as_was (hB.block _ h.kr.lt (by omega)),hk,
  LsAt.kept h.ls (Kept.of_but hB fun k hk e=>by omega),hn⟩
end
theorem Prc.out {gp gc gw gb gr gx:Nat} {W:Wds} {s s':PSt} {w wr w8:World} {nm src part:ByteArray} {fu:Int} {A:Option Addr} {c:Nat} {ps:List Co} {D:Nat} {Ab:Option Addr} {nb cb:Nat} {bl:List St}
  (h:Prc gp gc gw gb gr gx W s w wr nm src part fu A c ps) (hok:okS nm∧okS src∧okS part∧okI fu) (hx:StsAt (Fr wr) D w8 Ab nb cb bl) (hP:PAt gp gc gw W s' w8) (hB:But (On2 gp gc) wr w8) :
  IsBlk w8 gx 50 #[.string nm,.string src,.string part,.int .i64 fu,.slice A ps.length c,.slice none 0 0] ∧
  IsBlk (w8.setCell ⟨gx,5,none⟩ (.slice Ab nb cb)) gx 50 #[.string nm,.string src,.string part,.int .i64 fu,.slice A ps.length c,.slice Ab nb cb] ∧
  IsBlk (w8.setCell ⟨gx,5,none⟩ (.slice Ab nb cb)) gr 50 zeroP ∧
  IsBlk (lay6 (w8.setCell ⟨gx,5,none⟩ (.slice Ab nb cb)) gr (.string nm) (.string src) (.string part) (.int .i64 fu) (.slice A ps.length c) (.slice Ab nb cb)) gr 50 #[.string nm,.string src,.string part,.int .i64 fu,.slice A ps.length c,.slice Ab nb cb] ∧
  GivesP gp gc gw W s' ⟨nm,src,part,fu,ps,bl⟩ w (.returned (.agg #[.string nm,.string src,.string part,.int .i64 fu,.slice A ps.length c,.slice Ab nb cb])) (lay6 (w8.setCell ⟨gx,5,none⟩ (.slice Ab nb cb)) gr (.string nm) (.string src) (.string part) (.int .i64 fu) (.slice A ps.length c) (.slice Ab nb cb)):=by
 have hn:=h.ne
 have h8:=h.on2 hP hB
 have hgx:=h.kx.lt
 have hb5:=(But.refl (fun k=>k=gx) w8).setCell (p:=⟨gx,5,none⟩) (.inl rfl) (.slice Ab nb cb)
 have hk5:IsBlk (w8.setCell ⟨gx,5,none⟩ (.slice Ab nb cb)) gx 50 #[.string nm,.string src,.string part,.int .i64 fu,.slice A ps.length c,.slice Ab nb cb]:=h8.kx.stored 5 _
 have hk4:=h8.kr.as_was (hb5.block _ h8.kr.lt (by omega))
 have hls:=LsAt.kept h8.ls (Kept.of_but hb5 fun k hk e=>by omega)
 have hxs:=StsAt.kept hx (Kept.of_but hb5 fun k (hk:wr.heap.size≤k) e=>by omega)
 have hP5:=hP.elsewhere hb5 (by omega)
 have hB5:=h8.b.trans hb5 (fun i hi=>.inr (by omega))
 generalize w8.setCell ⟨gx,5,none⟩ (.slice Ab nb cb)=w5 at *
 have hb7:=lay6_but w5 gr (.string nm) (.string src) (.string part) (.int .i64 fu) (.slice A ps.length c) (.slice Ab nb cb)
 refine⟨h8.kx,hk5,hk4,lay6_blk _ _ _ _ _ _ hk4,_,D,rfl,⟨hok.1,hok.2.1,hok.2.2.1,hok.2.2.2,A,ps.length,c,Ab,nb,cb,rfl,?_,?_⟩,hP5.elsewhere hb7 (by omega),hB5.trans hb7 (fun i hi=>.inr (by omega))⟩
 ·exact LsAt.conv hls (Kept.of_but hb7 fun k hk e=>by omega) (fun a _ _ h=>by show w.heap.size≤_;omega) (fun r x _ hx=>hx)
 ·exact StsAt.conv (fun k (hk:wr.heap.size≤k)=>by show w.heap.size≤k;omega) (Kept.of_but hb7 fun k (hk:wr.heap.size≤k) e=>by omega) (Nat.le_refl D) hxs
open Go.RowKit Go.Afx
end Go.Proofs.YtdgapmnojmhllaaGreatDoor

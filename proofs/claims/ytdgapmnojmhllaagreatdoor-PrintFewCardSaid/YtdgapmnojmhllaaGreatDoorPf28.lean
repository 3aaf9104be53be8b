/- Parts of this proof, one behind the other: ParN0, ParN, ParO, ParR0, ParR, ParS, ParT, ParN1, ParN2. -/
import Derived.Test.YtdgapmnojmhllaaGreatDoorPf27
import Derived.Test.YtdgapmnojmhllaaGreatDoorPf21
set_option maxRecDepth 1000000
set_option maxHeartbeats 40000000
namespace Go.Proofs.YtdgapmnojmhllaaGreatDoor
open Go.RowKit Go.Afx
structure ExsOwn (n0 gl:Nat) (w:World) (A:Option Addr) (c:Nat) (rows:List (List Value)) (D:Nat) (xs:List Ex):Prop where
 blk:IsBlk w gl 25 #[.slice A xs.length c]
 own:w.ownsRow n0 32 6 (.slice A xs.length c) xs.length rows.flatten
 len:rows.length=xs.length
 at_:∀ (k:Nat) (r:List Value) (x:Ex),rows[k]?=some r→xs[k]?=some x→r.length=6∧ExAt (fun b=>n0≤b∧A.map (·.block)≠some b) D w r x
theorem ExsOwn.low {n0 gl:Nat} {w:World} {A:Option Addr} {c:Nat} {rows:List (List Value)} {D:Nat} {xs:List Ex} (h:ExsOwn n0 gl w A c rows D xs):∀ a,A=some a→n0≤a.block∧a.block<w.heap.size:=by
 intro a ha;subst ha;exact h.own.lt a.block rfl
theorem ExsOwn.wid {n0 gl:Nat} {w:World} {A:Option Addr} {c:Nat} {rows:List (List Value)} {D:Nat} {xs:List Ex} (h:ExsOwn n0 gl w A c rows D xs):∀ r∈rows,r.length=6:=by
 intro r hr
 obtain⟨k,hk,rfl⟩:=List.mem_iff_getElem.1 hr
 exact(h.at_ k _ _ (List.getElem?_eq_getElem hk) (List.getElem?_eq_getElem (by have:=h.len;omega))).1
theorem ExsOwn.keep {n0 gl:Nat} {w w':World} {A:Option Addr} {c:Nat} {rows:List (List Value)} {D:Nat} {xs:List Ex} {S:Nat→Prop} (h:ExsOwn n0 gl w A c rows D xs) (hb:But S w w') (hS:∀ k,S k→k≠gl∧k<n0):ExsOwn n0 gl w' A c rows D xs :=
 ⟨h.blk.as_was (hb.block _ h.blk.lt fun hs=>(hS _ hs).1 rfl),own_but h.own hb (fun g hg hs=>by have:=(h.own.lt g hg).1;have:=(hS g hs).2;omega),h.len,
  fun k r x hr hx=>⟨(h.at_ k r x hr hx).1,(h.at_ k r x hr hx).2.kept (Kept.of_but hb fun b hb hs=>by have:=(hS b hs).2;have:=hb.1;omega)⟩⟩
theorem ExsOwn.nil_ {n0 gl:Nat} {w:World} (hk:IsBlk w gl 25 #[.slice none 0 0]):ExsOwn n0 gl w none 0 [] 0 []:=⟨hk,World.ownsRow_nil _ _ _ _,rfl,fun k r x h=>by simp at h⟩
theorem ExsOwn.list {n0 gl:Nat} {w:World} {A:Option Addr} {c:Nat} {rows:List (List Value)} {D:Nat} {xs:List Ex} (h:ExsOwn n0 gl w A c rows D xs):ExsAt (fun b=>n0≤b) D w A xs.length c xs :=
 ⟨rows,RowsAt.of_own h.own h.wid h.len,fun a ha _=>(h.low a ha).1,h.len,fun k r x hr hx=>⟨(h.at_ k r x hr hx).1,ExAt.conv (fun _ h=>h.1) (Kept.refl _ _) D (Nat.le_refl _) (h.at_ k r x hr hx).2⟩⟩
def lay6At (w:World) (g o:Nat) (v0 v1 v2 v3 v4 v5:Value):World:=(((((w.setCell ⟨g,o,none⟩ v0).setCell ⟨g,o+1,none⟩ v1).setCell ⟨g,o+2,none⟩ v2).setCell ⟨g,o+3,none⟩ v3).setCell ⟨g,o+4,none⟩ v4).setCell ⟨g,o+5,none⟩ v5
theorem lay6At_but (w:World) (g o:Nat) (v0 v1 v2 v3 v4 v5:Value):But (fun k=>k=g) w (lay6At w g o v0 v1 v2 v3 v4 v5):=by
 have h:=But.refl (fun k=>k=g) w
 have h:=h.setCell (p:=⟨g,o,none⟩) (.inl rfl) v0
 have h:=h.setCell (p:=⟨g,o+1,none⟩) (.inl rfl) v1
 have h:=h.setCell (p:=⟨g,o+2,none⟩) (.inl rfl) v2
 have h:=h.setCell (p:=⟨g,o+3,none⟩) (.inl rfl) v3
 have h:=h.setCell (p:=⟨g,o+4,none⟩) (.inl rfl) v4
 exact h.setCell (p:=⟨g,o+5,none⟩) (.inl rfl) v5
theorem set_last {α:Type} (l:List α) (a0 a1 a2 a3 a4 a5 v0 v1 v2 v3 v4 v5:α) (o:Nat) (h:l.length=o):(((((((l++[a0,a1,a2,a3,a4,a5]).set o v0).set (o+1) v1).set (o+2) v2).set (o+3) v3).set (o+4) v4).set (o+5) v5)=l++[v0,v1,v2,v3,v4,v5]:=by
 subst h
 simp
theorem own_last {w:World} {base:Nat} {T:TypeId} {g n c:Nat} {rows:List (List Value)} {a0 a1 a2 a3 a4 a5:Value} (v0 v1 v2 v3 v4 v5:Value) (h:w.ownsRow base T 6 (.slice (some ⟨g,0,none⟩) (n+1) c) (n+1) (rows++[[a0,a1,a2,a3,a4,a5]]).flatten) (hw:∀ r∈rows,r.length=6) (hl:rows.length=n) :
  (lay6At w g (n*6) v0 v1 v2 v3 v4 v5).ownsRow base T 6 (.slice (some ⟨g,0,none⟩) (n+1) c) (n+1) (rows++[[v0,v1,v2,v3,v4,v5]]).flatten:=by
 have hlen:rows.flatten.length=n*6:=by rw[flatten_length rows 6 hw,hl]
 have e1:(rows++[[a0,a1,a2,a3,a4,a5]]).flatten=rows.flatten++[a0,a1,a2,a3,a4,a5]:=by simp
 have e2:(rows++[[v0,v1,v2,v3,v4,v5]]).flatten=rows.flatten++[v0,v1,v2,v3,v4,v5]:=by simp
 rw[e1] at h
 rw[e2,← set_last rows.flatten a0 a1 a2 a3 a4 a5 v0 v1 v2 v3 v4 v5 (n*6) hlen]
 exact((((((h.stored (n*6) v0).1.stored (n*6+1) v1).1.stored (n*6+2) v2).1.stored (n*6+3) v3).1.stored (n*6+4) v4).1.stored (n*6+5) v5).1
theorem PAt.off {gp gc gw:Nat} {W:Wds} {s:PSt} {w w':World} {S:Nat→Prop} (h:PAt gp gc gw W s w) (hb:But S w w') (hS:∀ k,S k→gp≠k∧gc≠k∧gw≠k):PAt gp gc gw W s w':=by
 obtain⟨⟨A,n,c,hk2,hl⟩,h1,h2,h3,h4⟩:=h.cu
 exact⟨h.blk.as_was (hb.block _ h.blk.lt fun hs=>(hS _ hs).1 rfl),⟨⟨A,n,c,hk2.as_was (hb.block _ hk2.lt fun hs=>(hS _ hs).2.1 rfl),hl.kept (Kept.of_but hb fun k hf hs=>(hS k hs).2.2 hf.symm)⟩,h1,h2,h3,h4⟩,h.ne,h.nw,Nat.lt_of_lt_of_le h.wl hb.size⟩
abbrev zrow:List Value:=[.int .i64 0,.int .i64 0,.string ⟨#[]⟩,.string ⟨#[]⟩,.string ⟨#[]⟩,.slice none 0 0]
structure Grown (gp gc gw n0:Nat) (W:Wds) (s':PSt) (w:World) (xs:List Ex) (x:Ex) (rows:List (List Value)) (row:List Value) (D:Nat) (A6:Option Addr) (c6:Nat) (W6:World):Prop where
 p:PAt gp gc gw W s' W6
 own:W6.ownsRow n0 32 6 (.slice A6 (xs.length+1) c6) (xs.length+1) (rows++[zrow]).flatten
 old:∀ (k:Nat) (r:List Value) (y:Ex),rows[k]?=some r→xs[k]?=some y→r.length=6∧ExAt (fun b=>n0≤b∧A6.map (·.block)≠some b) D W6 r y
 new_:ExAt (fun b=>n0≤b∧A6.map (·.block)≠some b) D W6 row x
 but:But (fun k=>k=gp∨k=gc∨n0≤k) w W6
def On3 (gp gc gl n0:Nat):Nat→Prop:=fun k=>k=gp∨k=gc∨k=gl∨n0≤k
section
variable {gp gc gw gl n0:Nat} {W:Wds} {s s':PSt} {w Wc w5 w6:World} {A:Option Addr} {c D D5:Nat} {rows:List (List Value)} {xs:List Ex} {x:Ex} {row:List Value}
theorem ExsOwn.on2 (h:ExsOwn n0 gl w A c rows D xs) (hb:But (On2 gp gc) w w5) (hg:gp<n0∧gc<n0∧gl≠gp∧gl≠gc):ExsOwn n0 gl w5 A c rows D xs :=
 h.keep hb fun k hk=>by rcases hk with e|e<;>subst e<;>exact⟨fun e=>by omega,by omega⟩
end
theorem ExsOwn.grown {gp gc gw gl n0:Nat} {W:Wds} {s':PSt} {w w6:World} {xs:List Ex} {x:Ex} {rows:List (List Value)} {D g6 c6:Nat} {A5:Option Addr} {m5 c5:Nat} {cs:Array Value}
  (hG:Grown gp gc gw n0 W s' w xs x rows [.int .i64 x.op,.int .i64 x.n,.string x.s,.string x.name,.string x.src,.slice A5 m5 c5] D (some ⟨g6,0,none⟩) c6 w6) (hk:IsBlk w6 gl 25 cs) (hcs:cs.size=1) (hg:gp<n0∧gc<n0∧gw<n0∧gl≠gp∧gl≠gc) (hg2:gl≠gw∧gl<n0) (hw:∀ r∈rows,r.length=6) (hl:rows.length=xs.length) (h6:n0≤g6) :
  PAt gp gc gw W s' ((lay6At w6 g6 (xs.length*6) (.int .i64 x.op) (.int .i64 x.n) (.string x.s) (.string x.name) (.string x.src) (.slice A5 m5 c5)).setCell ⟨gl,0,none⟩ (.slice (some ⟨g6,0,none⟩) (xs.length+1) c6)) ∧
  (∃ A' c' rows' D',ExsOwn n0 gl ((lay6At w6 g6 (xs.length*6) (.int .i64 x.op) (.int .i64 x.n) (.string x.s) (.string x.name) (.string x.src) (.slice A5 m5 c5)).setCell ⟨gl,0,none⟩ (.slice (some ⟨g6,0,none⟩) (xs.length+1) c6)) A' c' rows' D' (xs++[x])) ∧
  But (On3 gp gc gl n0) w ((lay6At w6 g6 (xs.length*6) (.int .i64 x.op) (.int .i64 x.n) (.string x.s) (.string x.name) (.string x.src) (.slice A5 m5 c5)).setCell ⟨gl,0,none⟩ (.slice (some ⟨g6,0,none⟩) (xs.length+1) c6)):=by
 have hb1:=lay6At_but w6 g6 (xs.length*6) (.int .i64 x.op) (.int .i64 x.n) (.string x.s) (.string x.name) (.string x.src) (.slice A5 m5 c5)
 have ho1:=own_last (.int .i64 x.op) (.int .i64 x.n) (.string x.s) (.string x.name) (.string x.src) (.slice A5 m5 c5) hG.own hw hl
 have hp1:=hG.p.off hb1 (fun k hk=>by omega)
 have hk1:=hk.as_was (hb1.block _ hk.lt (by omega))
 have hold1:∀ (k:Nat) (r:List Value) (y:Ex),rows[k]?=some r→xs[k]?=some y→r.length=6∧ExAt (fun b=>n0≤b∧(some (⟨g6,0,none⟩:Addr)).map (·.block)≠some b) D (lay6At w6 g6 (xs.length*6) (.int .i64 x.op) (.int .i64 x.n) (.string x.s) (.string x.name) (.string x.src) (.slice A5 m5 c5)) r y:=fun k r y h1 h2=>⟨(hG.old k r y h1 h2).1,(hG.old k r y h1 h2).2.kept (Kept.of_but hb1 fun b hb e=>hb.2 (by simp[e]))⟩
 have hnew1:=hG.new_.kept (Kept.of_but hb1 fun b hb e=>hb.2 (by simp[e]))
 generalize lay6At w6 g6 (xs.length*6) (.int .i64 x.op) (.int .i64 x.n) (.string x.s) (.string x.name) (.string x.src) (.slice A5 m5 c5)=w7 at *
 have hb2:=(But.refl (fun k=>k=gl) w7).setCell (p:=⟨gl,0,none⟩) (.inl rfl) (.slice (some ⟨g6,0,none⟩) (xs.length+1) c6)
 have hk2:IsBlk (w7.setCell ⟨gl,0,none⟩ (.slice (some ⟨g6,0,none⟩) (xs.length+1) c6)) gl 25 #[.slice (some ⟨g6,0,none⟩) (xs.length+1) c6]:=by
  have h:=hk1.stored 0 (.slice (some ⟨g6,0,none⟩) (xs.length+1) c6)
  have e:cs.setIfInBounds 0 (.slice (some ⟨g6,0,none⟩) (xs.length+1) c6)=#[.slice (some ⟨g6,0,none⟩) (xs.length+1) c6]:=by
   apply Array.ext
   ·simpa using hcs
   ·intro i h1 h2
    have:i=0:=by simp at h2;omega
    subst this
    simp
  rw[e] at h
  exact h
 have hlen:(xs++[x]).length=xs.length+1:=by simp
 refine⟨hp1.off hb2 (fun k hk=>by omega),⟨some ⟨g6,0,none⟩,c6,rows++[[.int .i64 x.op,.int .i64 x.n,.string x.s,.string x.name,.string x.src,.slice A5 m5 c5]],D,⟨by rw[hlen];exact hk2,by rw[hlen];exact own_but ho1 hb2 (fun g hg3 e=>by have:=(ho1.lt g hg3).1;omega),by simp[hl],fun k r y hr hy=>?_⟩⟩,?_⟩
 ·rcases Nat.lt_trichotomy k xs.length with h|h|h
  ·rw[List.getElem?_append_left (by omega)] at hr hy
   obtain⟨h1,h2⟩:=hold1 k r y hr hy
   exact⟨h1,h2.kept (Kept.of_but hb2 fun b hb e=>by have:=hb.1;omega)⟩
  ·subst h
   rw[List.getElem?_append_right (by omega)] at hr hy
   rw[hl] at hr
   simp at hr hy
   subst hr hy
   exact⟨rfl,hnew1.kept (Kept.of_but hb2 fun b hb e=>by have:=hb.1;omega)⟩
  ·rw[List.getElem?_eq_none (by simp;omega)] at hy
   cases hy
 ·exact((hG.but.mono (fun i hi=>.inl (by rcases hi with e|e|e;exact .inl e;exact .inr (.inl e);exact .inr (.inr (.inr e))))).trans hb1 (fun i hi=>.inl (.inr (.inr (.inr (by omega)))))).trans hb2 (fun i hi=>.inl (.inr (.inr (.inl hi))))
open Go.RowKit Go.Afx
theorem on3_on2 {gp gc gl n0:Nat} {w w':World} (h:But (On2 gp gc) w w'):But (On3 gp gc gl n0) w w':=h.mono fun i hi=>.inl (by rcases hi with e|e;exact .inl e;exact .inr (.inl e))
abbrev zero8:Array Value:=#[.int .i64 0,.string ⟨#[]⟩,.string ⟨#[]⟩,.int .i64 0,.slice none 0 0,.slice none 0 0,.slice none 0 0,.slice none 0 0]
def GivesS (gp gc gw:Nat) (W:Wds) (s':PSt) (x:St) (w:World) (e:Ending) (w':World):Prop:=∃ row D,e=.returned (.agg row.toArray)∧StAt (Fr w) D w' row x∧PAt gp gc gw W s' w'∧But (On2 gp gc) w w'
def lay8 (w:World) (g:Nat) (v0 v1 v2 v3 v4 v5 v6 v7:Value):World:=(((((((w.setCell ⟨g,0,none⟩ v0).setCell ⟨g,1,none⟩ v1).setCell ⟨g,2,none⟩ v2).setCell ⟨g,3,none⟩ v3).setCell ⟨g,4,none⟩ v4).setCell ⟨g,5,none⟩ v5).setCell ⟨g,6,none⟩ v6).setCell ⟨g,7,none⟩ v7
theorem lay8_blk {w:World} {g:Nat} {T:TypeId} {u0 u1 u2 u3 u4 u5 u6 u7:Value} (v0 v1 v2 v3 v4 v5 v6 v7:Value) (h:IsBlk w g T #[u0,u1,u2,u3,u4,u5,u6,u7]):IsBlk (lay8 w g v0 v1 v2 v3 v4 v5 v6 v7) g T #[v0,v1,v2,v3,v4,v5,v6,v7]:=by
 have h:IsBlk _ g T #[v0,u1,u2,u3,u4,u5,u6,u7]:=h.stored 0 v0
 have h:IsBlk _ g T #[v0,v1,u2,u3,u4,u5,u6,u7]:=h.stored 1 v1
 have h:IsBlk _ g T #[v0,v1,v2,u3,u4,u5,u6,u7]:=h.stored 2 v2
 have h:IsBlk _ g T #[v0,v1,v2,v3,u4,u5,u6,u7]:=h.stored 3 v3
 have h:IsBlk _ g T #[v0,v1,v2,v3,v4,u5,u6,u7]:=h.stored 4 v4
 have h:IsBlk _ g T #[v0,v1,v2,v3,v4,v5,u6,u7]:=h.stored 5 v5
 have h:IsBlk _ g T #[v0,v1,v2,v3,v4,v5,v6,u7]:=h.stored 6 v6
 have h:IsBlk _ g T #[v0,v1,v2,v3,v4,v5,v6,v7]:=h.stored 7 v7
 exact h
theorem lay8_but (w:World) (g:Nat) (v0 v1 v2 v3 v4 v5 v6 v7:Value):But (fun k=>k=g) w (lay8 w g v0 v1 v2 v3 v4 v5 v6 v7):=by
 have h:=But.refl (fun k=>k=g) w
 have h:=h.setCell (p:=⟨g,0,none⟩) (.inl rfl) v0
 have h:=h.setCell (p:=⟨g,1,none⟩) (.inl rfl) v1
 have h:=h.setCell (p:=⟨g,2,none⟩) (.inl rfl) v2
 have h:=h.setCell (p:=⟨g,3,none⟩) (.inl rfl) v3
 have h:=h.setCell (p:=⟨g,4,none⟩) (.inl rfl) v4
 have h:=h.setCell (p:=⟨g,5,none⟩) (.inl rfl) v5
 have h:=h.setCell (p:=⟨g,6,none⟩) (.inl rfl) v6
 exact h.setCell (p:=⟨g,7,none⟩) (.inl rfl) v7
theorem gives8_of {gp gc gw g:Nat} {W:Wds} {s':PSt} {x:St} {w w3 w4:World} {D:Nat} {Ac Ae Ab Al:Option Addr} {nc cc ne ce nb cb nl cl:Nat} {T:TypeId} {u0 u1 u2 u3 u4 u5 u6 u7:Value}
  (hx:StAt (Fr w3) D w4 [.int .i64 x.op,.string x.name,.string x.src,.int .i64 x.n,.slice Ac nc cc,.slice Ae ne ce,.slice Ab nb cb,.slice Al nl cl] x) (hP:PAt gp gc gw W s' w4) (hB:But (On2 gp gc) w w4) (hk:IsBlk w4 g T #[u0,u1,u2,u3,u4,u5,u6,u7]) (hg1:w.heap.size≤g) (hg2:g<w3.heap.size) (hz:gp<w.heap.size∧gc<w.heap.size∧gw<w.heap.size) :
  IsBlk (lay8 w4 g (.int .i64 x.op) (.string x.name) (.string x.src) (.int .i64 x.n) (.slice Ac nc cc) (.slice Ae ne ce) (.slice Ab nb cb) (.slice Al nl cl)) g T #[.int .i64 x.op,.string x.name,.string x.src,.int .i64 x.n,.slice Ac nc cc,.slice Ae ne ce,.slice Ab nb cb,.slice Al nl cl] ∧
  GivesS gp gc gw W s' x w (.returned (.agg #[.int .i64 x.op,.string x.name,.string x.src,.int .i64 x.n,.slice Ac nc cc,.slice Ae ne ce,.slice Ab nb cb,.slice Al nl cl])) (lay8 w4 g (.int .i64 x.op) (.string x.name) (.string x.src) (.int .i64 x.n) (.slice Ac nc cc) (.slice Ae ne ce) (.slice Ab nb cb) (.slice Al nl cl)):=by
 have hb7:=lay8_but w4 g (.int .i64 x.op) (.string x.name) (.string x.src) (.int .i64 x.n) (.slice Ac nc cc) (.slice Ae ne ce) (.slice Ab nb cb) (.slice Al nl cl)
 refine⟨lay8_blk _ _ _ _ _ _ _ _ hk,_,D,rfl,?_,hP.elsewhere hb7 (by omega),hB.trans hb7 (fun i hi=>.inr (by omega))⟩
 exact StAt.conv (fun k (hk:w3.heap.size≤k)=>by show w.heap.size≤k;omega) (Kept.of_but hb7 fun k (hk:w3.heap.size≤k) e=>by omega) D (Nat.le_refl _) hx
theorem st_of {F:Nat→Prop} {d:Nat} {w:World} {op n:Int} {name src:ByteArray} {cols:List ByteArray} {es:List Ex} {bo el:List St} {Ac Ae Ab Al:Option Addr} {nc cc ne ce nb cb nl cl:Nat} (h0:0≤op) (h1:op≤100) (hn:okI n) (hm:okS name) (hs:okS src)
  (hc:LsAt F w 1 SRow Ac nc cc cols) (he:ExsAt F d w Ae ne ce es) (hb:StsAt F d w Ab nb cb bo) (hl:StsAt F d w Al nl cl el):StAt F (d+1) w [.int .i64 op,.string name,.string src,.int .i64 n,.slice Ac nc cc,.slice Ae ne ce,.slice Ab nb cb,.slice Al nl cl] (.mk op name src n cols es bo el) :=
 ⟨⟨by show _≤op;omega,by show op≤_;omega⟩,hn,hm,hs,Ac,nc,cc,Ae,ne,ce,Ab,nb,cb,Al,nl,cl,rfl,hc,he,hb,hl⟩
theorem sts_nil (F:Nat→Prop) (d:Nat) (w:World):StsAt F d w none 0 0 []:=LsAt.nil_ _ _ _ _
theorem okS_0:okS nil0:=by unfold okS;exact Nat.zero_le _
theorem okI_0:okI 0:=by constructor<;>simp
structure ExRow (n0:Nat) (X:Nat→Prop) (w:World) (A:Option Addr) (c:Nat) (rows:List (List Value)) (D:Nat) (xs:List Ex):Prop where
 own:w.ownsRow n0 32 6 (.slice A xs.length c) xs.length rows.flatten
 len:rows.length=xs.length
 at_:∀ (k:Nat) (r:List Value) (x:Ex),rows[k]?=some r→xs[k]?=some x→r.length=6∧ExAt (fun b=>n0≤b∧A.map (·.block)≠some b∧¬ X b) D w r x
 off:∀ b,X b→A.map (·.block)≠some b
theorem ExRow.low {n0:Nat} {X:Nat→Prop} {w:World} {A:Option Addr} {c:Nat} {rows:List (List Value)} {D:Nat} {xs:List Ex} (h:ExRow n0 X w A c rows D xs):∀ k,A.map (·.block)=some k→n0≤k∧k<w.heap.size:=by
 intro k hk
 cases A with
 | none=>cases hk
 | some a =>
  have e:a.block=k:=by simpa using hk
  subst e
  exact h.own.lt a.block rfl
theorem ExRow.wid {n0:Nat} {X:Nat→Prop} {w:World} {A:Option Addr} {c:Nat} {rows:List (List Value)} {D:Nat} {xs:List Ex} (h:ExRow n0 X w A c rows D xs):∀ r∈rows,r.length=6:=by
 intro r hr
 obtain⟨k,hk,rfl⟩:=List.mem_iff_getElem.1 hr
 exact(h.at_ k _ _ (List.getElem?_eq_getElem hk) (List.getElem?_eq_getElem (by have:=h.len;omega))).1
theorem ExRow.keep {n0:Nat} {X X':Nat→Prop} {w w':World} {A:Option Addr} {c:Nat} {rows:List (List Value)} {D:Nat} {xs:List Ex} {S:Nat→Prop} (h:ExRow n0 X w A c rows D xs) (hb:But S w w') (hS:∀ k,S k→k<n0∨X k) (hX:∀ k,X' k→X k∨w.heap.size≤k):ExRow n0 X' w' A c rows D xs:=by
 refine⟨own_but h.own hb (fun g hg hs=>?_),h.len,fun k r x hr hx=>⟨(h.at_ k r x hr hx).1,?_⟩,fun b hb2 e=>?_⟩
 ·obtain⟨A',c',e1,hnc⟩:=ownsRow_form h.own
  have h1:=h.own.lt g hg
  rcases hS g hs with h2|h2
  ·omega
  ·refine h.off g h2 ?_
   cases A with
   | none=>cases hg
   | some a=>exact hg
 ·have h1:=ExAt.turn (F':=fun b=>(n0≤b∧A.map (·.block)≠some b∧¬ X' b)∧¬ X b) (fun k hk hf=>⟨⟨hf.1,hf.2.1,fun hx'=>by rcases hX k hx' with e|e;exact hf.2.2 e;omega⟩,hf.2.2⟩) (Kept.refl _ _) D (Nat.le_refl _) (h.at_ k r x hr hx).2
  exact ExAt.conv (fun _ h=>h.1) (Kept.of_but hb fun b hb2 hs=>by rcases hS b hs with e|e;have:=hb2.1.1;omega;exact hb2.2 e) D (Nat.le_refl _) h1
 ·rcases hX b hb2 with e2|e2
  ·exact h.off b e2 e
  ·have:=(h.low b e).2;omega
structure GrownX (gp gc gw n0:Nat) (X:Nat→Prop) (W:Wds) (s':PSt) (w:World) (A:Option Addr) (xs:List Ex) (x:Ex) (rows:List (List Value)) (row:List Value) (D:Nat) (A6:Option Addr) (c6:Nat) (W6:World):Prop where
 p:PAt gp gc gw W s' W6
 own:W6.ownsRow n0 32 6 (.slice A6 (xs.length+1) c6) (xs.length+1) (rows++[zrow]).flatten
 old:∀ (k:Nat) (r:List Value) (y:Ex),rows[k]?=some r→xs[k]?=some y→r.length=6∧ExAt (fun b=>n0≤b∧A6.map (·.block)≠some b∧¬ X b) D W6 r y
 new_:ExAt (fun b=>n0≤b∧A6.map (·.block)≠some b∧¬ X b) D W6 row x
 off:∀ b,X b→A6.map (·.block)≠some b
 fr:∀ k,A6.map (·.block)=some k→A.map (·.block)=some k∨w.heap.size≤k
 but:But (fun k=>k=gp∨k=gc∨A.map (·.block)=some k) w W6
theorem GrownX.of {gp gc gw n0:Nat} {X:Nat→Prop} {W:Wds} {s':PSt} {w Wc w5 w6:World} {A:Option Addr} {c D D5:Nat} {rows:List (List Value)} {xs:List Ex} {x:Ex} {row:List Value} (h:ExRow n0 X w A c rows D xs) (hg:gp<n0∧gc<n0∧gw<n0) (hn:n0≤w.heap.size) (hX:∀ k,X k→k<w.heap.size) (hB:But (On2 gp gc) w w5) (hx:ExAt (Fr w) D5 w5 row x) (hP:PAt gp gc gw W s' w5)
  (hal:Below w5.heap.size w5 Wc) {A6:Option Addr} {c6:Nat} (hown:w6.ownsRow n0 32 6 (.slice A6 (xs.length+1) c6) (xs.length+1) (rows++[zrow]).flatten)
  (hbut:But (fun k=>A.map (·.block)=some k) Wc w6) (hf:∀ a2,A6=some a2→A=some a2∨Wc.heap.size≤a2.block):GrownX gp gc gw n0 X W s' w A xs x rows row (max D D5) A6 c6 w6:=by
 have h':ExRow n0 X w5 A c rows D xs:=h.keep hB (fun k hk=>by rcases hk with e|e<;>subst e<;>omega) (fun k hk=>.inl hk)
 have hlow:=h.low
 have hs:=hB.size
 have hsz:=hal.size
 have hfr:∀ b,A6.map (·.block)=some b→A.map (·.block)=some b∨w5.heap.size≤b:=fun b h2=>by
  cases A6 with
  | none=>cases h2
  | some a6 =>
   have e:a6.block=b:=by simpa using h2
   rcases hf a6 rfl with e2|e2
   ·exact .inl (by rw[e2];simpa using e)
   ·exact .inr (by omega)
 have hne:∀ b,b<w5.heap.size→A.map (·.block)≠some b→A6.map (·.block)≠some b:=fun b hb h1 h2=>by
  rcases hfr b h2 with e|e
  ·exact h1 e
  ·omega
 refine⟨(hP.below hal).off hbut fun k hk=>?_,hown,fun k r y hr hy=>⟨(h'.at_ k r y hr hy).1,?_⟩,?_,fun b hb=>hne b (by have:=hX b hb;omega) (h.off b hb),fun k hk=>(hfr k hk).imp id (fun e=>by omega),(hB.mono fun i hi=>.inl (by rcases hi with e|e;exact .inl e;exact .inr (.inl e))).trans (But.of_below hal |>.trans hbut (fun i hi=>.inl hi)) fun i hi=>.inl (.inr (.inr hi))⟩
 ·have:=hlow k hk;omega
 ·have h1:=ExAt.turn (F':=fun b=>(n0≤b∧A6.map (·.block)≠some b∧¬ X b)∧A.map (·.block)≠some b) (fun k hk hf=>⟨⟨hf.1,hne k hk hf.2.1,hf.2.2⟩,hf.2.1⟩) (Kept.of_below hal) D (Nat.le_max_left D D5) (h'.at_ k r y hr hy).2
  exact ExAt.conv (fun _ h=>h.1) (Kept.of_but hbut fun b hb hk=>hb.2 hk) _ (Nat.le_refl _) h1
 ·have h1:=ExAt.turn (F':=fun b=>(n0≤b∧A6.map (·.block)≠some b∧¬ X b)∧A.map (·.block)≠some b) (fun k hk (hf:w.heap.size≤k)=>⟨⟨by omega,hne k hk (fun e=>by have:=(hlow k e).2;omega),fun e=>by have:=hX k e;omega⟩,fun e=>by have:=(hlow k e).2;omega⟩) (Kept.of_below hal) D5 (Nat.le_max_right D D5) hx
  exact ExAt.conv (fun _ h=>h.1) (Kept.of_but hbut fun b hb hk=>hb.2 hk) _ (Nat.le_refl _) h1
theorem ExRow.grown {gp gc gw gl n0 j:Nat} {X:Nat→Prop} {W:Wds} {s':PSt} {w w6:World} {A:Option Addr} {xs:List Ex} {x:Ex} {rows:List (List Value)} {D g6 c6:Nat} {A5:Option Addr} {m5 c5:Nat} {T:TypeId} {cs:Array Value}
  (hG:GrownX gp gc gw n0 X W s' w A xs x rows [.int .i64 x.op,.int .i64 x.n,.string x.s,.string x.name,.string x.src,.slice A5 m5 c5] D (some ⟨g6,0,none⟩) c6 w6) (hk:IsBlk w6 gl T cs) (hg:gp<n0∧gc<n0∧gw<n0∧gl≠gp∧gl≠gc∧gl≠gw∧gl<n0) (hw:∀ r∈rows,r.length=6) (hl:rows.length=xs.length) (h6:n0≤g6) :
  PAt gp gc gw W s' ((lay6At w6 g6 (xs.length*6) (.int .i64 x.op) (.int .i64 x.n) (.string x.s) (.string x.name) (.string x.src) (.slice A5 m5 c5)).setCell ⟨gl,j,none⟩ (.slice (some ⟨g6,0,none⟩) (xs.length+1) c6)) ∧
  (∃ rows',ExRow n0 X ((lay6At w6 g6 (xs.length*6) (.int .i64 x.op) (.int .i64 x.n) (.string x.s) (.string x.name) (.string x.src) (.slice A5 m5 c5)).setCell ⟨gl,j,none⟩ (.slice (some ⟨g6,0,none⟩) (xs.length+1) c6)) (some ⟨g6,0,none⟩) c6 rows' D (xs++[x])) ∧
  IsBlk ((lay6At w6 g6 (xs.length*6) (.int .i64 x.op) (.int .i64 x.n) (.string x.s) (.string x.name) (.string x.src) (.slice A5 m5 c5)).setCell ⟨gl,j,none⟩ (.slice (some ⟨g6,0,none⟩) (xs.length+1) c6)) gl T (cs.setIfInBounds j (.slice (some ⟨g6,0,none⟩) (xs.length+1) c6)) ∧
  But (fun k=>k=gp∨k=gc∨k=gl∨A.map (·.block)=some k) w ((lay6At w6 g6 (xs.length*6) (.int .i64 x.op) (.int .i64 x.n) (.string x.s) (.string x.name) (.string x.src) (.slice A5 m5 c5)).setCell ⟨gl,j,none⟩ (.slice (some ⟨g6,0,none⟩) (xs.length+1) c6)):=by
 have hb1:=lay6At_but w6 g6 (xs.length*6) (.int .i64 x.op) (.int .i64 x.n) (.string x.s) (.string x.name) (.string x.src) (.slice A5 m5 c5)
 have ho1:=own_last (.int .i64 x.op) (.int .i64 x.n) (.string x.s) (.string x.name) (.string x.src) (.slice A5 m5 c5) hG.own hw hl
 have hp1:=hG.p.off hb1 (fun k hk=>by omega)
 have hk1:=hk.as_was (hb1.block _ hk.lt (by omega))
 have hold1:∀ (k:Nat) (r:List Value) (y:Ex),rows[k]?=some r→xs[k]?=some y→r.length=6∧ExAt (fun b=>n0≤b∧(some (⟨g6,0,none⟩:Addr)).map (·.block)≠some b∧¬ X b) D (lay6At w6 g6 (xs.length*6) (.int .i64 x.op) (.int .i64 x.n) (.string x.s) (.string x.name) (.string x.src) (.slice A5 m5 c5)) r y:=fun k r y h1 h2=>⟨(hG.old k r y h1 h2).1,(hG.old k r y h1 h2).2.kept (Kept.of_but hb1 fun b hb e=>hb.2.1 (by simp[e]))⟩
 have hnew1:=hG.new_.kept (Kept.of_but hb1 fun b hb e=>hb.2.1 (by simp[e]))
 have hfr:=hG.fr g6 rfl
 generalize lay6At w6 g6 (xs.length*6) (.int .i64 x.op) (.int .i64 x.n) (.string x.s) (.string x.name) (.string x.src) (.slice A5 m5 c5)=w7 at *
 have hb2:=(But.refl (fun k=>k=gl) w7).setCell (p:=⟨gl,j,none⟩) (.inl rfl) (.slice (some ⟨g6,0,none⟩) (xs.length+1) c6)
 have hk2:=hk1.stored j (.slice (some ⟨g6,0,none⟩) (xs.length+1) c6)
 have hlen:(xs++[x]).length=xs.length+1:=by simp
 refine⟨hp1.off hb2 (fun k hk=>by omega),⟨rows++[[.int .i64 x.op,.int .i64 x.n,.string x.s,.string x.name,.string x.src,.slice A5 m5 c5]],⟨by rw[hlen];exact own_but ho1 hb2 (fun g hg3 e=>by have:=(ho1.lt g hg3).1;omega),by simp[hl],fun k r y hr hy=>?_,hG.off⟩⟩,hk2,?_⟩
 ·rcases Nat.lt_trichotomy k xs.length with h|h|h
  ·rw[List.getElem?_append_left (by omega)] at hr hy
   obtain⟨h1,h2⟩:=hold1 k r y hr hy
   exact⟨h1,h2.kept (Kept.of_but hb2 fun b hb e=>by have:=hb.1;omega)⟩
  ·subst h
   rw[List.getElem?_append_right (by omega)] at hr hy
   rw[hl] at hr
   simp at hr hy
   subst hr hy
   exact⟨rfl,hnew1.kept (Kept.of_but hb2 fun b hb e=>by have:=hb.1;omega)⟩
  ·rw[List.getElem?_eq_none (by simp;omega)] at hy
   cases hy
 ·exact((hG.but.mono (fun i hi=>.inl (by rcases hi with e|e|e;exact .inl e;exact .inr (.inl e);exact .inr (.inr (.inr e))))).trans hb1 (fun i hi=>by subst hi;rcases hfr with e|e;exact .inl (.inr (.inr (.inr e)));exact .inr e)).trans hb2 (fun i hi=>.inl (.inr (.inr (.inl hi))))
abbrev txrow (x:ByteArray):List Value:=[.string x]
structure SetOwn (n0 gl:Nat) (w:World) (nm sc:ByteArray) (Ac:Option Addr) (cc:Nat) (A:Option Addr) (c:Nat) (rows:List (List Value)) (D:Nat) (ns:List ByteArray) (xs:List Ex):Prop where
 blk:IsBlk w gl 67 #[.int .i64 4,.string nm,.string sc,.int .i64 0,.slice Ac ns.length cc,.slice A xs.length c,.slice none 0 0,.slice none 0 0]
 ownc:w.ownsRow n0 9 1 (.slice Ac ns.length cc) ns.length (ns.map txrow).flatten
 okc:∀ x∈ns,okS x
 row:ExRow n0 (fun k=>Ac.map (·.block)=some k) w A c rows D xs
theorem SetOwn.lowc {n0 gl:Nat} {w:World} {nm sc:ByteArray} {Ac:Option Addr} {cc:Nat} {A:Option Addr} {c:Nat} {rows:List (List Value)} {D:Nat} {ns:List ByteArray} {xs:List Ex} (h:SetOwn n0 gl w nm sc Ac cc A c rows D ns xs):∀ k,Ac.map (·.block)=some k→n0≤k∧k<w.heap.size:=by
 intro k hk
 cases Ac with
 | none=>cases hk
 | some a =>
  have e:a.block=k:=by simpa using hk
  subst e
  exact h.ownc.lt a.block rfl
theorem SetOwn.on2 {gp gc n0 gl:Nat} {w w5:World} {nm sc:ByteArray} {Ac:Option Addr} {cc:Nat} {A:Option Addr} {c:Nat} {rows:List (List Value)} {D:Nat} {ns:List ByteArray} {xs:List Ex} (h:SetOwn n0 gl w nm sc Ac cc A c rows D ns xs) (hb:But (On2 gp gc) w w5) (hg:gp<n0∧gc<n0∧gl≠gp∧gl≠gc):SetOwn n0 gl w5 nm sc Ac cc A c rows D ns xs :=
 ⟨h.blk.as_was (hb.block _ h.blk.lt (by rintro(e|e);exact hg.2.2.1 e;exact hg.2.2.2 e)),own_but h.ownc hb (fun g hg2 hs=>by have:=(h.ownc.lt g hg2).1;rcases hs with e|e<;>omega),h.okc,h.row.keep hb (fun k hk=>by rcases hk with e|e<;>subst e<;>omega) (fun k hk=>.inl hk)⟩
theorem SetOwn.named {n0 gl:Nat} {w Wc w6:World} {nm sc:ByteArray} {Ac:Option Addr} {cc:Nat} {A:Option Addr} {c:Nat} {rows:List (List Value)} {D:Nat} {ns:List ByteArray} {xs:List Ex} {x:ByteArray} (h:SetOwn n0 gl w nm sc Ac cc A c rows D ns xs) (hx:okS x) (hgl:gl<n0) (hal:Below w.heap.size w Wc) {A6:Option Addr} {c6:Nat}
  (hown:w6.ownsRow n0 9 1 (.slice A6 (ns.length+1) c6) (ns.length+1) (ns.map txrow++[txrow x]).flatten) (hbut:But (fun k=>Ac.map (·.block)=some k) Wc w6) (hf:∀ a2,A6=some a2→Ac=some a2∨Wc.heap.size≤a2.block) :
  ∃ a6,A6=some a6∧n0≤a6.block∧IsBlk w6 gl 67 #[.int .i64 4,.string nm,.string sc,.int .i64 0,.slice Ac ns.length cc,.slice A xs.length c,.slice none 0 0,.slice none 0 0] ∧
  SetOwn n0 gl (w6.setCell ⟨gl,4,none⟩ (.slice A6 (ns.length+1) c6)) nm sc A6 c6 A c rows D (ns++[x]) xs:=by
 have hlow:=h.lowc
 have hsz:=hal.size
 have hk6:=(h.blk.as_was (hal.block _ h.blk.lt)).as_was (hbut.block _ (h.blk.as_was (hal.block _ h.blk.lt)).lt (fun e=>by have:=hlow gl e;omega))
 have hb2:=(But.refl (fun k=>k=gl) w6).setCell (p:=⟨gl,4,none⟩) (.inl rfl) (.slice A6 (ns.length+1) c6)
 obtain⟨g,cap,hv,hb,hg⟩:=hown.form (by omega)
 simp only[Value.slice.injEq] at hv
 obtain⟨rfl,_,_⟩:=hv
 have hr:=h.row.keep (S:=fun _=>False) (X':=fun k=>Ac.map (·.block)=some k) (But.of_below hal) (fun _ h=>h.elim) (fun k hk=>.inl hk)
 have hr2:=hr.keep (X':=fun k=>(some (⟨g,0,none⟩:Addr)).map (·.block)=some k) hbut (fun k hk=>.inr hk) (fun k hk=>by
  have e:g=k:=by simpa using hk
  subst e
  rcases hf _ rfl with e2|e2
  ·exact .inl (by rw[e2];rfl)
  ·exact .inr e2)
 have hr3:=hr2.keep (X':=fun k=>(some (⟨g,0,none⟩:Addr)).map (·.block)=some k) hb2 (fun k hk=>by subst hk;exact .inl hgl) (fun k hk=>.inl hk)
 refine⟨_,rfl,hb,hk6,?_,?_,?_,hr3⟩
 ·have:=hk6.stored 4 (.slice (some ⟨g,0,none⟩) (ns.length+1) c6)
  simpa using this
 ·have e:(ns++[x]).length=ns.length+1:=by simp
  have e2:(ns++[x]).map txrow=ns.map txrow++[txrow x]:=by simp
  rw[e,e2]
  exact own_but hown hb2 (fun g2 hg2 e2=>by have:=(hown.lt g2 hg2).1;omega)
 ·intro y hy
  rcases List.mem_append.1 hy with hy|hy
  ·exact h.okc y hy
  ·simp only[List.mem_singleton] at hy;subst hy;exact hx
structure Naming (gp gc gw gl gb n0:Nat) (W:Wds) (s':PSt) (w:World) (nm sc:ByteArray) (A:Option Addr) (c:Nat) (rows:List (List Value)) (D:Nat) (ns:List ByteArray) (xs:List Ex) (wr:World):Prop where
 p:PAt gp gc gw W s' wr
 o:∃ Ac cc,SetOwn n0 gl wr nm sc Ac cc A c rows D ns xs
 b:But (On3 gp gc gl n0) w wr
 k:IsBlk wr gb 75 #[.pointer (some ⟨gp,0,none⟩)]
theorem Naming.of {gp gc gw gl gb n0:Nat} {W:Wds} {s':PSt} {w w5 Wc w6:World} {nm sc a:ByteArray} {Ac:Option Addr} {cc:Nat} {A:Option Addr} {c:Nat} {rows:List (List Value)} {D:Nat} {ns:List ByteArray} {xs:List Ex} {A6:Option Addr} {c6:Nat}
  (hl:SetOwn n0 gl w nm sc Ac cc A c rows D ns xs) (hb:IsBlk w gb 75 #[.pointer (some ⟨gp,0,none⟩)]) (hg:gp<n0∧gc<n0∧gw<n0∧gl≠gp∧gl≠gc) (hg2:gl≠gw∧gl<n0∧gb<n0∧gb≠gp∧gb≠gc∧gb≠gl) (hok:okS a)
  (hB:But (On2 gp gc) w.drew w5) (hP:PAt gp gc gw W s' w5) (hal:Below w5.heap.size w5 Wc) (hown:w6.ownsRow n0 9 1 (.slice A6 (ns.length+1) c6) (ns.length+1) (ns.map txrow++[txrow a]).flatten) (hbut:But (fun k=>Ac.map (·.block)=some k) Wc w6) (hf:∀ a2,A6=some a2→Ac=some a2∨Wc.heap.size≤a2.block) :
  (IsBlk w6 gl 67 #[.int .i64 4,.string nm,.string sc,.int .i64 0,.slice Ac ns.length cc,.slice A xs.length c,.slice none 0 0,.slice none 0 0]∧IsBlk w6 gb 75 #[.pointer (some ⟨gp,0,none⟩)]) ∧
  Naming gp gc gw gl gb n0 W s' w nm sc A c rows D (ns++[a]) xs (w6.setCell ⟨gl,4,none⟩ (.slice A6 (ns.length+1) c6)):=by
 have hld:SetOwn n0 gl w5 nm sc Ac cc A c rows D ns xs:=(hl.on2 (gp:=gp) (gc:=gc) ((But.refl _ w).drew) ⟨hg.1,hg.2.1,hg.2.2.2⟩).on2 hB ⟨hg.1,hg.2.1,hg.2.2.2⟩
 have hb5:IsBlk w5 gb 75 #[.pointer (some ⟨gp,0,none⟩)]:=IsBlk.as_was hb (hB.block gb (by have:=hb.lt;simpa using this) (by rintro(e|e);exact hg2.2.2.2.1 e;exact hg2.2.2.2.2.1 e))
 have hlow:=hld.lowc
 obtain⟨a6,rfl,r1,hk6,hS6⟩:=hld.named hok hg2.2.1 hal hown hbut hf
 have hb6:=(hb5.as_was (hal.block _ hb5.lt)).as_was (hbut.block _ (hb5.as_was (hal.block _ hb5.lt)).lt (fun e=>by have:=hlow _ e;omega))
 have hbl:=(But.refl (fun k=>k=gl) w6).setCell (p:=⟨gl,4,none⟩) (.inl rfl) (.slice (some a6) (ns.length+1) c6)
 refine⟨⟨hk6,hb6⟩,((hP.below hal).off hbut (fun k hk=>by have:=hlow k hk;omega)).off hbl (fun k hk=>by omega),⟨_,_,hS6⟩,?_,hb6.as_was (hbl.block _ hb6.lt (by have:=hg2.2.2.2.2.2;omega))⟩
 have h1:But (On3 gp gc gl n0) w w5:=((But.refl (On3 gp gc gl n0) w).drew).trans' (on3_on2 hB)
 exact((h1.trans' (But.of_below hal)).trans hbut (fun i hi=>.inl (.inr (.inr (.inr (hlow i hi).1))))).trans hbl (fun i hi=>.inl (.inr (.inr (.inl hi))))
theorem SetOwn.grown {gp gc gw gl gb n0:Nat} {W:Wds} {s':PSt} {w w5 Wc w6:World} {nm sc:ByteArray} {Ac:Option Addr} {cc:Nat} {A:Option Addr} {c:Nat} {rows:List (List Value)} {D D5:Nat} {ns:List ByteArray} {xs:List Ex} {x:Ex} {A5:Option Addr} {m5 c5 g6 c6:Nat}
  (hl:SetOwn n0 gl w nm sc Ac cc A c rows D ns xs) (hg:gp<n0∧gc<n0∧gw<n0∧gl≠gp∧gl≠gc) (hg2:gl≠gw∧gl<n0∧gb<n0∧gb≠gp∧gb≠gc∧gb≠gl) (hn:n0≤w.heap.size)
  (hB:But (On2 gp gc) w.drew w5) (hx:ExAt (Fr w.drew) D5 w5 [.int .i64 x.op,.int .i64 x.n,.string x.s,.string x.name,.string x.src,.slice A5 m5 c5] x) (hP:PAt gp gc gw W s' w5) (hal:Below w5.heap.size w5 Wc) (hown:w6.ownsRow n0 32 6 (.slice (some ⟨g6,0,none⟩) (xs.length+1) c6) (xs.length+1) (rows++[zrow]).flatten) (hbut:But (fun k=>A.map (·.block)=some k) Wc w6) (hf:∀ a2,(some ⟨g6,0,none⟩:Option Addr)=some a2→A=some a2∨Wc.heap.size≤a2.block) (h6:n0≤g6) :
  PAt gp gc gw W s' ((lay6At w6 g6 (xs.length*6) (.int .i64 x.op) (.int .i64 x.n) (.string x.s) (.string x.name) (.string x.src) (.slice A5 m5 c5)).setCell ⟨gl,5,none⟩ (.slice (some ⟨g6,0,none⟩) (xs.length+1) c6)) ∧
  (∃ Ac' cc' A' c' rows' D',SetOwn n0 gl ((lay6At w6 g6 (xs.length*6) (.int .i64 x.op) (.int .i64 x.n) (.string x.s) (.string x.name) (.string x.src) (.slice A5 m5 c5)).setCell ⟨gl,5,none⟩ (.slice (some ⟨g6,0,none⟩) (xs.length+1) c6)) nm sc Ac' cc' A' c' rows' D' ns (xs++[x])) ∧
  But (On3 gp gc gl n0) w ((lay6At w6 g6 (xs.length*6) (.int .i64 x.op) (.int .i64 x.n) (.string x.s) (.string x.name) (.string x.src) (.slice A5 m5 c5)).setCell ⟨gl,5,none⟩ (.slice (some ⟨g6,0,none⟩) (xs.length+1) c6)):=by
 have hld:SetOwn n0 gl w.drew nm sc Ac cc A c rows D ns xs:=hl.on2 (gp:=gp) (gc:=gc) ((But.refl _ w).drew) ⟨hg.1,hg.2.1,hg.2.2.2⟩
 have hlowA:=hld.row.low
 have hlowc:=hld.lowc
 have hn2:n0≤w.drew.heap.size:=hn
 have hl5:=hld.on2 hB ⟨hg.1,hg.2.1,hg.2.2.2⟩
 have hk5:=hl5.blk
 have hk6:=(hk5.as_was (hal.block _ hk5.lt)).as_was (hbut.block _ (hk5.as_was (hal.block _ hk5.lt)).lt (fun e=>by have:=hlowA _ e;omega))
 have hG:=GrownX.of hld.row ⟨hg.1,hg.2.1,hg.2.2.1⟩ hn2 (fun k hk=>(hlowc k hk).2) hB hx hP hal hown hbut hf
 have hE:=ExRow.grown (j:=5) hG hk6 ⟨hg.1,hg.2.1,hg.2.2.1,hg.2.2.2.1,hg.2.2.2.2,hg2.1,hg2.2.1⟩ hld.row.wid hld.row.len h6
 obtain⟨hp,⟨rows',hr⟩,hk,hb⟩:=hE
 have hoc:=own_but hld.ownc hb (fun g hg3 e=>by
  have h1:=hld.ownc.lt g hg3
  have h2:Ac.map (·.block)=some g:=by
   cases Ac with
   | none=>cases hg3
   | some a=>exact hg3
  rcases e with e|e|e|e
  ·omega
  ·omega
  ·omega
  ·exact hld.row.off g h2 e)
 refine⟨hp,⟨Ac,cc,_,_,rows',_,⟨?_,hoc,hld.okc,hr⟩⟩,((But.refl (On3 gp gc gl n0) w).drew).trans hb (fun i hi=>.inl (by rcases hi with e|e|e|e;exact .inl e;exact .inr (.inl e);exact .inr (.inr (.inl e));exact .inr (.inr (.inr (hlowA i e).1))))⟩
 have e:(xs++[x]).length=xs.length+1:=by simp
 rw[e]
 simpa using hk
end Go.Proofs.YtdgapmnojmhllaaGreatDoor

/- Parts of this proof, one behind the other: RefT. -/
import Derived.Test.YtmfcmpnlipnopaaGreatTw24
import Derived.Test.YtmfcmpnlipnopaaGreatTw2
import Derived.Deep.RegionHeld3
import Derived.Deep.RegionLaw
import Derived.Deep.Cut
set_option maxRecDepth 1000000
set_option maxHeartbeats 40000000
namespace Go.Proofs.YtmfcmpnlipnopaaGreat
open Go.RowKit Go.Afx
theorem stepApp {P:Program} {w:World} {ops:Array Oper} {o:Oper} {a:Act} {K:Act→World→Prop} {Q:Exit→Act→World→Prop} {E:Prop} (hgd:o.guard=none) {s x:Operand} {t:TypeId}
  (ho:o.op=.call { callee:=.builtin .append,args:=#[s,x],argTypes:=#[t,t] })
  {base:Nat} {e:TypeId} {sz bytes:Nat} {z:Value} (hT:ElemTy P t e sz bytes z)
  {A:Option Addr} {n c:Nat} {xs:List (List Value)} (hs:a.eval s=.slice A n c) (hown:w.ownsRow base e sz (.slice A n c) n xs.flatten)
  {A':Option Addr} {m c':Nat} {news:List (List Value)} (hx:a.eval x=.slice A' m c') (hnews:RowsAt w sz A' m c' news) (hlen:∀ r∈news,r.length=sz) (h1:∀ r∈news,∀ u∈r,u.oneCell'=true)
  (h63:n+m≤maxLen) (hbytes:(n+m)*bytes≤140737488355328) (hbase:base≤w.heap.size)
  (h:∀ A2 c2 w',w'.ownsRow base e sz (.slice A2 (n+m) c2) (n+m) (xs++news).flatten→But (fun k=>A.map (·.block)=some k) w w'→(∀ a2,A2=some a2→A=some a2∨w.heap.size≤a2.block)→K (a.put o.dst (.slice A2 (n+m) c2)) w') :
  if Region.wanted o (yielded ops a.tmps)=true then Oper.wp P o a w K Q else E:=by
 have hw:Region.wanted o (yielded ops a.tmps)=true:=by simp[Region.wanted,hgd]
 rw[if_pos hw]
 obtain⟨A2,c2,w',hr,hown',hb,hf⟩:=run_app (P:=P) o.type hT hown hnews hlen h1 h63 hbytes hbase
 unfold Oper.wp execOp
 simp only[ho,resolve,invoke,builtin,Sem.run_bind,Sem.run_pure,Result.andThen_ok,List.map_toArray,List.map_cons,List.map_nil,hs,hx,hr]
 exact h A2 c2 w' hown' hb hf
theorem tyEx:ElemTy Tryz.prog 59 89 6 88 (.agg #[.int .i64 0,.int .i64 0,.string ByteArray.empty,.string ByteArray.empty,.string ByteArray.empty,.slice none 0 0]):=⟨Tryz.underlying59,by kernel_rfl,rfl,by decide⟩
theorem tyStm:ElemTy Tryz.prog 34 65 8 144 (.agg #[.int .i64 0,.string ByteArray.empty,.string ByteArray.empty,.int .i64 0,.slice none 0 0,.slice none 0 0,.slice none 0 0,.slice none 0 0]):=⟨Tryz.underlying34,by kernel_rfl,rfl,by decide⟩
theorem tyNum:ElemTy Tryz.prog 31 3 1 8 (.int .i64 0):=⟨Tryz.underlying31,by kernel_rfl,rfl,by decide⟩
structure Lf where
 op:Int
 n:Int
 s:ByteArray
 name:ByteArray
 src:ByteArray
 kids:List Int
structure Kn where
 op:Int
 name:ByteArray
 src:ByteArray
 n:Int
 cols:List ByteArray
 exprs:List Int
 body:List Int
 els:List Int
def LfAt (F:Nat→Prop) (w:World) (r:List Value) (x:Lf):Prop:=okI x.op∧okI x.n∧okS x.s∧okS x.name∧okS x.src ∧
 ∃ A m c,r=[.int .i64 x.op,.int .i64 x.n,.string x.s,.string x.name,.string x.src,.slice A m c]∧LsAt F w 1 IRow A m c x.kids
def KnAt (F:Nat→Prop) (w:World) (r:List Value) (x:Kn):Prop:=okI x.op∧okI x.n∧okS x.name∧okS x.src ∧
 ∃ Ac nc cc Ae ne ce Ab nb cb Al nl cl,r=[.int .i64 x.op,.string x.name,.string x.src,.int .i64 x.n,.slice Ac nc cc,.slice Ae ne ce,.slice Ab nb cb,.slice Al nl cl] ∧
  LsAt F w 1 SRow Ac nc cc x.cols∧LsAt F w 1 IRow Ae ne ce x.exprs∧LsAt F w 1 IRow Ab nb cb x.body∧LsAt F w 1 IRow Al nl cl x.els
def TreeAt (F:Nat→Prop) (w:World) (row:List Value) (es:List Ex) (ss:List St):Prop :=
 ∃ A0 c0 A1 c1 A2 c2 A3 c3 A4 c4 A5 c5,row=[.slice A0 es.length c0,.slice A1 es.length c1,.slice A2 es.length c2,.slice A3 ss.length c3,.slice A4 ss.length c4,.slice A5 ss.length c5] ∧
  ExsAt F 50 w A0 es.length c0 es∧LsAt F w 1 IRow A1 es.length c1 (es.map fun x=>(tellE x).1)∧LsAt F w 1 IRow A2 es.length c2 (es.map fun x=>(tellE x).2) ∧
  StsAt F 101 w A3 ss.length c3 ss∧LsAt F w 1 IRow A4 ss.length c4 (ss.map fun x=>(tellS x).1)∧LsAt F w 1 IRow A5 ss.length c5 (ss.map fun x=>(tellS x).2)∧es.length≤50∧ss.length≤50
def Forest (F:Nat→Prop) (w:World) (e:Ending) (w':World):Prop:=∃ row es ss,e=.returned (.agg row.toArray)∧TreeAt (fun b=>b<w'.heap.size∧(b<w.heap.size→F b)) w' row es ss∧Below w.heap.size w w'
def PE (hue:Nat→Nat) (w:World) (k:Nat) (r:List Value) (e:Ex):Prop:=ExAt (Hu hue 0) (k+1) w r e
structure EWood (F:Nat→Prop) (w wr:World) (hue:Nat→Nat) (es:List Ex) (A0:Option Addr) (c0:Nat) (A1:Option Addr) (c1:Nat) (A2:Option Addr) (c2:Nat) (v3 v4 v5:Value):Prop where
 box:IsBlk wr (w.heap.size+1) 61 #[.slice A0 es.length c0,.slice A1 es.length c1,.slice A2 es.length c2,v3,v4,v5]
 res:IsBlk wr w.heap.size 61 #[.slice none 0 0,.slice none 0 0,.slice none 0 0,.slice none 0 0,.slice none 0 0,.slice none 0 0]
 hb:hue (w.heap.size+1)=1
 hr:hue w.heap.size=9
 old:∀ b,b<w.heap.size→(F b→hue b=0)∧(¬ F b→hue b=8)
 tri:Tri hue 2 w.heap.size wr 89 6 3 (PE hue wr) tellE A0 c0 A1 c1 A2 c2 es
 low:Below w.heap.size w wr
 few:es.length≤50
open Classical in
noncomputable def hueAt (F:Nat→Prop) (w:World):Nat→Nat:=fun b=>if b=w.heap.size+1 then 1 else if b=w.heap.size then 9 else if F b then 0 else 8
theorem old_or {F:Nat→Prop} {b:Nat} {hue:Nat→Nat} (h:(F b→hue b=0)∧(¬ F b→hue b=8)):hue b=0∨hue b=8:=by
 rcases Classical.em (F b) with hf|hf
 ·exact .inl (h.1 hf)
 ·exact .inr (h.2 hf)
theorem EWood.start (F:Nat→Prop) (w:World):EWood F w ((w.alloc (.cells #[.slice none 0 0,.slice none 0 0,.slice none 0 0,.slice none 0 0,.slice none 0 0,.slice none 0 0] 61)).alloc (.cells #[.slice none 0 0,.slice none 0 0,.slice none 0 0,.slice none 0 0,.slice none 0 0,.slice none 0 0] 61)) (hueAt F w) [] none 0 none 0 none 0 (.slice none 0 0) (.slice none 0 0) (.slice none 0 0) :=
 ⟨laid_at (by simp) _ _,(IsBlk.laid _ _ _).alloc _,by simp[hueAt],by simp[hueAt],fun b hb=>by
  unfold hueAt
  rw[if_neg (by omega),if_neg (by omega)]
  exact⟨fun hf=>if_pos hf,fun hf=>if_neg hf⟩,Tri.nil_ _ _ _ _ _ _ _ _ _,((Below.refl _ _).alloc (Nat.le_refl _) _).alloc (by simp) _,by simp⟩
theorem treeBox {w:World} {g:Nat} {T:TypeId} {v0 v1 v2 v3 v4 v5:Value} (h:IsBlk w g T #[v0,v1,v2,v3,v4,v5]) :
  w.cell? ⟨g,0,none⟩=some v0∧w.cell? ⟨g,1,none⟩=some v1∧w.cell? ⟨g,2,none⟩=some v2∧w.cell? ⟨g,3,none⟩=some v3∧w.cell? ⟨g,4,none⟩=some v4∧w.cell? ⟨g,5,none⟩=some v5∧g<w.heap.size:=by
 have h0:=h.cell 0;have h1:=h.cell 1;have h2:=h.cell 2;have h3:=h.cell 3;have h4:=h.cell 4;have h5:=h.cell 5
 simp at h0 h1 h2 h3 h4 h5
 exact⟨h0,h1,h2,h3,h4,h5,h.lt⟩
structure EKids (w2 wr:World) (g:Nat) (hue:Nat→Nat) (w0:World) (k:Nat) (x:Lf) (args:List Ex) (Aa:Option Addr) (ca:Nat):Prop where
 box:IsBlk wr g 89 #[.int .i64 x.op,.int .i64 x.n,.string x.s,.string x.name,.string x.src,.slice Aa args.length ca]
 rows:∃ rows:List (List Value),wr.ownsRow w2.heap.size 89 6 (.slice Aa args.length ca) args.length rows.flatten∧rows.length=args.length∧(∀ r∈rows,r.length=6)∧∀ (j:Nat) (r:List Value) (e:Ex),rows[j]?=some r→args[j]?=some e→ExAt (Hu hue 0) k w0 r e
 but:But (fun b=>b=g) w2 wr
theorem EKids.start {w2:World} {g:Nat} (hue:Nat→Nat) (w0:World) (k:Nat) (x:Lf) (h:IsBlk w2 g 89 #[.int .i64 x.op,.int .i64 x.n,.string x.s,.string x.name,.string x.src,.slice none 0 0]):EKids w2 w2 g hue w0 k x [] none 0 :=
 ⟨h,⟨[],World.ownsRow_nil _ _ _ _,rfl,(by intro r h;cases h),fun j r e h=>by simp at h⟩,But.refl _ _⟩
theorem sum_four {args:List Ex} (h:args.length≤4):0≤sumT (args.map tellE)∧sumT (args.map tellE)≤4000:=by
 have:=sumT_bd (l:=args.map tellE) (fun t ht=>by obtain⟨a,_,rfl⟩:=List.mem_map.1 ht;exact tellE_ok a)
 rw[List.length_map] at this
 omega
theorem ite_max (a b:Int):(if a<b then b else a)=max a b:=by split<;>omega
theorem EKids.add {w2 wr w0 w3:World} {g k m ca c3:Nat} {hue:Nat→Nat} {x:Lf} {args:List Ex} {Aa A3:Option Addr} {rows:List (List Value)} {re:List Value} {a:Ex} {o:Obj} (h:EKids w2 wr g hue w0 k x args Aa ca) (hm:args.length=m) (hg:g<w2.heap.size)
  (hrl:rows.length=args.length) (hrw:∀ r∈rows,r.length=6) (hrP:∀ (j:Nat) (r:List Value) (e:Ex),rows[j]?=some r→args[j]?=some e→ExAt (Hu hue 0) k w0 r e) (hre:re.length=6) (hra:ExAt (Hu hue 0) k w0 re a)
  (hbl:∀ b,Aa.map (·.block)=some b→w2.heap.size≤b) (hown3:w3.ownsRow w2.heap.size 89 6 (.slice A3 (m+1) c3) (m+1) (rows++[re]).flatten) (hbut3:But (fun k=>Aa.map (·.block)=some k) ((wr.drew).alloc o) w3) (hfar:∀ a2,A3=some a2→w2.heap.size≤a2.block) :
  EKids w2 (w3.setCell ⟨g,5,none⟩ (.slice A3 (m+1) c3)) g hue w0 k x (args++[a]) A3 c3:=by
 have hl:(args++[a]).length=m+1:=by simp[hm]
 have hgr:g<wr.heap.size:=h.box.lt
 have hg3:¬ Aa.map (·.block)=some g:=fun e=>by have:=hbl g e;omega
 refine⟨?_,⟨rows++[re],?_,by simp[hrl],fun r hr=>?_,fun j r e hr he=>?_⟩,?_⟩
 ·have h1:IsBlk w3 g 89 _:=((show IsBlk wr.drew g _ _ from h.box).alloc o).as_was (hbut3.block g (by simp;omega) hg3)
  have h2:=h1.stored 5 (.slice A3 (m+1) c3)
  rw[hl]
  exact h2
 ·rw[hl]
  refine own_but hown3 ((But.refl (fun b=>b=g) w3).setCell (p:=⟨g,5,none⟩) (.inl rfl) _) fun b hb e=>?_
  subst e
  cases A3 with
  | none=>cases hb
  | some a3 =>
   have e:a3.block=b:=by simpa [Value.ownBlock] using hb
   have:=hfar a3 rfl
   omega
 ·rcases List.mem_append.1 hr with hr|hr
  ·exact hrw r hr
  ·rw[List.mem_singleton.1 hr];exact hre
 ·rcases Nat.lt_or_ge j args.length with hj|hj
  ·rw[List.getElem?_append_left (by omega)] at hr he
   exact hrP j r e hr he
  ·rw[List.getElem?_append_right (by omega)] at hr he
   have hj0:j-args.length=0:=by
    have:=(List.getElem?_eq_some_iff.1 he).1
    simp at this;omega
   rw[hj0] at he
   rw[hrl,hj0] at hr
   simp at hr he
   subst hr he
   exact hra
 ·have h1:But (fun b=>b=g) w2 ((wr.drew).alloc o):=(h.but.drew).alloc o
  exact(h1.trans hbut3 fun i hi=>.inr (hbl i hi)).setCell (p:=⟨g,5,none⟩) (.inl rfl) _
theorem EKids.far {w2 wr w0:World} {g k ca:Nat} {hue:Nat→Nat} {x:Lf} {args:List Ex} {Aa:Option Addr} (h:EKids w2 wr g hue w0 k x args Aa ca):∀ a,Aa=some a→w2.heap.size≤a.block:=by
 intro a ha
 obtain⟨rows,hown,_⟩:=h.rows
 subst ha
 exact(hown.lt a.block rfl).1
theorem EKids.below {w1 w2 wr:World} {g k ca:Nat} {hue:Nat→Nat} {w0:World} {x:Lf} {args:List Ex} {Aa:Option Addr} (h:EKids w2 wr g hue w0 k x args Aa ca) (hb:Below w1.heap.size w1 w2) (hg:w1.heap.size≤g):Below w1.heap.size w1 wr :=
 hb.trans (h.but.below' hb.size fun i hi=>by subst hi;exact hg)
theorem EKids.done {w1 w2 wr:World} {g k ca:Nat} {hue:Nat→Nat} {x:Lf} {args:List Ex} {Aa:Option Addr} (h:EKids w2 wr g hue w1 k x args Aa ca) (hb:Below w1.heap.size w1 wr) (hz:w1.heap.size≤w2.heap.size)
  (o1:okI x.op) (o2:okI x.n) (o3:okS x.s) (o4:okS x.name) (o5:okS x.src) :
  PE (hueNew hue w1 0) wr k [.int .i64 x.op,.int .i64 x.n,.string x.s,.string x.name,.string x.src,.slice Aa args.length ca] (.mk x.op x.n x.s x.name x.src args):=by
 obtain⟨rows,hown,hrl,hrw,hrP⟩:=h.rows
 refine⟨o1,o2,o3,o4,o5,Aa,args.length,ca,rfl,rows,RowsAt.of_own hown hrw hrl,fun a ha _=>?_,hrl,fun j r e hr he=>⟨hrw r (List.mem_of_getElem? hr),?_⟩⟩
 ·have:=h.far a ha
  exact hueNew_new (by omega)
 ·exact ExAt.turn (fun b hb0 h0=>(hueNew_old b hb0).trans h0) (Kept.of_below hb) k (Nat.le_refl _) (hrP j r e hr he)
theorem EKids.fits {w1 w2 wr:World} {g k ca:Nat} {hue:Nat→Nat} {x:Lf} {args:List Ex} {Aa:Option Addr} (h:EKids w2 wr g hue w1 k x args Aa ca) (hk:k≤49):∀ a∈args,FitsE 49 a:=by
 obtain⟨rows,hown,hrl,hrw,hrP⟩:=h.rows
 intro a ha
 obtain⟨j,hj⟩:=List.mem_iff_getElem?.1 ha
 have hlt:=(List.getElem?_eq_some_iff.1 hj).1
 exact FitsE.mono k hk (hrP j _ a (List.getElem?_eq_getElem (by omega)) hj).fits
theorem EWood.later {F:Nat→Prop} {w w1 wr:World} {hue:Nat→Nat} {es:List Ex} {A0 A1 A2:Option Addr} {c0 c1 c2:Nat} {v3 v4 v5:Value} (h:EWood F w w1 hue es A0 c0 A1 c1 A2 c2 v3 v4 v5) (hb:Below w1.heap.size w1 wr):EWood F w wr (hueNew hue w1 0) es A0 c0 A1 c1 A2 c2 v3 v4 v5 where
 box:=h.box.as_was (hb.block _ h.box.lt)
 res:=h.res.as_was (hb.block _ h.res.lt)
 hb:=(hueNew_old _ h.box.lt).trans h.hb
 hr:=(hueNew_old _ h.res.lt).trans h.hr
 old:=fun b hb0=>by rw[hueNew_old _ (Nat.lt_of_lt_of_le hb0 h.low.size)];exact h.old b hb0
 tri:=h.tri.keep (S:=fun _=>False) (But.of_below hb) (fun _ _ hf=>hf.elim) hueNew_old fun _ _ _ _ hp=>ExAt.turn (fun b hb0 h0=>(hueNew_old b hb0).trans h0) (Kept.of_below hb) _ (Nat.le_refl _) hp
 low:=h.low.trans (hb.mono h.low.size)
 few:=h.few
theorem box_grown {w w2:World} {bt j i:Nat} {hue:Nat→Nat} {T:TypeId} {cs:Array Value} {A:Option Addr} {o:Obj} (h:IsBlk w bt T cs) (hA:∀ a,A=some a→hue a.block=i) (hne:hue bt≠i) (hbut:But (fun k=>A.map (·.block)=some k) (w.alloc o) w2) (u:Value) :
  IsBlk w2 bt T cs∧IsBlk (w2.setCell ⟨bt,j,none⟩ u) bt T (cs.setIfInBounds j u):=by
 have hn:¬ A.map (·.block)=some bt:=by
  intro e
  cases A with
  | none=>cases e
  | some a =>
   have e:a.block=bt:=by simpa using e
   have:=hA a rfl
   rw[e] at this
   exact hne this
 have h1:=(h.alloc o).as_was (hbut.block bt (h.alloc o).lt hn)
 exact⟨h1,h1.stored j u⟩
theorem PE.later {hue hue':Nat→Nat} {w w':World} {S:Nat→Prop} {k:Nat} {r:List Value} {e:Ex} (h:PE hue w k r e) (hb:But S w w') (hS:∀ b,hue b=0→¬ S b) (hh:∀ b,b<w.heap.size→hue' b=hue b):PE hue' w' k r e :=
 ExAt.turn (fun b hb0 h0=>(hh b hb0).trans h0) (Kept.of_but hb hS) _ (Nat.le_refl _) h
theorem row_new {w:World} {T:TypeId} {g:Nat} (r:List Value) (sz:Nat) (hg:g=w.heap.size) (hr:r.length=sz):RowsAt (w.alloc (.cells r.toArray T)) sz (some ⟨g,0,none⟩) 1 1 [r] :=
 RowsAt.lit' _ _ 1 hg (by simp) (by simp[hr]) rfl (by unfold maxLen;omega)
theorem hue_apart {hue:Nat→Nat} {n bt i i':Nat} (hb:hue bt=1) (hne:i'≠i) (h1:i'≠1):∀ k,k<n→(hue k=i∨k=bt)→hue k≠i':=by
 rintro k _ (h|h) e
 ·omega
 ·subst h;omega
theorem ne_of_one {hue:Nat→Nat} {b:Nat} (h:hue b=1) (i:Nat) (hi:i≠1):hue b≠i:=by omega
theorem hue_kept {hue:Nat→Nat} {w:World} {bt i:Nat} (hb:hue bt=1) (hl:bt<w.heap.size):hueNew hue w i bt=1:=(hueNew_old bt hl).trans hb
theorem EWood.add {F:Nat→Prop} {w wr W3 W6 W9:World} {h0:Nat→Nat} {es:List Ex} {A0 A1 A2 B0 B1 B2:Option Addr} {c0 c1 c2 d0 d1 d2 k:Nat} {v3 v4 v5:Value} (h:EWood F w wr h0 es A0 c0 A1 c1 A2 c2 v3 v4 v5) {E:Ex} (hk:es.length=k) (h50:k<50) {te1 te2:Int} (hte:tellE E=(te1,te2))
  {rows:List (List Value)} (hrP:∀ (j:Nat) (r:List Value) (e:Ex),rows[j]?=some r→es[j]?=some e→PE h0 wr j r e) {r0:List Value} (hr0:PE h0 wr k r0 E)
  (b1:But (fun b=>h0 b=2∨b=w.heap.size+1) wr W3) (b2:But (fun b=>hueNew h0 wr 2 b=3∨b=w.heap.size+1) W3 W6) (b3:But (fun b=>hueNew (hueNew h0 wr 2) W3 3 b=4∨b=w.heap.size+1) W6 W9)
  (r1:HueRow (hueNew h0 wr 2) 2 w.heap.size W3 89 6 B0 (k+1) d0 (rows++[r0])) (r2:HueRow (hueNew (hueNew h0 wr 2) W3 3) 3 w.heap.size W6 3 1 B1 (k+1) d1 (es.map (fun x=>[.int .i64 (tellE x).1])++[[.int .i64 te1]]))
  (r3:HueRow (hueNew (hueNew (hueNew h0 wr 2) W3 3) W6 4) 4 w.heap.size W9 3 1 B2 (k+1) d2 (es.map (fun x=>[.int .i64 (tellE x).2])++[[.int .i64 te2]]))
  (hbox:IsBlk W9 (w.heap.size+1) 61 #[.slice B0 (k+1) d0,.slice B1 (k+1) d1,.slice B2 (k+1) d2,v3,v4,v5]) :
  EWood F w W9 (hueNew (hueNew (hueNew h0 wr 2) W3 3) W6 4) (es++[E]) B0 d0 B1 d1 B2 d2 v3 v4 v5:=by
 have z1:=b1.size
 have z2:=b2.size
 have z3:=b3.size
 have e1:∀ b,b<wr.heap.size→hueNew h0 wr 2 b=h0 b:=hueNew_old
 have e2:∀ b,b<wr.heap.size→hueNew (hueNew h0 wr 2) W3 3 b=h0 b:=fun b hb=>(hueNew_old b (by omega)).trans (e1 b hb)
 have e3:∀ b,b<wr.heap.size→hueNew (hueNew (hueNew h0 wr 2) W3 3) W6 4 b=h0 b:=fun b hb=>(hueNew_old b (by omega)).trans (e2 b hb)
 have hbl:=h.box.lt
 have hl:(es++[E]).length=k+1:=by simp[hk]
 have hlow:=h.low.size
 -- all in one
 have hall:But (fun b=>b<wr.heap.size∧(h0 b=2∨h0 b=3∨h0 b=4∨b=w.heap.size+1)) wr W9:=by
  refine⟨b3.os.trans (b2.os.trans b1.os),b3.tape.trans (b2.tape.trans b1.tape),b3.output.trans (b2.output.trans b1.output),by omega,fun b hb hn=>?_⟩
  have n1:¬ (h0 b=2∨b=w.heap.size+1):=fun hx=>hn ⟨hb,by rcases hx with hx|hx<;>simp[hx]⟩
  have n2:¬ (hueNew h0 wr 2 b=3∨b=w.heap.size+1):=fun hx=>hn ⟨hb,by rw[e1 b hb] at hx;rcases hx with hx|hx<;>simp[hx]⟩
  have n3:¬ (hueNew (hueNew h0 wr 2) W3 3 b=4∨b=w.heap.size+1):=fun hx=>hn ⟨hb,by rw[e2 b hb] at hx;rcases hx with hx|hx<;>simp[hx]⟩
  exact(b3.block b (by omega) n3).trans ((b2.block b (by omega) n2).trans (b1.block b hb n1))
 have hP0:∀ {j r e},PE h0 wr j r e→PE (hueNew (hueNew (hueNew h0 wr 2) W3 3) W6 4) W9 j r e:=fun hp=>PE.later hp hall (fun b h0b hx=>by
  obtain⟨hb,hx⟩:=hx
  rcases hx with hx|hx|hx|hx
  ·omega
  ·omega
  ·omega
  ·rw[hx,h.hb] at h0b;omega) e3
 have hbt1:hueNew h0 wr 2 (w.heap.size+1)=1:=(e1 _ hbl).trans h.hb
 have hbt2:hueNew (hueNew h0 wr 2) W3 3 (w.heap.size+1)=1:=(e2 _ hbl).trans h.hb
 have r1':=(r1.keep b2 (hue_apart hbt1 (by omega) (by omega)) (hueNew_old (i:=3))).keep b3 (hue_apart hbt2 (by omega) (by omega)) (hueNew_old (i:=4))
 have r2':=r2.keep b3 (hue_apart hbt2 (by omega) (by omega)) (hueNew_old (i:=4))
 refine⟨by rw[hl];exact hbox,?_,(e3 _ hbl).trans h.hb,(e3 _ h.res.lt).trans h.hr,fun b hb=>by rw[e3 b (by omega)];exact h.old b hb,⟨⟨rows++[r0],by rw[hl];exact r1',fun j r e hr he=>?_⟩,?_,?_⟩,?_,by rw[hl];omega⟩
 ·refine h.res.as_was (hall.block _ h.res.lt fun hx=>?_)
  obtain⟨_,hx⟩:=hx
  rw[h.hr] at hx
  omega
 ·have hrl:=r1.len
  have hrl':rows.length=k:=by simp at hrl;omega
  rcases Nat.lt_or_ge j k with hj|hj
  ·rw[List.getElem?_append_left (by omega)] at hr he
   exact hP0 (hrP j r e hr he)
  ·rw[List.getElem?_append_right (by omega)] at hr he
   have hj0:j=k:=by
    have:=(List.getElem?_eq_some_iff.1 he).1
    simp at this;omega
   subst hj0
   rw[hk,Nat.sub_self] at he
   rw[hrl',Nat.sub_self] at hr
   simp at hr he
   subst hr he
   exact hP0 hr0
 ·rw[hl,List.map_append,List.map_cons,List.map_nil,hte];exact r2'
 ·rw[hl,List.map_append,List.map_cons,List.map_nil,hte];exact r3
 ·exact h.low.trans (hall.below' hlow fun b hx=>by
   obtain⟨hb,hx⟩:=hx
   rcases Nat.lt_or_ge b w.heap.size with hlt|hlt
   ·have:=old_or (h.old b hlt);omega
   ·exact hlt)
end Go.Proofs.YtmfcmpnlipnopaaGreat

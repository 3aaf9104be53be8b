/- Parts of this proof, one behind the other: SynO, SynS, SynT0. -/
import Derived.Test.YtomfpjgcficlgaaGreatFn8
import Derived.Maps.Own
import Derived.Maps.Views
import Derived.Test.YtomfpjgcficlgaaGreatFn3
import Derived.Deep.RegionLaw
import Derived.Deep.CutRange
set_option maxRecDepth 1000000
set_option maxHeartbeats 40000000
namespace Go.Proofs.YtomfpjgcficlgaaGreat
open Go.RowKit Go.Afx Go.Maps Go.WideMaps
def litS (s:ByteArray):Lit:=.string s.data.toList
def UseAt (w:World) (b:Nat) (L:List ByteArray):Prop:=w.ownsMap Tryz.prog 9 (plainElem (H:=Unit) Tryz.prog 4) b L.length (setOf (.lit (.bool true)) (L.map litS))
section
variable {w w':World} {b:Nat} {L:List ByteArray}
theorem UseAt.lt (h:UseAt w b L):b<w.heap.size:=World.ownsMap.lt h
theorem UseAt.as_was (h:UseAt w b L) (e:w'.heap[b]?=w.heap[b]?):UseAt w' b L:=by
 obtain⟨es,clock,hb,rest⟩:=h
 exact⟨es,clock,e.trans hb,rest⟩
theorem UseAt.but {S:Nat→Prop} (h:UseAt w b L) (hb:But S w w') (hn:¬ S b):UseAt w' b L:=h.as_was (hb.block b h.lt hn)
theorem UseAt.below (h:UseAt w b L) (hb:Below w.heap.size w w'):UseAt w' b L:=h.as_was (hb.block b h.lt)
theorem UseAt.made (w:World):UseAt (w.alloc (.map #[] 0)) w.heap.size []:=World.ownsMap_made w _ _ _
end
theorem strKeyed:Keyed Tryz.prog 9:=string_keyed Tryz.underlying9
theorem setOf_put (L:List ByteArray) (s:ByteArray):(setOf (.lit (.bool true)) (L.map litS):DataW Unit).put (litS s) (.lit (.bool true))=setOf (.lit (.bool true)) ((L++[s]).map litS):=by
 rw[List.map_append,List.map_singleton,setOf_snoc]
theorem UseAt.put {w':World} {b:Nat} {L:List ByteArray} {s:ByteArray} (h:w'.ownsMap Tryz.prog 9 (plainElem (H:=Unit) Tryz.prog 4) b (L.length+1) ((setOf (.lit (.bool true)) (L.map litS):DataW Unit).put (litS s) (.lit (.bool true)))):UseAt w' b (L++[s]):=by
 rw[setOf_put] at h
 unfold UseAt
 rw[List.length_append]
 exact h
theorem keyS {s:ByteArray} (h:okS s):keyOf Tryz.prog 9 (.string s)=some (litS s):=keyOf_string_mk Tryz.underlying9 (by unfold okS at h;unfold maxLen;omega)
theorem exBox {w:World} {g:Nat} {T:TypeId} {op n:Int} {s name src:ByteArray} {A:Option Addr} {m c:Nat} (h:IsBlk w g T #[.int .i64 op,.int .i64 n,.string s,.string name,.string src,.slice A m c]) :
  w.cell? ⟨g,0,none⟩=some (.int .i64 op)∧w.cell? ⟨g,1,none⟩=some (.int .i64 n)∧w.cell? ⟨g,2,none⟩=some (.string s)∧w.cell? ⟨g,3,none⟩=some (.string name)∧w.cell? ⟨g,4,none⟩=some (.string src)∧w.cell? ⟨g,5,none⟩=some (.slice A m c)∧g<w.heap.size:=by
 have h0:=h.cell 0;have h1:=h.cell 1;have h2:=h.cell 2;have h3:=h.cell 3;have h4:=h.cell 4;have h5:=h.cell 5
 simp at h0 h1 h2 h3 h4 h5
 exact⟨h0,h1,h2,h3,h4,h5,h.lt⟩
theorem usBox {w:World} {g:Nat} {T:TypeId} {b1 b2 b3:Nat} (h:IsBlk w g T #[.map (some b1),.map (some b2),.map (some b3)]) :
  w.cell? ⟨g,0,none⟩=some (.map (some b1))∧w.cell? ⟨g,1,none⟩=some (.map (some b2))∧w.cell? ⟨g,2,none⟩=some (.map (some b3))∧g<w.heap.size:=by
 have h0:=h.cell 0;have h1:=h.cell 1;have h2:=h.cell 2
 simp at h0 h1 h2
 exact⟨h0,h1,h2,h.lt⟩
def UsesE (F:Nat→Prop) (d:Nat):Prop:=∀ (e:Ex) (row:List Value) (w:World) (b1 b2 b3:Nat) (L:List ByteArray),ExAt F d w row e→UseAt w b1 L→(∀ k,F k→k≠b1)→L.length+(srcsE d e).length≤1000000 →
 Calls Tryz.prog 101 #[.agg #[.map (some b1),.map (some b2),.map (some b3)],.agg row.toArray] w fun x w'=>x=.returned (.tuple #[])∧UseAt w' b1 (L++srcsE d e)∧But (fun k=>k=b1) w w'
theorem flat_take {α β:Type} {l:List α} {k:Nat} {x:α} {f:α→List β} (h:l[k]?=some x):(l.take (k+1)).flatMap f=(l.take k).flatMap f++f x:=by
 obtain⟨hk,rfl⟩:=List.getElem?_eq_some_iff.1 h
 rw[List.take_succ_eq_append_getElem hk,List.flatMap_append]
 simp
theorem flat_le {α β:Type} {l:List α} {k:Nat} {x:α} {f:α→List β} (h:l[k]?=some x):((l.take k).flatMap f).length+(f x).length≤(l.flatMap f).length:=by
 rw[← List.length_append,← flat_take h]
 have:l.flatMap f=(l.take (k+1)).flatMap f++(l.drop (k+1)).flatMap f:=by rw[← List.flatMap_append,List.take_append_drop]
 rw[this,List.length_append];omega
theorem usesE_any (F:Nat→Prop) (d:Nat):UsesE F d:=by
 induction d with
 | zero=>intro e row w b1 b2 b3 L h;exact h.elim
 | succ d ih =>
  intro e row w b1 b2 b3 L h hu hF hbig
  obtain⟨ho,hn,hs,hnm,hsr,A,m,c,rfl,hl⟩:=h.open_
  have hml:=LsAt.n_le hl
  have Hlen:=Lhd (LsAt.len hl)
  have hlt1:=hu.lt
  obtain⟨w2,Hw2⟩:∃ w2,Hid (w2=(w.alloc (.cells #[.map (some b1),.map (some b2),.map (some b3)] 105)).alloc (.cells #[.int .i64 e.op,.int .i64 e.n,.string e.s,.string e.name,.string e.src,.slice A m c] 58)):=⟨_,rfl⟩
  have hb2:Below w.heap.size w w2:=by rw[Hw2.out];exact((Below.refl _ _).alloc (Nat.le_refl _) _).alloc (by simp) _
  have hu2:IsBlk w2 w.heap.size 105 #[.map (some b1),.map (some b2),.map (some b3)]:=by rw[Hw2.out];exact(IsBlk.laid _ _ _).alloc _
  have he2:IsBlk w2 (w.heap.size+1) 58 #[.int .i64 e.op,.int .i64 e.n,.string e.s,.string e.name,.string e.src,.slice A m c]:=by rw[Hw2.out];exact laid_at (by simp) _ _
  have hU2:=hu.below hb2
  have Ha:=Lhd (fun W=>args_any e.op W)
  have Hfin:Hid (srcsE (d+1) e=(if rowsB e.op then [e.src] else [])++e.args.flatMap (srcsE d)):=Lhd rfl
  obtain⟨own,Hown⟩:∃ l,Hid ((if rowsB e.op then [e.src] else [])=l):=⟨_,rfl⟩
  rw[Hfin.out,Hown.out] at hbig ⊢
  have hbig2:L.length+own.length+(e.args.flatMap (srcsE d)).length≤1000000:=by rw[List.length_append] at hbig;omega
  clear hbig
  -- behind the first statement
  have Hx2:=Lhd (fun W (hW:But (fun k=>k=b1) w2 W)=>And.intro (usBox (hu2.as_was (hW.block _ hu2.lt (by omega)))) (exBox (he2.as_was (hW.block _ he2.lt (by omega)))))
  have Hl:=Lhd (fun W (hW:But (fun k=>k=b1) w2 W)=>ExsAt.kept hl (Kept.of_but ((But.of_below (S:=fun k=>k=b1) hb2).trans' hW) (fun k hk=>hF k hk)))
  obtain⟨⟨y0,y1,y2,yl⟩,x0,x1,x2,x3,x4,x5,xl⟩:=Hx2.out w2 (But.refl _ _)
  clear hu2 he2
  have hb02:But (fun k=>k=b1) w w2:=But.of_below hb2
  cases hr:rowsB e.op
  ·have hown:own=[]:=by rw[← Hown.out,hr];rfl
   rw[hr] at Ha
   have hU:UseAt w2 b1 (L++own):=by rw[hown,List.append_nil];exact hU2
   have hB:But (fun k=>k=b1) w2 w2:=But.refl _ _
   clear hr Hown hown
   go_enter Tryz.func101,Tryz.ntmps101
   go_upto_region 1 with (fail)
   rw[← Hw2.out]
   go_wp2_with (go_at_call 118;refine(Ha.out _).mono ?_;rintro x w' ⟨rfl,rfl⟩)
   go_loopw [22] (fun i wr=>∃ k:Nat,k≤m∧i=.int .i64 k∧UseAt wr b1 (L++own++(e.args.take k).flatMap (srcsE d))∧But (fun k=>k=b1) w2 wr) (fun i _=>m-(intOf i).toNat)
   case atStart=>exact⟨0,Nat.zero_le _,rfl,by simpa using hU,hB⟩
   case round =>
    obtain⟨k,hk,rfl,hU4,hB4⟩:=hrel
    obtain⟨⟨z0,z1,z2,zl⟩,v0,v1,v2,v3,v4,v5,vl⟩:=Hx2.out wr hB4
    by_cases hlt:k<m
    ·cases d with
     | zero =>
      obtain⟨b,o,r,e,hA,hbl,_,he,hl,hp,hc⟩:=LsAt.get (Hl.out wr hB4) hlt
      exact hp.elim
     | succ d =>
      obtain⟨b,o,x,A2,m2,c2,rfl,hbl,hx,hc0,hc1,hc2,hc3,hc4,hc5,hp,_⟩:=ExsAt.get (Hl.out wr hB4) hlt
      have Hx:=Lhd hx
      clear hx
      have hbn:Below wr.heap.size wr (wr.alloc (.cells #[.int .i64 x.op,.int .i64 x.n,.string x.s,.string x.name,.string x.src,.slice A2 m2 c2] 58)):=(Below.refl _ _).alloc (Nat.le_refl _) _
      have Hc:=Lhd (ih x _ _ b1 b2 b3 _ (hp.below hbn) (hU4.below hbn) hF (by have:=flat_le (f:=srcsE (d+1)) Hx.out;simp only[List.length_append];omega))
      go_wp2_with (go_at_call 101;refine Hc.out.mono ?_;rintro y w5 ⟨rfl,hU5,hB5⟩)
      go_roundw
      case rel=>exact⟨k+1,by omega,by go_num,by rw[flat_take Hx.out,← List.append_assoc];exact hU5,(hB4.then_below hbn).trans' hB5⟩
      case measure=>simp[intOf];omega
    ·go_wp2
     go_end0
     refine⟨rfl,?_,hb02.trans' hB4⟩
     rw[List.take_of_length_le (by rw[Hlen.out];omega)] at hU4
     rw[← List.append_assoc]
     exact hU4
  ·have hown:own=[e.src]:=by rw[← Hown.out,hr];rfl
   rw[hr] at Ha
   have Ho:=Lhd hown
   clear hr Hown hown
   go_enter Tryz.func101,Tryz.ntmps101
   go_upto_region 1 with (fail)
   rw[← Hw2.out]
   go_wp2_with (first|(go_at_call 118;refine(Ha.out _).mono ?_;rintro x w' ⟨rfl,rfl⟩)|(at_mapUpdate;refine wpList_mapUpdate_own _ rfl _ _ _ 89 rfl 9 4 strKeyed Tryz.underlying89 _ b1 L.length _ rfl hU2 (by unfold maxLen;omega) _ _ _ rfl rfl (keyS hsr) _ [] (plainElem_bool Tryz.underlying4 true) ?_;intro w3 hU3 hgrow3;have hB:But (fun k=>k=b1) w2 w3:=But.grown (But.refl _ _) hgrow3 (fun k hk=>by cases hk;exact .inl rfl);obtain⟨⟨a0,a1,a2,al⟩,c0,c1,c2,c3,c4,c5,cl⟩:=Hx2.out w3 hB))
   have hU:UseAt w3 b1 (L++own):=by rw[Ho.out];exact UseAt.put hU3
   go_loopw [22] (fun i wr=>∃ k:Nat,k≤m∧i=.int .i64 k∧UseAt wr b1 (L++own++(e.args.take k).flatMap (srcsE d))∧But (fun k=>k=b1) w2 wr) (fun i _=>m-(intOf i).toNat)
   case atStart=>exact⟨0,Nat.zero_le _,rfl,by simpa using hU,hB⟩
   case round =>
    obtain⟨k,hk,rfl,hU4,hB4⟩:=hrel
    obtain⟨⟨z0,z1,z2,zl⟩,v0,v1,v2,v3,v4,v5,vl⟩:=Hx2.out wr hB4
    by_cases hlt:k<m
    ·cases d with
     | zero =>
      obtain⟨b,o,r,e,hA,hbl,_,he,hl,hp,hc⟩:=LsAt.get (Hl.out wr hB4) hlt
      exact hp.elim
     | succ d =>
      obtain⟨b,o,x,A2,m2,c2,rfl,hbl,hx,hc0,hc1,hc2,hc3,hc4,hc5,hp,_⟩:=ExsAt.get (Hl.out wr hB4) hlt
      have Hx:=Lhd hx
      clear hx
      have hbn:Below wr.heap.size wr (wr.alloc (.cells #[.int .i64 x.op,.int .i64 x.n,.string x.s,.string x.name,.string x.src,.slice A2 m2 c2] 58)):=(Below.refl _ _).alloc (Nat.le_refl _) _
      have Hc:=Lhd (ih x _ _ b1 b2 b3 _ (hp.below hbn) (hU4.below hbn) hF (by have:=flat_le (f:=srcsE (d+1)) Hx.out;simp only[List.length_append];omega))
      go_wp2_with (go_at_call 101;refine Hc.out.mono ?_;rintro y w5 ⟨rfl,hU5,hB5⟩)
      go_roundw
      case rel=>exact⟨k+1,by omega,by go_num,by rw[flat_take Hx.out,← List.append_assoc];exact hU5,(hB4.then_below hbn).trans' hB5⟩
      case measure=>simp[intOf];omega
    ·go_wp2
     go_end0
     refine⟨rfl,?_,hb02.trans' hB4⟩
     rw[List.take_of_length_le (by rw[Hlen.out];omega)] at hU4
     rw[← List.append_assoc]
     exact hU4
open Go.RowKit Go.Afx Go.Maps Go.WideMaps
theorem tySt:ElemTy Tryz.prog 44 60 8 144 (.agg #[.int .i64 0,.string ByteArray.empty,.string ByteArray.empty,.int .i64 0,.slice none 0 0,.slice none 0 0,.slice none 0 0,.slice none 0 0]):=⟨Tryz.underlying44,by kernel_rfl,rfl,by decide⟩
theorem step_app {P:Program} {w:World} {ops:Array Oper} {o:Oper} {a:Act} {K:Act→World→Prop} {Q:Exit→Act→World→Prop} {E:Prop} (hgd:o.guard=none) {s x:Operand} {t:TypeId}
  (ho:o.op=.call { callee:=.builtin .append,args:=#[s,x],argTypes:=#[t,t] })
  {base:Nat} {e:TypeId} {sz bytes:Nat} {z:Value} (hT:ElemTy P t e sz bytes z)
  {A:Option Addr} {n c:Nat} {xs:List (List Value)} (hs:a.eval s=.slice A n c) (hown:w.ownsRow base e sz (.slice A n c) n xs.flatten)
  {A':Option Addr} {m c':Nat} {news:List (List Value)} (hx:a.eval x=.slice A' m c') (hnews:RowsAt w sz A' m c' news) (hlen:∀ r∈news,r.length=sz) (h1:∀ r∈news,∀ u∈r,u.oneCell'=true)
  (h63:n+m≤maxLen) (hbytes:(n+m)*bytes≤140737488355328) (hbase:base≤w.heap.size)
  (h:∀ A2 c2 w',w'.ownsRow base e sz (.slice A2 (n+m) c2) (n+m) (xs++news).flatten→But (fun k=>A.map (·.block)=some k) w w'→(∀ a2,A2=some a2→A=some a2∨w.heap.size≤a2.block)→K (a.put o.dst (.slice A2 (n+m) c2)) w') :
  if Region.wanted o (yielded ops a.tmps)=true then Oper.wp P o a w K Q else E:=by
 have hw:Region.wanted o (yielded ops a.tmps)=true:=by simp[Region.wanted,hgd]
 rw[if_pos hw]
 obtain⟨A2,c2,w',hr,hown',hb,hf⟩:=run_app (P:=P) o.type hT hown hnews hlen h1 h63 hbytes hbase
 unfold Oper.wp execOp
 simp only[ho,resolve,invoke,builtin,Sem.run_bind,Sem.run_pure,Result.andThen_ok,List.map_toArray,List.map_cons,List.map_nil,hs,hx,hr]
 exact h A2 c2 w' hown' hb hf
theorem RowsAt.drew {w:World} {sz:Nat} {A:Option Addr} {n c:Nat} {xs:List (List Value)} (h:RowsAt w sz A n c xs):RowsAt w.drew sz A n c xs:=⟨h.len,h.cap,h.max,h.at_⟩
theorem ls_rows {F:Nat→Prop} {w:World} {d:Nat} {A:Option Addr} {n c:Nat} {xs:List St} (h:StsAt F d w A n c xs) :
  ∃ rows,RowsAt w 8 A n c rows∧(∀ r∈rows,r.length=8)∧(∀ r∈rows,∀ u∈r,u.oneCell'=true)∧rows.length=xs.length∧∀ (k:Nat) (r:List Value) (x:St),rows[k]?=some r→xs[k]?=some x→r.length=8∧StAt F d w r x:=by
 obtain⟨rows,hr,_,hl,hp⟩:=h
 have hx:∀ r∈rows,∃ x,StAt F d w r x:=by
  intro r hr
  obtain⟨k,hk⟩:=List.mem_iff_getElem?.1 hr
  have hlt:=(List.getElem?_eq_some_iff.1 hk).1
  exact⟨_,(hp k r (xs[k]'(by omega)) hk (List.getElem?_eq_getElem _)).2⟩
 exact⟨rows,hr,fun r h=>by obtain⟨x,hx⟩:=hx r h;exact hx.len,fun r h=>by obtain⟨x,hx⟩:=hx r h;exact hx.one,hl,hp⟩
theorem cloneSt_any (A:Option Addr) (n c:Nat) (rows:List (List Value)) (hn:n≤1000000) (w:World) (hW:RowsAt w 8 A n c rows) (h8:∀ r∈rows,r.length=8) (h1:∀ r∈rows,∀ u∈r,u.oneCell'=true) :
  Calls Tryz.prog 102 #[.slice A n c] w fun e w'=>∃ A2 c2,e=.returned (.slice A2 n c2)∧w'.ownsRow w.heap.size 60 8 (.slice A2 n c2) n rows.flatten∧Below w.heap.size w w':=by
 have hl:rows.length=n:=hW.len
 have q22:∀ (w:World) (a:Option Addr) (n c n' c':Nat),(binOp .eql 44 (.slice a n c) (.slice none n' c')).run Tryz.prog w=.ok (.bool a.isNone) w:=fun w a n c n' c'=>Lib.run_eql_slice_nil w _ _ a n c n' c' Tryz.underlying44
 cases A with
 | none =>
  have h0:rows=[]:=by
   cases rows with
   | nil=>rfl
   | cons a r =>
    obtain⟨b,o,e,_⟩:=hW.at_ 0 a rfl
    cases e
  subst h0
  obtain rfl:n=0:=by simpa using hl.symm
  go_enter Tryz.func102,Tryz.ntmps102
  go_wp2
  go_ret
  exact⟨none,0,rfl,World.ownsRow_nil _ _ _ _,Below.refl _ _⟩
 | some a =>
  have hW2:RowsAt (w.alloc (.cells #[] 60)) 8 (some a) n c rows:=hW.below ((Below.refl _ _).alloc (Nat.le_refl _) _)
  have hown:(w.alloc (.cells #[] 60)).ownsRow w.heap.size 60 8 (.slice (some ⟨w.heap.size,0,none⟩) 0 0) 0 ([]:List (List Value)).flatten:=World.ownsRow_made w #[] 0 (Nat.le_refl _) (Nat.zero_le _) (by simp)
  go_enter Tryz.func102,Tryz.ntmps102
  go_wp2_with (at_builtin;refine wpList_app rfl rfl tySt rfl hown rfl hW2 h8 h1 ?_ ?_ ?_ ?_;(unfold maxLen;omega);omega;(simp);intro A3 c3 w3 hown3 hbut3 hf3)
  go_ret
  refine⟨A3,c3,by simp,?_,?_⟩
  ·simpa using hown3
  ·refine((Below.refl _ _).alloc (Nat.le_refl _) _).trans (hbut3.below' (by simp) (fun i hi=>?_))
   simp at hi;omega
def NB (b1 b2 b3:Nat):Nat→Prop:=fun k=>k≠b1∧k≠b2∧k≠b3
def S3 (b1 b2 b3:Nat):Nat→Prop:=fun k=>k=b1∨k=b2∨k=b3
theorem nb_kept {b1 b2 b3:Nat} {w w':World} (h:But (S3 b1 b2 b3) w w'):Kept (NB b1 b2 b3) w w':=Kept.of_but h fun k hk hs=>by
 obtain⟨h1,h2,h3⟩:=hk
 rcases hs with rfl|rfl|rfl
 ·exact h1 rfl
 ·exact h2 rfl
 ·exact h3 rfl
structure Sets (w:World) (b1 b2 b3:Nat) (L1 L2 L3:List ByteArray):Prop where
 one:UseAt w b1 L1
 two:UseAt w b2 L2
 three:UseAt w b3 L3
 n12:b1≠b2
 n13:b1≠b3
 n23:b2≠b3
section
variable {w w':World} {b1 b2 b3:Nat} {L1 L2 L3:List ByteArray}
theorem Sets.below (h:Sets w b1 b2 b3 L1 L2 L3) (hb:Below w.heap.size w w'):Sets w' b1 b2 b3 L1 L2 L3:=⟨h.one.below hb,h.two.below hb,h.three.below hb,h.n12,h.n13,h.n23⟩
theorem Sets.first {L:List ByteArray} (h:Sets w b1 b2 b3 L1 L2 L3) (hu:UseAt w' b1 L) (hb:But (fun k=>k=b1) w w'):Sets w' b1 b2 b3 L L2 L3:=⟨hu,h.two.but hb h.n12.symm,h.three.but hb h.n13.symm,h.n12,h.n13,h.n23⟩
theorem Sets.second {L:List ByteArray} (h:Sets w b1 b2 b3 L1 L2 L3) (hu:UseAt w' b2 L) (hb:But (fun k=>k=b2) w w'):Sets w' b1 b2 b3 L1 L L3:=⟨h.one.but hb h.n12,hu,h.three.but hb h.n23.symm,h.n12,h.n13,h.n23⟩
theorem Sets.third {L:List ByteArray} (h:Sets w b1 b2 b3 L1 L2 L3) (hu:UseAt w' b3 L) (hb:But (fun k=>k=b3) w w'):Sets w' b1 b2 b3 L1 L2 L:=⟨h.one.but hb h.n13,h.two.but hb h.n23,hu,h.n12,h.n13,h.n23⟩
theorem but_s1 (hb:But (fun k=>k=b1) w w'):But (S3 b1 b2 b3) w w':=hb.mono fun _ h=>.inl (.inl h)
theorem but_s2 (hb:But (fun k=>k=b2) w w'):But (S3 b1 b2 b3) w w':=hb.mono fun _ h=>.inl (.inr (.inl h))
theorem but_s3 (hb:But (fun k=>k=b3) w w'):But (S3 b1 b2 b3) w w':=hb.mono fun _ h=>.inl (.inr (.inr h))
theorem grown_but {b:Nat} (h:w.grownBy w' (some b)):But (fun k=>k=b) w w':=But.grown (But.refl _ _) h (fun k hk=>by cases hk;exact .inl rfl)
end
def UsesS (d:Nat):Prop:=∀ (b1 b2 b3:Nat) (x:St) (row:List Value) (w:World) (L1 L2 L3:List ByteArray),StAt (NB b1 b2 b3) d w row x→Sets w b1 b2 b3 L1 L2 L3 →
 L1.length+cntS d x≤1000000→L2.length+cntS d x≤1000000→L3.length+cntS d x≤1000000 →
 Calls Tryz.prog 82 #[.agg #[.map (some b1),.map (some b2),.map (some b3)],.agg row.toArray] w fun r w'=>r=.returned (.tuple #[])∧Sets w' b1 b2 b3 (L1++readsS d x) (L2++writesS d x) (L3++emitsS d x)∧But (S3 b1 b2 b3) w w'
theorem stBox0 {w:World} {g:Nat} {T:TypeId} {op n:Int} {name src:ByteArray} {Ac Ae Ab Al:Option Addr} {nc cc ne ce nb cb nl cl:Nat} (h:IsBlk w g T #[.int .i64 op,.string name,.string src,.int .i64 n,.slice Ac nc cc,.slice Ae ne ce,.slice Ab nb cb,.slice Al nl cl]) :
  w.cell? ⟨g,0,none⟩=some (.int .i64 op)∧w.cell? ⟨g,2,none⟩=some (.string src)∧w.cell? ⟨g,5,none⟩=some (.slice Ae ne ce)∧w.cell? ⟨g,6,none⟩=some (.slice Ab nb cb)∧w.cell? ⟨g,7,none⟩=some (.slice Al nl cl)∧g<w.heap.size:=by
 have h0:=h.cell 0;have h2:=h.cell 2;have h5:=h.cell 5;have h6:=h.cell 6;have h7:=h.cell 7
 simp at h0 h2 h5 h6 h7
 exact⟨h0,h2,h5,h6,h7,h.lt⟩
def Joined (b1 b2 b3:Nat) (d:Nat) (ys:List St) (n:Nat) (Q:World→Prop) (s55 s56 s57:Value) (W:World):Prop :=
 ∃ A c,s55=.slice A n c∧s56=.int .i64 n∧s57=.int .i64 0∧StsAt (NB b1 b2 b3) d W A n c ys∧Q W
theorem joined_ls {b1 b2 b3:Nat} {d:Nat} {W w6:World} {T:TypeId} {A:Option Addr} {n c m:Nat} {rB rL:List (List Value)} {body els:List St} (hS:∀ k,S3 b1 b2 b3 k→k<W.heap.size)
  (hown:w6.ownsRow W.heap.size T 8 (.slice A (n+m) c) (n+m) (rB++rL).flatten) (h8B:∀ r∈rB,r.length=8) (h8L:∀ r∈rL,r.length=8) (hlB:rB.length=n) (hlL:rL.length=m)
  (hb:rB.length=body.length) (hl:rL.length=els.length)
  (hpB:∀ (k:Nat) (r:List Value) (x:St),rB[k]?=some r→body[k]?=some x→r.length=8∧StAt (NB b1 b2 b3) d W r x)
  (hpL:∀ (k:Nat) (r:List Value) (x:St),rL[k]?=some r→els[k]?=some x→r.length=8∧StAt (NB b1 b2 b3) d W r x)
  (hW:But (S3 b1 b2 b3) W w6):StsAt (NB b1 b2 b3) d w6 A (n+m) c (body++els):=by
 refine⟨rB++rL,RowsAt.of_own hown (fun r h=>by rcases List.mem_append.1 h with h|h<;>first|exact h8B r h|exact h8L r h) (by simp;omega),fun a ha h0=>?_,by simp;omega,fun k r x hr hx=>?_⟩
 ·subst ha
  have h:=(hown.lt a.block rfl).1
  refine⟨fun e=>?_,fun e=>?_,fun e=>?_⟩
  ·have:=hS _ (.inl e);omega
  ·have:=hS _ (.inr (.inl e));omega
  ·have:=hS _ (.inr (.inr e));omega
 ·by_cases hk:k<rB.length
  ·rw[List.getElem?_append_left hk] at hr
   rw[List.getElem?_append_left (by omega)] at hx
   obtain⟨h1,h2⟩:=hpB k r x hr hx
   exact⟨h1,h2.kept (nb_kept hW)⟩
  ·rw[List.getElem?_append_right (by omega)] at hr
   rw[List.getElem?_append_right (by omega),← hb] at hx
   obtain⟨h1,h2⟩:=hpL _ r x hr hx
   exact⟨h1,h2.kept (nb_kept hW)⟩
end Go.Proofs.YtomfpjgcficlgaaGreat

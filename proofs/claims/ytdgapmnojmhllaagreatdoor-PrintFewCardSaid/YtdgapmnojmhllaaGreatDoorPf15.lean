/- Parts of this proof, one behind the other: PrtG, PrtH, PrtI. -/
import Derived.Test.YtdgapmnojmhllaaGreatDoorPf14
set_option maxRecDepth 1000000
set_option maxHeartbeats 40000000
namespace Go.Proofs.YtdgapmnojmhllaaGreatDoor
open Go.RowKit Go.Afx
def ExprC (F:Nat→Prop) (d:Nat):Prop:=∀ (e:Ex) (row:List Value) (g:Nat) (t:List UInt8) (br:Bool) (w:World),ExAt F d w row e→builtE d e=true→(∀ k,F k→k<g)→WtAt g t br w→HasMax w→0<g→t.length+(txtE d e).length≤1000000000 →
 Calls Tryz.prog 21 #[.pointer (some ⟨g,0,none⟩),.agg row.toArray] w fun e' w'=>e'=.returned (.tuple #[])∧WtAt g (t++txtE d e) (br||nlE d e) w'∧Wrote g w w'
theorem ExAt.wrote {F:Nat→Prop} {d g:Nat} {w w':World} {row:List Value} {e:Ex} (h:ExAt F d w row e) (hF:∀ k,F k→k<g) (hw:Wrote g w w'):ExAt F d w' row e :=
 h.kept ⟨hw.1.size,fun k _ hf=>hw.1.block k (hF k hf)⟩
theorem ex_row {F:Nat→Prop} {d:Nat} {w:World} {row:List Value} {e:Ex} (h:ExAt F d w row e):∃ A m c,row=[.int .i64 e.op,.int .i64 e.n,.string e.s,.string e.name,.string e.src,.slice A m c]:=by
 cases d with
 | zero=>exact h.elim
 | succ d=>obtain⟨_,_,_,_,_,A,m,c,h,_⟩:=h.open_;exact⟨A,m,c,h⟩
theorem box6 {w:World} {g:Nat} {T:TypeId} {v0 v1 v2 v3 v4 v5:Value} (h:IsBlk w g T #[v0,v1,v2,v3,v4,v5]):w.cell? ⟨g,0,none⟩=some v0∧w.cell? ⟨g,1,none⟩=some v1∧w.cell? ⟨g,2,none⟩=some v2∧w.cell? ⟨g,3,none⟩=some v3∧w.cell? ⟨g,4,none⟩=some v4∧w.cell? ⟨g,5,none⟩=some v5∧g<w.heap.size:=by
 have h0:=h.cell 0;have h1:=h.cell 1;have h2:=h.cell 2;have h3:=h.cell 3;have h4:=h.cell 4;have h5:=h.cell 5
 simp at h0 h1 h2 h3 h4 h5
 exact⟨h0,h1,h2,h3,h4,h5,h.lt⟩
theorem put_new (g n:Nat) (t:List UInt8) (br:Bool) (xs:List ByteArray) (w:World) (h:WtAt g t br w) (hn:xs.length=n) (hn2:n≤1000) (hlen:t.length+(catL xs).length≤1000000000) :
  Calls Tryz.prog 46 #[.pointer (some ⟨g,0,none⟩),.slice (some ⟨w.heap.size,0,none⟩) n n] (w.alloc (.cells (xs.map Value.string).toArray 9)) fun e w'=>e=.returned (.tuple #[])∧WtAt g (t++catL xs) br w'∧Wrote g w w':=by
 have hb:=(Below.refl w.heap.size w).alloc (Nat.le_refl _) (.cells (xs.map Value.string).toArray 9)
 refine(put_any g w.heap.size n t br xs _ (h.below hb) (IsBlk.laid _ _ _) hn hn2 hlen).mono ?_
 rintro e w' ⟨rfl,h1,h2⟩
 exact⟨rfl,h1,(Wrote.of_below (Nat.le_of_lt h.lt) hb).trans h2⟩
theorem operand_in (F:Nat→Prop) (d:Nat) (hE:ExprC F d) (e:Ex) (row:List Value) (least:Int) (g:Nat) (t:List UInt8) (br:Bool) (w:World) (hx:ExAt F d w row e) (hb:builtE d e=true) (hF:∀ k,F k→k<g) (h:WtAt g t br w) (hm:HasMax w) (hg:0<g) (hlen:t.length+(opnd least e.op (txtE d e)).length≤1000000000) :
  Calls Tryz.prog 52 #[.pointer (some ⟨g,0,none⟩),.agg row.toArray,.int .i64 least] w fun e' w'=>e'=.returned (.tuple #[])∧WtAt g (t++opnd least e.op (txtE d e)) (br||nlE d e) w'∧Wrote g w w':=by
 obtain⟨o1,o2⟩:=built_op hb
 obtain⟨A,m,c,hrow⟩:=ex_row hx
 obtain⟨l1,l2⟩:=lvlZ_bd o1 o2
 have Hsg:=Lhd (fun W=>sign_any e.op W o1 o2)
 have Hlow:=Lhd (h.lt)
 obtain⟨w1,Hw1⟩:∃ w1,Hid (w1=w.alloc (.cells row.toArray 32)):=⟨_,rfl⟩
 have hb1:Wrote g w w1:=by rw[Hw1.out];exact Wrote.of_below (Nat.le_of_lt h.lt) ((Below.refl _ _).alloc (Nat.le_refl _) _)
 have hk1:IsBlk w1 w.heap.size 32 row.toArray:=by rw[Hw1.out];exact IsBlk.laid _ _ _
 have hwt1:WtAt g t br w1:=by rw[Hw1.out];exact h.below ((Below.refl _ _).alloc (Nat.le_refl _) _)
 have Hx:=Lhd (fun W (hW:Wrote g w1 W)=>(show IsBlk W w.heap.size 32 row.toArray from hW.2.2 _ _ _ (by decide) (by decide) hk1))
 have Hee:=Lhd (fun W (hW:Wrote g w1 W) t' (hwt:WtAt g t' br W) (hl:t'.length+(txtE d e).length≤1000000000)=>hE e row g t' br W (ExAt.wrote hx hF (hb1.trans hW)) hb hF hwt (hm.below hg (hb1.trans hW).1) hg hl)
 subst hrow
 have Hb1:=Lhd hb1
 have Hlen:=Lhd hlen
 clear hE hx hm hF hb h hk1 hlen
 by_cases hc:lvlZ e.op<least
 ·have hop:opnd least e.op (txtE d e)=[40]++txtE d e++[41]:=by unfold opnd;rw[if_pos hc]
  rw[hop] at Hlen ⊢
  have hdc:decide (lvlZ e.op<least)=true:=by simp[hc]
  go_enter_defers Tryz.func52,Tryz.ntmps52
  go_upto_region 1 with (fail)
  rw[← Hw1.out]
  obtain⟨x0,x1,x2,x3,x4,x5,xl⟩:=box6 (Hx.out _ (Wrote.refl _ _))
  go_wp2_with (go_at_call 45;refine(Hsg.out _).mono ?_;rintro e' w2 ⟨rfl,hb2⟩)
  have Hr2:=Lhd (Wrote.of_below (Nat.le_of_lt hwt1.lt) hb2)
  have h2:=hwt1.below hb2
  clear hwt1 hb1
  refine(put_new g 1 t br [⟨#[40]⟩] _ h2 rfl (by decide) (by
   have:=Hlen.out
   simp only[List.length_append,List.length_cons,List.length_nil] at this
   simp only[catL,List.map_cons,List.map_nil,List.flatten_cons,List.flatten_nil,List.length_append,List.length_cons,List.length_nil]
   omega)).mono ?_
  rintro e' w3 ⟨rfl,hwt3,hr3⟩
  have hr3':=Hr2.out.trans hr3
  have Hr3:=Lhd hr3'
  have e3:t++catL [⟨#[40]⟩]=t++[40]:=rfl
  rw[e3] at hwt3
  obtain⟨y0,y1,y2,y3,y4,y5,yl⟩:=box6 (Hx.out _ hr3')
  have hb4:=(Below.refl w3.heap.size w3).alloc (Nat.le_refl _) (.cells #[.string ⟨#[41]⟩] 9)
  have Hr4:=Lhd (hr3'.trans (Wrote.of_below (Nat.le_of_lt hwt3.lt) hb4))
  have Hwt4:=Lhd (hwt3.below hb4)
  have Hk4:=Lhd (show IsBlk (w3.alloc (.cells #[.string ⟨#[41]⟩] 9)) w3.heap.size 9 #[.string ⟨#[41]⟩] from IsBlk.laid _ _ _)
  clear x0 x1 x2 x3 x4 x5 hr3 hr3' hwt3 hb2 h2 hb4
  have Hl4:=Lhd (show (t++[40]).length+(txtE d e).length≤1000000000 from by
   have:=Hlen.out
   simp only[List.length_append,List.length_cons,List.length_nil] at this ⊢
   omega)
  go_wp2_with (go_at_call 21;refine(Hee.out _ Hr4.out _ Hwt4.out Hl4.out).mono ?_)
  rintro e' w5 ⟨rfl,hwt5,hr5⟩
  have Hd:=Lhd (put_d .returning g w3.heap.size 1 _ _ [⟨#[41]⟩] w5 hwt5 (hr5.2.2 _ _ _ (by decide) (by decide) Hk4.out) rfl (by decide) (by
   have:=Hlen.out
   simp only[List.length_append,List.length_cons,List.length_nil] at this
   simp only[catL,List.map_cons,List.map_nil,List.flatten_cons,List.flatten_nil,List.length_append,List.length_cons,List.length_nil]
   omega))
  have Hr5:=Lhd (Hb1.out.trans (Hr4.out.trans hr5))
  clear hwt5 hr5
  go_wp2
  refine leaves_cons (f:=46) (args:=#[.pointer (some ⟨g,0,none⟩),.slice (some ⟨w3.heap.size,0,none⟩) 1 1]) (by simp) (by simp[go_sem]) ?_
  refine Hd.out.mono ?_
  rintro e' u' w6 ⟨rfl,rfl,hwt6,hr6⟩
  refine⟨_,results_none rfl _ _ _,rfl,?_,Hr5.out.trans hr6⟩
  have e6:t++[40]++txtE d e++catL [⟨#[41]⟩]=t++([40]++txtE d e++[41]):=by simp[catL]
  rw[e6] at hwt6
  exact hwt6
 ·have hop:opnd least e.op (txtE d e)=txtE d e:=by unfold opnd;rw[if_neg hc]
  rw[hop] at Hlen ⊢
  have hdc:decide (lvlZ e.op<least)=false:=by simp[hc]
  go_enter_defers Tryz.func52,Tryz.ntmps52
  go_upto_region 1 with (fail)
  rw[← Hw1.out]
  obtain⟨x0,x1,x2,x3,x4,x5,xl⟩:=box6 (Hx.out _ (Wrote.refl _ _))
  go_wp2_with (go_at_call 45;refine(Hsg.out _).mono ?_;rintro e' w2 ⟨rfl,hb2⟩;obtain⟨y0,y1,y2,y3,y4,y5,yl⟩:=box6 (Hx.out _ (Wrote.of_below (Nat.le_of_lt hwt1.lt) hb2)))
  have Hr2:=Lhd (Wrote.of_below (Nat.le_of_lt hwt1.lt) hb2)
  refine(Hee.out _ Hr2.out _ (hwt1.below hb2) Hlen.out).mono ?_
  rintro e' w5 ⟨rfl,hwt5,hr5⟩
  have H5:=Lhd (And.intro hwt5 (Hb1.out.trans (Hr2.out.trans hr5)))
  clear hwt5 hr5 x0 x1 x2 x3 x4 x5 y0 y1 y2 y3 y4 y5
  go_wp2
  exact⟨_,results_none rfl _ _ _,rfl,H5.out.1,H5.out.2⟩
theorem rows_in (F:Nat→Prop) (d:Nat) (hE:ExprC F d) (e:Ex) (row:List Value) (name src:ByteArray) (g:Nat) (t:List UInt8) (br:Bool) (w:World) (hx:ExAt F d w row e) (hb:builtE d e=true) (hF:∀ k,F k→k<g) (h:WtAt g t br w) (hm:HasMax w) (hg:0<g) (hlen:t.length+(rowsT name src e.op e.n (txtE d e)).length≤1000000000) :
  Calls Tryz.prog 53 #[.pointer (some ⟨g,0,none⟩),.string name,.string src,.agg row.toArray] w fun e' w'=>e'=.returned (.tuple #[])∧WtAt g (t++rowsT name src e.op e.n (txtE d e)) (br||nlE d e) w'∧Wrote g w w':=by
 obtain⟨A,m,c,hrow⟩:=ex_row hx
 have Hlow:=Lhd (h.lt)
 obtain⟨w1,Hw1⟩:∃ w1,Hid (w1=w.alloc (.cells row.toArray 32)):=⟨_,rfl⟩
 have hb1:Wrote g w w1:=by rw[Hw1.out];exact Wrote.of_below (Nat.le_of_lt h.lt) ((Below.refl _ _).alloc (Nat.le_refl _) _)
 have hk1:IsBlk w1 w.heap.size 32 row.toArray:=by rw[Hw1.out];exact IsBlk.laid _ _ _
 have hwt1:WtAt g t br w1:=by rw[Hw1.out];exact h.below ((Below.refl _ _).alloc (Nat.le_refl _) _)
 have Hx:=Lhd (fun W (hW:Wrote g w1 W)=>(show IsBlk W w.heap.size 32 row.toArray from hW.2.2 _ _ _ (by decide) (by decide) hk1))
 have Hee:=Lhd (fun W (hW:Wrote g w1 W) t' (hwt:WtAt g t' br W) (hl:t'.length+(txtE d e).length≤1000000000)=>hE e row g t' br W (ExAt.wrote hx hF (hb1.trans hW)) hb hF hwt (hm.below hg (hb1.trans hW).1) hg hl)
 have Hsm:=Lhd (fun W (hW:Wrote g w1 W)=>same_any F d e row W (ExAt.wrote hx hF (hb1.trans hW)) hb)
 have Hwh:=Lhd (show e.op=3∧e.n=1→nlE d e=false from fun ⟨h3,_⟩=>by
  cases d with
  | zero=>rfl
  | succ d =>
   obtain⟨ha,_,_⟩:=built_parts hb
   rw[h3] at ha
   have e1:e.args=[]:=List.eq_nil_of_length_eq_zero (by have:arityB 3=0:=rfl;omega)
   rw[nlE,h3,e1]
   rfl)
 subst hrow
 have Hb1:=Lhd hb1
 unfold rowsT at hlen ⊢
 have Hlen:=Lhd hlen
 clear hE hx hm hF hb h hk1 hlen
 go_enter Tryz.func53,Tryz.ntmps53
 go_upto_region 1 with (fail)
 rw[← Hw1.out]
 obtain⟨x0,x1,x2,x3,x4,x5,xl⟩:=box6 (Hx.out _ (Wrote.refl _ _))
 go_wp2_with (fail)
 refine(put_new g 3 t br [name,⟨#[32,105,110,32]⟩,src] _ hwt1 rfl (by decide) (by
  have:=Hlen.out
  simp only[List.length_append,List.length_cons,List.length_nil] at this
  simp only[catL,List.map_cons,List.map_nil,List.flatten_cons,List.flatten_nil,List.length_append,List.length_cons,List.length_nil]
  omega)).mono ?_
 rintro e' w3 ⟨rfl,hwt3,hr3⟩
 have e3:t++catL [name,⟨#[32,105,110,32]⟩,src]=t++(name.data.toList++[32,105,110,32]++src.data.toList):=by simp[catL]
 rw[e3] at hwt3
 have Hr3:=Lhd hr3
 obtain⟨y0,y1,y2,y3,y4,y5,yl⟩:=box6 (Hx.out _ hr3)
 clear x0 x1 x2 x3 x4 x5 hr3 hwt1 hb1
 go_wp2_with (go_at_call 98;refine(Hsm.out _ Hr3.out).mono ?_)
 rintro e' w4 ⟨rfl,hb4⟩
 have hr4:=Hr3.out.trans (Wrote.of_below (Nat.le_of_lt hwt3.lt) hb4)
 have hwt4:=hwt3.below hb4
 have Hr4:=Lhd hr4
 obtain⟨z0,z1,z2,z3,z4,z5,zl⟩:=box6 (Hx.out _ hr4)
 clear y0 y1 y2 y3 y4 y5 hr4 hwt3 hb4
 rcases Classical.em (e.op=3∧e.n=1) with hc|hc
 ·have hd:=decide_eq_true hc
  rw[hd]
  have hwe:whereT e.op e.n (txtE d e)=[]:=by unfold whereT;rw[if_pos hc]
  have hne:=Hwh.out hc
  have H4:=Lhd (And.intro hwt4 Hr4.out)
  have Hwe:=Lhd (And.intro hwe hne)
  clear hwt4 hd hwe hne
  go_wp2
  go_end0
  rw[Hwe.out.1,Hwe.out.2,List.append_nil,Bool.or_false]
  exact⟨rfl,H4.out.1,Hb1.out.trans H4.out.2⟩
 ·have hd:=decide_eq_false hc
  rw[hd]
  have hwe:whereT e.op e.n (txtE d e)=[32,119,104,101,114,101,32]++txtE d e:=by unfold whereT;rw[if_neg hc]
  rw[hwe] at Hlen
  have Hwe:=Lhd hwe
  clear hd hc hwe
  go_wp2_with (fail)
  refine(put_new g 1 _ br [⟨#[32,119,104,101,114,101,32]⟩] _ hwt4 rfl (by decide) (by
   have:=Hlen.out
   simp only[List.length_append,List.length_cons,List.length_nil] at this
   simp only[catL,List.map_cons,List.map_nil,List.flatten_cons,List.flatten_nil,List.length_append,List.length_cons,List.length_nil]
   omega)).mono ?_
  rintro e' w5 ⟨rfl,hwt5,hr5⟩
  have hr5':=Hr4.out.trans hr5
  have Hr5:=Lhd hr5'
  obtain⟨x0,x1,x2,x3,x4,x5,xl⟩:=box6 (Hx.out _ hr5')
  clear z0 z1 z2 z3 z4 z5 hr5 hr5' hwt4
  go_wp2_with (fail)
  refine(Hee.out _ Hr5.out _ hwt5 (by
   have:=Hlen.out
   simp only[List.length_append,List.length_cons,List.length_nil] at this
   simp only[catL,List.map_cons,List.map_nil,List.flatten_cons,List.flatten_nil,List.length_append,List.length_cons,List.length_nil]
   omega)).mono ?_
  rintro e' w6 ⟨rfl,hwt6,hr6⟩
  have e6:t++(name.data.toList++[32,105,110,32]++src.data.toList)++catL [⟨#[32,119,104,101,114,101,32]⟩]++txtE d e=t++(name.data.toList++[32,105,110,32]++src.data.toList++([32,119,104,101,114,101,32]++txtE d e)):=by simp[catL]
  rw[e6] at hwt6
  have H6:=Lhd (And.intro hwt6 (Hr5.out.trans hr6))
  clear hwt6 hr6 hwt5
  go_wp2
  go_end0
  rw[Hwe.out]
  exact⟨rfl,H6.out.1,Hb1.out.trans H6.out.2⟩
theorem txt_op {d:Nat} {op n:Int} {s name src:ByteArray} {args:List Ex}:txtE (d+1) (.mk op n s name src args)=(if op=1 then decS n
  else if op=2 then quoteS s
  else if op=3 then (if n=1 then trueL else falseL)
  else if op=4 then name.data.toList
  else if op=5 then name.data.toList++[46]++s.data.toList
  else match args with
   | []=>[]
   | a::r =>
    if op=19∨op=20 then sgnL op++opnd (lvlZ op) a.op (txtE d a)
    else if 21≤op then sgnL op++[40]++rowsT name src a.op a.n (txtE d a)++(if op=21 then [] else [58,32]++(match r with|[]=>[]|b::_=>txtE d b))++[41]
    else opnd (lvlZ op+if lvlZ op=4 then 1 else 0) a.op (txtE d a)++([32]++sgnL op++[32])++(match r with|[]=>[]|b::_=>opnd (lvlZ op+1) b.op (txtE d b))):=by rw[txtE];rfl
theorem nl_op {d:Nat} {op n:Int} {s name src:ByteArray} {args:List Ex}:nlE (d+1) (.mk op n s name src args)=((decide (op=2)&&s.data.toList.any (·==10))||args.any (nlE d)):=by rw[nlE];rfl
theorem fields_op {d:Nat} {op n:Int} {s name src:ByteArray} {args:List Ex} (h:builtE (d+1) (.mk op n s name src args)=true):arityB op=args.length∧fieldsR op n s name src=true∧∀ x∈args,builtE d x=true:=built_parts h
theorem no_args {op:Int} {args:List Ex} (h:arityB op=args.length) (h5:op=1∨op=2∨op=3∨op=4∨op=5):args=[]:=by
 have:arityB op=0:=by rcases h5 with rfl|rfl|rfl|rfl|rfl<;>rfl
 exact List.eq_nil_of_length_eq_zero (by omega)
theorem expr_int (n:Int) (s name src:ByteArray) (A:Option Addr) (m c:Nat) (g:Nat) (t:List UInt8) (br:Bool) (w:World) (h:WtAt g t br w) (hn:0≤n) (hn2:n≤9223372036854775807) (hlen:t.length+(decS n).length≤1000000000) :
  Calls Tryz.prog 21 #[.pointer (some ⟨g,0,none⟩),.agg #[.int .i64 1,.int .i64 n,.string s,.string name,.string src,.slice A m c]] w fun e' w'=>e'=.returned (.tuple #[])∧WtAt g (t++decS n) br w'∧Wrote g w w':=by
 have Hsg:=Lhd (fun W=>sign_any 1 W (by decide) (by decide))
 have Hcp:=Lhd (fun W=>calcPrint_any n W hn hn2)
 obtain⟨w1,Hw1⟩:∃ w1,Hid (w1=w.alloc (.cells #[.int .i64 1,.int .i64 n,.string s,.string name,.string src,.slice A m c] 32)):=⟨_,rfl⟩
 have hb1:Below w.heap.size w w1:=by rw[Hw1.out];exact(Below.refl _ _).alloc (Nat.le_refl _) _
 have hk1:IsBlk w1 w.heap.size 32 #[.int .i64 1,.int .i64 n,.string s,.string name,.string src,.slice A m c]:=by rw[Hw1.out];exact IsBlk.laid _ _ _
 have Hx:=Lhd (fun W (hW:Below w1.heap.size w1 W)=>box6 (hk1.as_was (hW.block _ hk1.lt)))
 have hR:Below w1.heap.size w1 w1:=Below.refl _ _
 obtain⟨x0,x1,x2,x3,x4,x5,xl⟩:=Hx.out _ hR
 have Hb:=Lhd (And.intro hb1 h)
 have Hlen:=Lhd hlen
 clear hk1 h hlen hn hn2 hb1
 go_enter Tryz.func21,Tryz.ntmps21
 go_upto_region 1 with (fail)
 rw[← Hw1.out]
 go_wp2_with (first
  | (go_at_call 45;refine(Hsg.out _).mono ?_;rintro e' w2 ⟨rfl,hb2⟩;replace hR:=hR.trans (hb2.mono hR.size);obtain⟨x0,x1,x2,x3,x4,x5,xl⟩:=Hx.out _ hR)
  | (go_at_call 47;refine(Hcp.out _).mono ?_;rintro e' w3 ⟨rfl,hb3⟩;replace hR:=hR.trans (hb3.mono hR.size)))
 have hB:=Hb.out.1.trans (hR.mono Hb.out.1.size)
 refine(put_new g 1 t br [⟨(decS n).toArray⟩] _ (Hb.out.2.below hB) rfl (by decide) (by simpa [catL] using Hlen.out)).mono ?_
 rintro e' w4 ⟨rfl,hwt4,hr4⟩
 have e4:t++catL [⟨(decS n).toArray⟩]=t++decS n:=by simp[catL]
 rw[e4] at hwt4
 have H4:=Lhd (And.intro hwt4 ((Wrote.of_below (Nat.le_of_lt Hb.out.2.lt) hB).trans hr4))
 clear hwt4 hr4
 go_wp2
 go_end0
 exact⟨rfl,H4.out.1,H4.out.2⟩
theorem expr_false (s name src:ByteArray) (A:Option Addr) (m c:Nat) (g:Nat) (t:List UInt8) (br:Bool) (w:World) (h:WtAt g t br w) (hlen:t.length+(falseL).length≤1000000000) :
  Calls Tryz.prog 21 #[.pointer (some ⟨g,0,none⟩),.agg #[.int .i64 3,.int .i64 0,.string s,.string name,.string src,.slice A m c]] w fun e' w'=>e'=.returned (.tuple #[])∧WtAt g (t++(falseL)) br w'∧Wrote g w w':=by
 have Hsg:=Lhd (fun W=>sign_any 3 W (by decide) (by decide))
 have Hbo:=Lhd (fun W=>(show Calls Tryz.prog 51 #[.bool false] W fun e w'=>e=.returned (.agg #[.int .i64 3,.int .i64 0,.string ⟨#[]⟩])∧Below W.heap.size W w' from bool_any false W))
 have Hvp:=Lhd (fun W=>(show Calls Tryz.prog 49 #[.agg #[.int .i64 3,.int .i64 0,.string ⟨#[]⟩]] W fun e w'=>e=.returned (.string ⟨falseL.toArray⟩)∧Below W.heap.size W w' from valBool_any false W))
 obtain⟨w1,Hw1⟩:∃ w1,Hid (w1=w.alloc (.cells #[.int .i64 3,.int .i64 0,.string s,.string name,.string src,.slice A m c] 32)):=⟨_,rfl⟩
 have hb1:Below w.heap.size w w1:=by rw[Hw1.out];exact(Below.refl _ _).alloc (Nat.le_refl _) _
 have hk1:IsBlk w1 w.heap.size 32 #[.int .i64 3,.int .i64 0,.string s,.string name,.string src,.slice A m c]:=by rw[Hw1.out];exact IsBlk.laid _ _ _
 have Hx:=Lhd (fun W (hW:Below w1.heap.size w1 W)=>box6 (hk1.as_was (hW.block _ hk1.lt)))
 have hR:Below w1.heap.size w1 w1:=Below.refl _ _
 obtain⟨x0,x1,x2,x3,x4,x5,xl⟩:=Hx.out _ hR
 have Hb:=Lhd (And.intro hb1 h)
 have Hlen:=Lhd hlen
 clear hk1 h hlen hb1
 go_enter Tryz.func21,Tryz.ntmps21
 go_upto_region 1 with (fail)
 rw[← Hw1.out]
 go_wp2_with (first
  | (go_at_call 45;refine(Hsg.out _).mono ?_;rintro e' w2 ⟨rfl,hb2⟩;replace hR:=hR.trans (hb2.mono hR.size);obtain⟨x0,x1,x2,x3,x4,x5,xl⟩:=Hx.out _ hR)
  | (go_at_call 51;refine(Hbo.out _).mono ?_;rintro e' w5 ⟨rfl,hb5⟩;replace hR:=hR.trans (hb5.mono hR.size);obtain⟨x0,x1,x2,x3,x4,x5,xl⟩:=Hx.out _ hR)
  | (go_at_call 49;refine(Hvp.out _).mono ?_;rintro e' w6 ⟨rfl,hb6⟩;replace hR:=hR.trans (hb6.mono hR.size);obtain⟨x0,x1,x2,x3,x4,x5,xl⟩:=Hx.out _ hR))
 have hB:=Hb.out.1.trans (hR.mono Hb.out.1.size)
 refine(put_new g 1 t br [⟨falseL.toArray⟩] _ (Hb.out.2.below hB) rfl (by decide) (by simpa [catL,trueL,falseL] using Hlen.out)).mono ?_
 rintro e' w4 ⟨rfl,hwt4,hr4⟩
 have e4:t++catL [⟨falseL.toArray⟩]=t++(falseL):=by simp[catL]
 rw[e4] at hwt4
 have H4:=Lhd (And.intro hwt4 ((Wrote.of_below (Nat.le_of_lt Hb.out.2.lt) hB).trans hr4))
 clear hwt4 hr4
 go_wp2
 go_end0
 exact⟨rfl,H4.out.1,H4.out.2⟩
theorem expr_true (s name src:ByteArray) (A:Option Addr) (m c:Nat) (g:Nat) (t:List UInt8) (br:Bool) (w:World) (h:WtAt g t br w) (hlen:t.length+(trueL).length≤1000000000) :
  Calls Tryz.prog 21 #[.pointer (some ⟨g,0,none⟩),.agg #[.int .i64 3,.int .i64 1,.string s,.string name,.string src,.slice A m c]] w fun e' w'=>e'=.returned (.tuple #[])∧WtAt g (t++(trueL)) br w'∧Wrote g w w':=by
 have Hsg:=Lhd (fun W=>sign_any 3 W (by decide) (by decide))
 have Hbo:=Lhd (fun W=>(show Calls Tryz.prog 51 #[.bool true] W fun e w'=>e=.returned (.agg #[.int .i64 3,.int .i64 1,.string ⟨#[]⟩])∧Below W.heap.size W w' from bool_any true W))
 have Hvp:=Lhd (fun W=>(show Calls Tryz.prog 49 #[.agg #[.int .i64 3,.int .i64 1,.string ⟨#[]⟩]] W fun e w'=>e=.returned (.string ⟨trueL.toArray⟩)∧Below W.heap.size W w' from valBool_any true W))
 obtain⟨w1,Hw1⟩:∃ w1,Hid (w1=w.alloc (.cells #[.int .i64 3,.int .i64 1,.string s,.string name,.string src,.slice A m c] 32)):=⟨_,rfl⟩
 have hb1:Below w.heap.size w w1:=by rw[Hw1.out];exact(Below.refl _ _).alloc (Nat.le_refl _) _
 have hk1:IsBlk w1 w.heap.size 32 #[.int .i64 3,.int .i64 1,.string s,.string name,.string src,.slice A m c]:=by rw[Hw1.out];exact IsBlk.laid _ _ _
 have Hx:=Lhd (fun W (hW:Below w1.heap.size w1 W)=>box6 (hk1.as_was (hW.block _ hk1.lt)))
 have hR:Below w1.heap.size w1 w1:=Below.refl _ _
 obtain⟨x0,x1,x2,x3,x4,x5,xl⟩:=Hx.out _ hR
 have Hb:=Lhd (And.intro hb1 h)
 have Hlen:=Lhd hlen
 clear hk1 h hlen hb1
 go_enter Tryz.func21,Tryz.ntmps21
 go_upto_region 1 with (fail)
 rw[← Hw1.out]
 go_wp2_with (first
  | (go_at_call 45;refine(Hsg.out _).mono ?_;rintro e' w2 ⟨rfl,hb2⟩;replace hR:=hR.trans (hb2.mono hR.size);obtain⟨x0,x1,x2,x3,x4,x5,xl⟩:=Hx.out _ hR)
  | (go_at_call 51;refine(Hbo.out _).mono ?_;rintro e' w5 ⟨rfl,hb5⟩;replace hR:=hR.trans (hb5.mono hR.size);obtain⟨x0,x1,x2,x3,x4,x5,xl⟩:=Hx.out _ hR)
  | (go_at_call 49;refine(Hvp.out _).mono ?_;rintro e' w6 ⟨rfl,hb6⟩;replace hR:=hR.trans (hb6.mono hR.size);obtain⟨x0,x1,x2,x3,x4,x5,xl⟩:=Hx.out _ hR))
 have hB:=Hb.out.1.trans (hR.mono Hb.out.1.size)
 refine(put_new g 1 t br [⟨trueL.toArray⟩] _ (Hb.out.2.below hB) rfl (by decide) (by simpa [catL,trueL,falseL] using Hlen.out)).mono ?_
 rintro e' w4 ⟨rfl,hwt4,hr4⟩
 have e4:t++catL [⟨trueL.toArray⟩]=t++(trueL):=by simp[catL]
 rw[e4] at hwt4
 have H4:=Lhd (And.intro hwt4 ((Wrote.of_below (Nat.le_of_lt Hb.out.2.lt) hB).trans hr4))
 clear hwt4 hr4
 go_wp2
 go_end0
 exact⟨rfl,H4.out.1,H4.out.2⟩
theorem expr_var (n:Int) (s name src:ByteArray) (A:Option Addr) (m c:Nat) (g:Nat) (t:List UInt8) (br:Bool) (w:World) (h:WtAt g t br w) (hlen:t.length+(name.data.toList).length≤1000000000) :
  Calls Tryz.prog 21 #[.pointer (some ⟨g,0,none⟩),.agg #[.int .i64 4,.int .i64 n,.string s,.string name,.string src,.slice A m c]] w fun e' w'=>e'=.returned (.tuple #[])∧WtAt g (t++(name.data.toList)) br w'∧Wrote g w w':=by
 have Hsg:=Lhd (fun W=>sign_any 4 W (by decide) (by decide))
 obtain⟨w1,Hw1⟩:∃ w1,Hid (w1=w.alloc (.cells #[.int .i64 4,.int .i64 n,.string s,.string name,.string src,.slice A m c] 32)):=⟨_,rfl⟩
 have hb1:Below w.heap.size w w1:=by rw[Hw1.out];exact(Below.refl _ _).alloc (Nat.le_refl _) _
 have hk1:IsBlk w1 w.heap.size 32 #[.int .i64 4,.int .i64 n,.string s,.string name,.string src,.slice A m c]:=by rw[Hw1.out];exact IsBlk.laid _ _ _
 have Hx:=Lhd (fun W (hW:Below w1.heap.size w1 W)=>box6 (hk1.as_was (hW.block _ hk1.lt)))
 have hR:Below w1.heap.size w1 w1:=Below.refl _ _
 obtain⟨x0,x1,x2,x3,x4,x5,xl⟩:=Hx.out _ hR
 have Hb:=Lhd (And.intro hb1 h)
 have Hlen:=Lhd hlen
 clear hk1 h hlen hb1
 go_enter Tryz.func21,Tryz.ntmps21
 go_upto_region 1 with (fail)
 rw[← Hw1.out]
 go_wp2_with (first
  | (go_at_call 45;refine(Hsg.out _).mono ?_;rintro e' w2 ⟨rfl,hb2⟩;replace hR:=hR.trans (hb2.mono hR.size);obtain⟨x0,x1,x2,x3,x4,x5,xl⟩:=Hx.out _ hR))
 have hB:=Hb.out.1.trans (hR.mono Hb.out.1.size)
 refine(put_new g 1 t br [name] _ (Hb.out.2.below hB) rfl (by decide) (by simpa [catL,trueL,falseL] using Hlen.out)).mono ?_
 rintro e' w4 ⟨rfl,hwt4,hr4⟩
 have e4:t++catL [name]=t++(name.data.toList):=by simp[catL]
 rw[e4] at hwt4
 have H4:=Lhd (And.intro hwt4 ((Wrote.of_below (Nat.le_of_lt Hb.out.2.lt) hB).trans hr4))
 clear hwt4 hr4
 go_wp2
 go_end0
 exact⟨rfl,H4.out.1,H4.out.2⟩
theorem expr_col (n:Int) (s name src:ByteArray) (A:Option Addr) (m c:Nat) (g:Nat) (t:List UInt8) (br:Bool) (w:World) (h:WtAt g t br w) (hlen:t.length+(name.data.toList++[46]++s.data.toList).length≤1000000000) :
  Calls Tryz.prog 21 #[.pointer (some ⟨g,0,none⟩),.agg #[.int .i64 5,.int .i64 n,.string s,.string name,.string src,.slice A m c]] w fun e' w'=>e'=.returned (.tuple #[])∧WtAt g (t++(name.data.toList++[46]++s.data.toList)) br w'∧Wrote g w w':=by
 have Hsg:=Lhd (fun W=>sign_any 5 W (by decide) (by decide))
 obtain⟨w1,Hw1⟩:∃ w1,Hid (w1=w.alloc (.cells #[.int .i64 5,.int .i64 n,.string s,.string name,.string src,.slice A m c] 32)):=⟨_,rfl⟩
 have hb1:Below w.heap.size w w1:=by rw[Hw1.out];exact(Below.refl _ _).alloc (Nat.le_refl _) _
 have hk1:IsBlk w1 w.heap.size 32 #[.int .i64 5,.int .i64 n,.string s,.string name,.string src,.slice A m c]:=by rw[Hw1.out];exact IsBlk.laid _ _ _
 have Hx:=Lhd (fun W (hW:Below w1.heap.size w1 W)=>box6 (hk1.as_was (hW.block _ hk1.lt)))
 have hR:Below w1.heap.size w1 w1:=Below.refl _ _
 obtain⟨x0,x1,x2,x3,x4,x5,xl⟩:=Hx.out _ hR
 have Hb:=Lhd (And.intro hb1 h)
 have Hlen:=Lhd hlen
 clear hk1 h hlen hb1
 go_enter Tryz.func21,Tryz.ntmps21
 go_upto_region 1 with (fail)
 rw[← Hw1.out]
 go_wp2_with (first
  | (go_at_call 45;refine(Hsg.out _).mono ?_;rintro e' w2 ⟨rfl,hb2⟩;replace hR:=hR.trans (hb2.mono hR.size);obtain⟨x0,x1,x2,x3,x4,x5,xl⟩:=Hx.out _ hR))
 have hB:=Hb.out.1.trans (hR.mono Hb.out.1.size)
 refine(put_new g 3 t br [name,⟨#[46]⟩,s] _ (Hb.out.2.below hB) rfl (by decide) (by simpa [catL,trueL,falseL] using Hlen.out)).mono ?_
 rintro e' w4 ⟨rfl,hwt4,hr4⟩
 have e4:t++catL [name,⟨#[46]⟩,s]=t++(name.data.toList++[46]++s.data.toList):=by simp[catL]
 rw[e4] at hwt4
 have H4:=Lhd (And.intro hwt4 ((Wrote.of_below (Nat.le_of_lt Hb.out.2.lt) hB).trans hr4))
 clear hwt4 hr4
 go_wp2
 go_end0
 exact⟨rfl,H4.out.1,H4.out.2⟩
theorem index_any (c:UInt8) (l:List UInt8):decide (0≤Lib.indexByte l c)=l.any (·==c):=by
 induction l with
 | nil=>rfl
 | cons b l ih =>
  unfold Lib.indexByte
  rw[List.any_cons]
  cases hb:b==c
  ·simp only[Bool.false_eq_true,if_false,Bool.false_or]
   rw[← ih]
   have:=Lib.indexByte_ge l c
   split
   ·rename_i h
    have h:Lib.indexByte l c = -1:=by simpa using h
    rw[h]
   ·rename_i h
    have h:Lib.indexByte l c≠-1:=by simpa using h
    have h1:(0:Int)≤Lib.indexByte l c:=by omega
    have h2:(0:Int)≤Lib.indexByte l c+1:=by omega
    rw[decide_eq_true h1,decide_eq_true h2]
  ·simp
theorem WtAt.store {g:Nat} {t:List UInt8} {br:Bool} {w:World} (h:WtAt g t br w) (b2:Bool):WtAt g t b2 (w.setCell ⟨g,2,none⟩ (.bool b2))∧Wrote g w (w.setCell ⟨g,2,none⟩ (.bool b2)):=by
 have hin:∀ p,WtIn g t br p w→WtIn g t b2 p (w.setCell ⟨g,2,none⟩ (.bool b2))∧Wrote g w (w.setCell ⟨g,2,none⟩ (.bool b2)):=by
  rintro p ⟨A,c,hk,ho⟩
  refine⟨⟨A,c,hk.stored 2 _,?_⟩,(Below.refl _ _).setCell (p:=⟨g,2,none⟩) (Nat.le_refl _) _,keep_writer hk⟩
  exact own_but ho ((But.refl (fun i=>i=g) w).setCell (p:=⟨g,2,none⟩) (.inl rfl) _) (fun i hi e=>by
   subst e
   have:=(ho.lt i hi).1
   omega)
 rcases h with h|h
 ·exact⟨.inl (hin _ h).1,(hin _ h).2⟩
 ·exact⟨.inr (hin _ h).1,(hin _ h).2⟩
theorem WtAt.brk {g:Nat} {t:List UInt8} {br:Bool} {w:World} (h:WtAt g t br w):w.cell? ⟨g,2,none⟩=some (.bool br)∧w.frozen? ⟨g,2,none⟩=false∧g<w.heap.size:=by
 rcases h with ⟨A,c,hk,_⟩|⟨A,c,hk,_⟩<;>exact⟨(wtBox hk).2.2.1,hk.frozen 2,hk.lt⟩
theorem expr_text (n:Int) (s name src:ByteArray) (A:Option Addr) (m c:Nat) (g:Nat) (t:List UInt8) (br:Bool) (w:World) (h:WtAt g t br w) (hs:s.size≤200) (hm:HasMax w) (hg:0<g) (hlen:t.length+(quoteS s).length≤1000000000) :
  Calls Tryz.prog 21 #[.pointer (some ⟨g,0,none⟩),.agg #[.int .i64 2,.int .i64 n,.string s,.string name,.string src,.slice A m c]] w fun e' w'=>e'=.returned (.tuple #[])∧WtAt g (t++quoteS s) (br||s.data.toList.any (·==10)) w'∧Wrote g w w':=by
 have Hsg:=Lhd (fun W=>sign_any 2 W (by decide) (by decide))
 have Hcn:=Lhd (fun W=>(show Calls Tryz.prog 48 #[.string s,.string ⟨#[10]⟩] W fun e w'=>e=.returned (.bool (s.data.toList.any (·==10)))∧W=w' from by
  have h:=Tryz.strings_Contains_one s 10 W
  rw[index_any] at h
  refine h.mono ?_
  rintro e w' ⟨rfl,rfl⟩
  exact⟨rfl,rfl⟩))
 generalize s.data.toList.any (·==10)=nl at *
 have Htx:=Lhd (fun W=>text_any s W)
 obtain⟨w1,Hw1⟩:∃ w1,Hid (w1=w.alloc (.cells #[.int .i64 2,.int .i64 n,.string s,.string name,.string src,.slice A m c] 32)):=⟨_,rfl⟩
 have hb1:Below w.heap.size w w1:=by rw[Hw1.out];exact(Below.refl _ _).alloc (Nat.le_refl _) _
 have hk1:IsBlk w1 w.heap.size 32 #[.int .i64 2,.int .i64 n,.string s,.string name,.string src,.slice A m c]:=by rw[Hw1.out];exact IsBlk.laid _ _ _
 have hr1:Wrote g w w1:=Wrote.of_below (Nat.le_of_lt h.lt) hb1
 have Hx:=Lhd (fun W (hW:Wrote g w1 W)=>box6 (hW.2.2 _ _ _ (by decide) (by decide) hk1))
 have Hvt:=Lhd (fun W (hW:Wrote g w W)=>valText_any s W hs (hm.below hg hW.1))
 have hwt1:=h.below hb1
 have Hr1:=Lhd hr1
 obtain⟨x0,x1,x2,x3,x4,x5,xl⟩:=Hx.out _ (Wrote.refl _ _)
 have Hlen:=Lhd hlen
 clear hk1 h hlen hb1 hm hs hr1
 go_enter Tryz.func21,Tryz.ntmps21
 go_upto_region 1 with (fail)
 rw[← Hw1.out]
 go_wp2_with (go_at_call 45;refine(Hsg.out _).mono ?_)
 rintro e' w2 ⟨rfl,hb2⟩
 have hr2:Wrote g w1 w2:=Wrote.of_below (Nat.le_of_lt hwt1.lt) hb2
 have hwt2:=hwt1.below hb2
 obtain⟨y0,y1,y2,y3,y4,y5,yl⟩:=Hx.out _ hr2
 obtain⟨b1,b2,b3⟩:=hwt2.brk
 clear x0 x1 x2 x3 x4 x5 hwt1 hb2
 have Hwt2:=Lhd hwt2
 have Hr2:=Lhd hr2
 clear hwt2 hr2
 cases br
 ·go_upto_region 13 with (go_at_call 48;refine(Hcn.out _).mono ?_;rintro e' w3 ⟨rfl,rfl⟩)
  have hst:=Hwt2.out.store nl
  generalize w2.setCell ⟨g,2,none⟩ (.bool nl)=w3 at *
  obtain⟨hwt3,hr3⟩:=hst
  have hr3':=Hr2.out.trans hr3
  obtain⟨x0,x1,x2,x3,x4,x5,xl⟩:=Hx.out _ hr3'
  have Hr3:=Lhd hr3'
  have Hwt3:=Lhd hwt3
  clear y0 y1 y2 y3 y4 y5 b1 b2 b3 hr3 hr3' hwt3 yl
  go_wp2_with (go_at_call 50;refine(Htx.out _).mono ?_)
  rintro e' w4 ⟨rfl,hb4⟩
  have hr4:=Hr1.out.trans (Hr3.out.trans (Wrote.of_below (Nat.le_of_lt Hwt3.out.lt) hb4))
  have hwt4:=Hwt3.out.below hb4
  have Hv4:=Lhd (Hvt.out _ hr4)
  have Hr4:=Lhd (And.intro hwt4 hr4)
  clear hb4 hr4 hwt4 x0 x1 x2 x3 x4 x5 xl
  go_wp2_with (go_at_call 49;refine Hv4.out.mono ?_)
  rintro e' w5 ⟨rfl,hb5⟩
  have H5:=Lhd (And.intro (Hr4.out.1.below hb5) (Hr4.out.2.trans (Wrote.of_below (Nat.le_of_lt Hr4.out.1.lt) hb5)))
  clear hb5
  go_wp2_with (fail)
  refine(put_new g 1 t nl [⟨(quoteS s).toArray⟩] _ H5.out.1 rfl (by decide) (by simpa [catL] using Hlen.out)).mono ?_
  rintro e' w6 ⟨rfl,hwt6,hr6⟩
  have e6:t++catL [⟨(quoteS s).toArray⟩]=t++quoteS s:=by simp[catL]
  rw[e6] at hwt6
  have H6:=Lhd (And.intro hwt6 (H5.out.2.trans hr6))
  clear hwt6 hr6
  go_wp2
  go_end0
  exact⟨rfl,by simpa using H6.out.1,H6.out.2⟩
 ·go_upto_region 13 with (fail)
  have hst:=Hwt2.out.store true
  generalize w2.setCell ⟨g,2,none⟩ (.bool true)=w3 at *
  obtain⟨hwt3,hr3⟩:=hst
  have hr3':=Hr2.out.trans hr3
  obtain⟨x0,x1,x2,x3,x4,x5,xl⟩:=Hx.out _ hr3'
  have Hr3:=Lhd hr3'
  have Hwt3:=Lhd hwt3
  clear y0 y1 y2 y3 y4 y5 b1 b2 b3 hr3 hr3' hwt3 yl
  go_wp2_with (go_at_call 50;refine(Htx.out _).mono ?_)
  rintro e' w4 ⟨rfl,hb4⟩
  have hr4:=Hr1.out.trans (Hr3.out.trans (Wrote.of_below (Nat.le_of_lt Hwt3.out.lt) hb4))
  have hwt4:=Hwt3.out.below hb4
  have Hv4:=Lhd (Hvt.out _ hr4)
  have Hr4:=Lhd (And.intro hwt4 hr4)
  clear hb4 hr4 hwt4 x0 x1 x2 x3 x4 x5 xl
  go_wp2_with (go_at_call 49;refine Hv4.out.mono ?_)
  rintro e' w5 ⟨rfl,hb5⟩
  have H5:=Lhd (And.intro (Hr4.out.1.below hb5) (Hr4.out.2.trans (Wrote.of_below (Nat.le_of_lt Hr4.out.1.lt) hb5)))
  clear hb5
  go_wp2_with (fail)
  refine(put_new g 1 t true [⟨(quoteS s).toArray⟩] _ H5.out.1 rfl (by decide) (by simpa [catL] using Hlen.out)).mono ?_
  rintro e' w6 ⟨rfl,hwt6,hr6⟩
  have e6:t++catL [⟨(quoteS s).toArray⟩]=t++quoteS s:=by simp[catL]
  rw[e6] at hwt6
  have H6:=Lhd (And.intro hwt6 (H5.out.2.trans hr6))
  clear hwt6 hr6
  go_wp2
  go_end0
  exact⟨rfl,by simpa using H6.out.1,H6.out.2⟩
end Go.Proofs.YtdgapmnojmhllaaGreatDoor

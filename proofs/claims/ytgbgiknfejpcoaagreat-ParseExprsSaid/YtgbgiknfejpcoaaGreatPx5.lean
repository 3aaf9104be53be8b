/- Parts of this proof, one behind the other: SynJ, SynJ1, SynJ2, SynJ3, SynJ4, SynK. -/
import Derived.Test.YtgbgiknfejpcoaaGreatPx4
import Derived.Deep.Cut
set_option maxRecDepth 1000000
set_option maxHeartbeats 40000000
namespace Go.Proofs.YtgbgiknfejpcoaaGreat
open Go.RowKit Go.Afx
theorem hasT_any (s:ByteArray) (w:World) (hs:okS s):Calls Tryz.prog 200 #[.bool true,.string s] w fun x w'=>∃ A n c,x=.returned (.slice A n c)∧LsAt (fun _=>True) w' 1 SRow A n c [s]∧Below w.heap.size w w':=has_any true s w hs
theorem hasF_any (s:ByteArray) (w:World):Calls Tryz.prog 200 #[.bool false,.string s] w fun x w'=>x=.returned (.slice none 0 0)∧w=w':=by
 go_enter Tryz.func200,Tryz.ntmps200
 go_wp2
 go_ret
 exact⟨rfl,rfl⟩
theorem freeN_any (w:World):Calls Tryz.prog 135 #[.slice none 0 0] w fun x w'=>x=.returned (.bool true)∧Below w.heap.size w w':=free_any (fun _=>True) none 0 0 [] w (LsAt.nil_ _ _ _ _)
theorem freesB_one (s:ByteArray):freesB [s]=freeB s:=by rw[freesB_all];simp
theorem str_empty {s:ByteArray} (h:noS s=true):s.toList=[]:=by rw[noS_nil] at h;simpa using h
theorem nat_nz {n:Nat} (h:decide (n=0)=false):((n:Int)==0)=false:=by simp at h ⊢;omega
theorem int_nz {n:Int} (h:decide (n=0)=false):(n==0)=false:=by simp at h ⊢;omega
theorem str_some {s:ByteArray} (h:noS s=false):s.toList.isEmpty=false:=by rw[noS_nil] at h;exact h
theorem stBox {w:World} {g:Nat} {T:TypeId} {op n:Int} {name src:ByteArray} {Ac Ae Ab Al:Option Addr} {nc cc ne ce nb cb nl cl:Nat}
  (h:IsBlk w g T #[.int .i64 op,.string name,.string src,.int .i64 n,.slice Ac nc cc,.slice Ae ne ce,.slice Ab nb cb,.slice Al nl cl]) :
  w.cell? ⟨g,1,none⟩=some (.string name)∧w.cell? ⟨g,2,none⟩=some (.string src)∧w.cell? ⟨g,3,none⟩=some (.int .i64 n)∧w.cell? ⟨g,4,none⟩=some (.slice Ac nc cc)∧w.cell? ⟨g,5,none⟩=some (.slice Ae ne ce)∧w.cell? ⟨g,6,none⟩=some (.slice Ab nb cb)∧w.cell? ⟨g,7,none⟩=some (.slice Al nl cl)∧g<w.heap.size:=by
 have h1:=h.cell 1;have h2:=h.cell 2;have h3:=h.cell 3;have h4:=h.cell 4;have h5:=h.cell 5;have h6:=h.cell 6;have h7:=h.cell 7
 simp at h1 h2 h3 h4 h5 h6 h7
 exact⟨h1,h2,h3,h4,h5,h6,h7,h.lt⟩
theorem grow {w W W':World} {o:Obj} (hX:Below (w.heap.size+1) (w.alloc o) W) (hb:Below W.heap.size W W'):Below (w.heap.size+1) (w.alloc o) W' :=
 hX.trans (hb.mono (by have:=hX.size;simp at this;omega))
theorem shStart (op:Int) (name src:ByteArray) (n:Int) (Ac Ae Ab Al:Option Addr) (nc cc ne ce nb cb nl cl:Nat) (w:World):Below w.heap.size w (w.alloc (.cells #[.int .i64 op,.string name,.string src,.int .i64 n,.slice Ac nc cc,.slice Ae ne ce,.slice Ab nb cb,.slice Al nl cl] 73))∧Below (w.heap.size+1) (w.alloc (.cells #[.int .i64 op,.string name,.string src,.int .i64 n,.slice Ac nc cc,.slice Ae ne ce,.slice Ab nb cb,.slice Al nl cl] 73)) (w.alloc (.cells #[.int .i64 op,.string name,.string src,.int .i64 n,.slice Ac nc cc,.slice Ae ne ce,.slice Ab nb cb,.slice Al nl cl] 73))∧Hid (∀ W,Below (w.heap.size+1) (w.alloc (.cells #[.int .i64 op,.string name,.string src,.int .i64 n,.slice Ac nc cc,.slice Ae ne ce,.slice Ab nb cb,.slice Al nl cl] 73)) W→W.cell? ⟨w.heap.size,1,none⟩=some (.string name)∧W.cell? ⟨w.heap.size,2,none⟩=some (.string src)∧W.cell? ⟨w.heap.size,3,none⟩=some (.int .i64 n)∧W.cell? ⟨w.heap.size,4,none⟩=some (.slice Ac nc cc)∧W.cell? ⟨w.heap.size,5,none⟩=some (.slice Ae ne ce)∧W.cell? ⟨w.heap.size,6,none⟩=some (.slice Ab nb cb)∧W.cell? ⟨w.heap.size,7,none⟩=some (.slice Al nl cl)∧w.heap.size<W.heap.size) :=
 have hx1:IsBlk (w.alloc (.cells #[.int .i64 op,.string name,.string src,.int .i64 n,.slice Ac nc cc,.slice Ae ne ce,.slice Ab nb cb,.slice Al nl cl] 73)) w.heap.size 73 #[.int .i64 op,.string name,.string src,.int .i64 n,.slice Ac nc cc,.slice Ae ne ce,.slice Ab nb cb,.slice Al nl cl]:=IsBlk.laid _ _ _
 ⟨(Below.refl _ _).alloc (Nat.le_refl _) _,Below.refl _ _,Lhd (fun _ hW=>stBox (hx1.as_was (hW.block _ (Nat.lt_succ_self _))))⟩
theorem shStart4 (op:Int) (name src:ByteArray) (n:Int) (Ac Ae Ab Al:Option Addr) (nc cc ne ce nb cb nl cl:Nat) (w:World):Below w.heap.size w (w.alloc (.cells #[.int .i64 op,.string name,.string src,.int .i64 n,.slice Ac nc cc,.slice Ae ne ce,.slice Ab nb cb,.slice Al nl cl] 73))∧(∀ k,Below (w.heap.size+1) (w.alloc (.cells #[.int .i64 op,.string name,.string src,.int .i64 n,.slice Ac nc cc,.slice Ae ne ce,.slice Ab nb cb,.slice Al nl cl] 73)) ((w.alloc (.cells #[.int .i64 op,.string name,.string src,.int .i64 n,.slice Ac nc cc,.slice Ae ne ce,.slice Ab nb cb,.slice Al nl cl] 73)).drewN k))∧Hid (∀ W,Below (w.heap.size+1) (w.alloc (.cells #[.int .i64 op,.string name,.string src,.int .i64 n,.slice Ac nc cc,.slice Ae ne ce,.slice Ab nb cb,.slice Al nl cl] 73)) W→W.cell? ⟨w.heap.size,1,none⟩=some (.string name)∧W.cell? ⟨w.heap.size,2,none⟩=some (.string src)∧W.cell? ⟨w.heap.size,3,none⟩=some (.int .i64 n)∧W.cell? ⟨w.heap.size,4,none⟩=some (.slice Ac nc cc)∧W.cell? ⟨w.heap.size,5,none⟩=some (.slice Ae ne ce)∧W.cell? ⟨w.heap.size,6,none⟩=some (.slice Ab nb cb)∧W.cell? ⟨w.heap.size,7,none⟩=some (.slice Al nl cl)∧w.heap.size<W.heap.size) :=
 have h:=shStart op name src n Ac Ae Ab Al nc cc ne ce nb cb nl cl w
 ⟨h.1,fun k=>below_drewN (Below.refl _ _) k,h.2.2⟩
theorem shapeK_1 (F:Nat→Prop) (name src:ByteArray) (n:Int) (Ac Ae Ab Al:Option Addr) (nc cc ne ce nb cb nl cl:Nat) (cols:List ByteArray) (w:World) (hc:LsAt F w 1 SRow Ac nc cc cols) (okn:okS name) :
  Calls Tryz.prog 178 #[.agg #[.int .i64 1,.string name,.string src,.int .i64 n,.slice Ac nc cc,.slice Ae ne ce,.slice Ab nb cb,.slice Al nl cl]] w fun x w'=>x=.returned (.bool (shapeR 1 name src n cols ne nb nl))∧Below w.heap.size w w':=by
 have hcl:=hc.len
 obtain⟨hbase,hX,Hx⟩:=shStart 1 name src n Ac Ae Ab Al nc cc ne ce nb cb nl cl w
 have HF0:=Lhd (fun (W:World) A m c (h:LsAt (fun _=>True) W 1 SRow A m c [name])=>free_any _ A m c _ W h)
 rw[freesB_one] at HF0
 have HW4:=Lhd (fun W=>within_any ne 1 1 W)
 generalize hfin:shapeR 1 name src n cols ne nb nl=fin
 cases t0:freeB name
 rotate_left
 cases t1:noS src
 rotate_left
 cases t2:decide (nc=0)
 rotate_left
 cases t3:decide (n=0)
 rotate_left
 cases t4:(decide (1≤(ne:Int))&&decide ((ne:Int)≤1))
 rotate_left
 cases t5:decide (nb=0)
 rotate_left
 cases t6:decide (nl=0)
 rotate_left
 all_goals
  simp[shapeR,shapeP, *] at hfin
  subst hfin
  try (rw[t0] at HF0;clear t0)
  first|replace t1:=str_empty t1|replace t1:=str_some t1|skip
  first|(obtain rfl:=of_decide_eq_true t2;clear t2)|replace t2:=nat_nz t2|skip
  first|(obtain rfl:=of_decide_eq_true t3;clear t3)|replace t3:=int_nz t3|skip
  try (rw[t4] at HW4;clear t4)
  first|(obtain rfl:=of_decide_eq_true t5;clear t5)|replace t5:=nat_nz t5|skip
  first|(obtain rfl:=of_decide_eq_true t6;clear t6)|replace t6:=nat_nz t6|skip
  clear hcl hc
  go_enter Tryz.func178,Tryz.ntmps178
  go_upto_region 25 with (fail)
  simp only[List.append_eq,List.cons_append,List.nil_append]
  go_wp2_with (first|(go_at_call 200;with_reducible refine(hasT_any name _ okn).mono ?_;rintro x w10 ⟨A0,n0,c0,rfl,hl0,hb0⟩;replace hX:=grow hX hb0;obtain⟨x1,x2,x3,x4,x5,x6,x7,xl⟩:=Hx.out _ hX)|(go_at_call 135;with_reducible refine(HF0.out _ _ _ _ hl0).mono ?_;rintro x w20 ⟨rfl,hc0⟩;replace hX:=grow hX hc0;obtain⟨x1,x2,x3,x4,x5,x6,x7,xl⟩:=Hx.out _ hX)|(go_at_call 134;with_reducible refine(HW4.out _).mono ?_;rintro x w' ⟨rfl,rfl⟩)|(go_at_call 200;with_reducible refine(hasF_any src _).mono ?_;rintro x w' ⟨rfl,rfl⟩)|(go_at_call 135;with_reducible refine(freeN_any _).mono ?_;rintro x w6 ⟨rfl,hb6⟩;replace hX:=grow hX hb6;obtain⟨x1,x2,x3,x4,x5,x6,x7,xl⟩:=Hx.out _ hX))
  go_ret
  exact⟨rfl,hbase.trans (hX.mono (by simp))⟩
theorem shapeK_2 (F:Nat→Prop) (name src:ByteArray) (n:Int) (Ac Ae Ab Al:Option Addr) (nc cc ne ce nb cb nl cl:Nat) (cols:List ByteArray) (w:World) (hc:LsAt F w 1 SRow Ac nc cc cols) (okn:okS name) :
  Calls Tryz.prog 178 #[.agg #[.int .i64 2,.string name,.string src,.int .i64 n,.slice Ac nc cc,.slice Ae ne ce,.slice Ab nb cb,.slice Al nl cl]] w fun x w'=>x=.returned (.bool (shapeR 2 name src n cols ne nb nl))∧Below w.heap.size w w':=by
 have hcl:=hc.len
 obtain⟨hbase,hX,Hx⟩:=shStart 2 name src n Ac Ae Ab Al nc cc ne ce nb cb nl cl w
 have HF0:=Lhd (fun (W:World) A m c (h:LsAt (fun _=>True) W 1 SRow A m c [name])=>free_any _ A m c _ W h)
 rw[freesB_one] at HF0
 have HW4:=Lhd (fun W=>within_any ne 1 1 W)
 generalize hfin:shapeR 2 name src n cols ne nb nl=fin
 cases t0:freeB name
 rotate_left
 cases t1:noS src
 rotate_left
 cases t2:decide (nc=0)
 rotate_left
 cases t3:decide (n=0)
 rotate_left
 cases t4:(decide (1≤(ne:Int))&&decide ((ne:Int)≤1))
 rotate_left
 cases t5:decide (nb=0)
 rotate_left
 cases t6:decide (nl=0)
 rotate_left
 all_goals
  simp[shapeR,shapeP, *] at hfin
  subst hfin
  try (rw[t0] at HF0;clear t0)
  first|replace t1:=str_empty t1|replace t1:=str_some t1|skip
  first|(obtain rfl:=of_decide_eq_true t2;clear t2)|replace t2:=nat_nz t2|skip
  first|(obtain rfl:=of_decide_eq_true t3;clear t3)|replace t3:=int_nz t3|skip
  try (rw[t4] at HW4;clear t4)
  first|(obtain rfl:=of_decide_eq_true t5;clear t5)|replace t5:=nat_nz t5|skip
  first|(obtain rfl:=of_decide_eq_true t6;clear t6)|replace t6:=nat_nz t6|skip
  clear hcl hc
  go_enter Tryz.func178,Tryz.ntmps178
  go_upto_region 25 with (fail)
  simp only[List.append_eq,List.cons_append,List.nil_append]
  go_wp2_with (first|(go_at_call 200;with_reducible refine(hasT_any name _ okn).mono ?_;rintro x w10 ⟨A0,n0,c0,rfl,hl0,hb0⟩;replace hX:=grow hX hb0;obtain⟨x1,x2,x3,x4,x5,x6,x7,xl⟩:=Hx.out _ hX)|(go_at_call 135;with_reducible refine(HF0.out _ _ _ _ hl0).mono ?_;rintro x w20 ⟨rfl,hc0⟩;replace hX:=grow hX hc0;obtain⟨x1,x2,x3,x4,x5,x6,x7,xl⟩:=Hx.out _ hX)|(go_at_call 134;with_reducible refine(HW4.out _).mono ?_;rintro x w' ⟨rfl,rfl⟩)|(go_at_call 200;with_reducible refine(hasF_any src _).mono ?_;rintro x w' ⟨rfl,rfl⟩)|(go_at_call 135;with_reducible refine(freeN_any _).mono ?_;rintro x w6 ⟨rfl,hb6⟩;replace hX:=grow hX hb6;obtain⟨x1,x2,x3,x4,x5,x6,x7,xl⟩:=Hx.out _ hX))
  go_ret
  exact⟨rfl,hbase.trans (hX.mono (by simp))⟩
theorem shapeK_5 (F:Nat→Prop) (name src:ByteArray) (n:Int) (Ac Ae Ab Al:Option Addr) (nc cc ne ce nb cb nl cl:Nat) (cols:List ByteArray) (w:World) (hc:LsAt F w 1 SRow Ac nc cc cols) (okn:okS name) (oks:okS src) :
  Calls Tryz.prog 178 #[.agg #[.int .i64 5,.string name,.string src,.int .i64 n,.slice Ac nc cc,.slice Ae ne ce,.slice Ab nb cb,.slice Al nl cl]] w fun x w'=>x=.returned (.bool (shapeR 5 name src n cols ne nb nl))∧Below w.heap.size w w':=by
 have hcl:=hc.len
 obtain⟨hbase,hX,Hx⟩:=shStart 5 name src n Ac Ae Ab Al nc cc ne ce nb cb nl cl w
 have HF0:=Lhd (fun (W:World) A m c (h:LsAt (fun _=>True) W 1 SRow A m c [name])=>free_any _ A m c _ W h)
 rw[freesB_one] at HF0
 have HF1:=Lhd (fun (W:World) A m c (h:LsAt (fun _=>True) W 1 SRow A m c [src])=>free_any _ A m c _ W h)
 rw[freesB_one] at HF1
 have HW4:=Lhd (fun W=>within_any ne 1 1 W)
 generalize hfin:shapeR 5 name src n cols ne nb nl=fin
 cases t0:freeB name
 rotate_left
 cases t1:freeB src
 rotate_left
 cases t2:decide (nc=0)
 rotate_left
 cases t3:decide (n=0)
 rotate_left
 cases t4:(decide (1≤(ne:Int))&&decide ((ne:Int)≤1))
 rotate_left
 cases t5:decide (nb=0)
 rotate_left
 cases t6:decide (nl=0)
 rotate_left
 all_goals
  simp[shapeR,shapeP, *] at hfin
  subst hfin
  try (rw[t0] at HF0;clear t0)
  try (rw[t1] at HF1;clear t1)
  first|(obtain rfl:=of_decide_eq_true t2;clear t2)|replace t2:=nat_nz t2|skip
  first|(obtain rfl:=of_decide_eq_true t3;clear t3)|replace t3:=int_nz t3|skip
  try (rw[t4] at HW4;clear t4)
  first|(obtain rfl:=of_decide_eq_true t5;clear t5)|replace t5:=nat_nz t5|skip
  first|(obtain rfl:=of_decide_eq_true t6;clear t6)|replace t6:=nat_nz t6|skip
  clear hcl hc
  go_enter Tryz.func178,Tryz.ntmps178
  go_upto_region 25 with (fail)
  simp only[List.append_eq,List.cons_append,List.nil_append]
  go_wp2_with (first|(go_at_call 200;with_reducible refine(hasT_any name _ okn).mono ?_;rintro x w10 ⟨A0,n0,c0,rfl,hl0,hb0⟩;replace hX:=grow hX hb0;obtain⟨x1,x2,x3,x4,x5,x6,x7,xl⟩:=Hx.out _ hX)|(go_at_call 135;with_reducible refine(HF0.out _ _ _ _ hl0).mono ?_;rintro x w20 ⟨rfl,hc0⟩;replace hX:=grow hX hc0;obtain⟨x1,x2,x3,x4,x5,x6,x7,xl⟩:=Hx.out _ hX)|(go_at_call 200;with_reducible refine(hasT_any src _ oks).mono ?_;rintro x w11 ⟨A1,n1,c1,rfl,hl1,hb1⟩;replace hX:=grow hX hb1;obtain⟨x1,x2,x3,x4,x5,x6,x7,xl⟩:=Hx.out _ hX)|(go_at_call 135;with_reducible refine(HF1.out _ _ _ _ hl1).mono ?_;rintro x w21 ⟨rfl,hc1⟩;replace hX:=grow hX hc1;obtain⟨x1,x2,x3,x4,x5,x6,x7,xl⟩:=Hx.out _ hX)|(go_at_call 134;with_reducible refine(HW4.out _).mono ?_;rintro x w' ⟨rfl,rfl⟩))
  go_ret
  exact⟨rfl,hbase.trans (hX.mono (by simp))⟩
theorem shapeK_3 (F:Nat→Prop) (name src:ByteArray) (n:Int) (Ac Ae Ab Al:Option Addr) (nc cc ne ce nb cb nl cl:Nat) (cols:List ByteArray) (w:World) (hc:LsAt F w 1 SRow Ac nc cc cols) (oks:okS src) :
  Calls Tryz.prog 178 #[.agg #[.int .i64 3,.string name,.string src,.int .i64 n,.slice Ac nc cc,.slice Ae ne ce,.slice Ab nb cb,.slice Al nl cl]] w fun x w'=>x=.returned (.bool (shapeR 3 name src n cols ne nb nl))∧Below w.heap.size w w':=by
 have hcl:=hc.len
 obtain⟨hbase,hX,Hx⟩:=shStart 3 name src n Ac Ae Ab Al nc cc ne ce nb cb nl cl w
 have HF0:=Lhd (fun (W:World) A m c (h:LsAt (fun _=>True) W 1 SRow A m c [src])=>free_any _ A m c _ W h)
 rw[freesB_one] at HF0
 have HW4:=Lhd (fun W=>within_any ne 1 8 W)
 generalize hfin:shapeR 3 name src n cols ne nb nl=fin
 cases t0:freeB src
 rotate_left
 cases t1:noS name
 rotate_left
 cases t2:decide (nc=0)
 rotate_left
 cases t3:decide (n=0)
 rotate_left
 cases t4:(decide (1≤(ne:Int))&&decide ((ne:Int)≤8))
 rotate_left
 cases t5:decide (nb=0)
 rotate_left
 cases t6:decide (nl=0)
 rotate_left
 all_goals
  simp[shapeR,shapeP, *] at hfin
  subst hfin
  try (rw[t0] at HF0;clear t0)
  first|replace t1:=str_empty t1|replace t1:=str_some t1|skip
  first|(obtain rfl:=of_decide_eq_true t2;clear t2)|replace t2:=nat_nz t2|skip
  first|(obtain rfl:=of_decide_eq_true t3;clear t3)|replace t3:=int_nz t3|skip
  try (rw[t4] at HW4;clear t4)
  first|(obtain rfl:=of_decide_eq_true t5;clear t5)|replace t5:=nat_nz t5|skip
  first|(obtain rfl:=of_decide_eq_true t6;clear t6)|replace t6:=nat_nz t6|skip
  clear hcl hc
  go_enter Tryz.func178,Tryz.ntmps178
  go_upto_region 25 with (fail)
  simp only[List.append_eq,List.cons_append,List.nil_append]
  go_wp2_with (first|(go_at_call 200;with_reducible refine(hasT_any src _ oks).mono ?_;rintro x w10 ⟨A0,n0,c0,rfl,hl0,hb0⟩;replace hX:=grow hX hb0;obtain⟨x1,x2,x3,x4,x5,x6,x7,xl⟩:=Hx.out _ hX)|(go_at_call 135;with_reducible refine(HF0.out _ _ _ _ hl0).mono ?_;rintro x w20 ⟨rfl,hc0⟩;replace hX:=grow hX hc0;obtain⟨x1,x2,x3,x4,x5,x6,x7,xl⟩:=Hx.out _ hX)|(go_at_call 134;with_reducible refine(HW4.out _).mono ?_;rintro x w' ⟨rfl,rfl⟩)|(go_at_call 200;with_reducible refine(hasF_any name _).mono ?_;rintro x w' ⟨rfl,rfl⟩)|(go_at_call 135;with_reducible refine(freeN_any _).mono ?_;rintro x w6 ⟨rfl,hb6⟩;replace hX:=grow hX hb6;obtain⟨x1,x2,x3,x4,x5,x6,x7,xl⟩:=Hx.out _ hX))
  go_ret
  exact⟨rfl,hbase.trans (hX.mono (by simp))⟩
theorem shapeK_8 (F:Nat→Prop) (name src:ByteArray) (n:Int) (Ac Ae Ab Al:Option Addr) (nc cc ne ce nb cb nl cl:Nat) (cols:List ByteArray) (w:World) (hc:LsAt F w 1 SRow Ac nc cc cols) (oks:okS src) :
  Calls Tryz.prog 178 #[.agg #[.int .i64 8,.string name,.string src,.int .i64 n,.slice Ac nc cc,.slice Ae ne ce,.slice Ab nb cb,.slice Al nl cl]] w fun x w'=>x=.returned (.bool (shapeR 8 name src n cols ne nb nl))∧Below w.heap.size w w':=by
 have hcl:=hc.len
 obtain⟨hbase,hX,Hx⟩:=shStart 8 name src n Ac Ae Ab Al nc cc ne ce nb cb nl cl w
 have HF0:=Lhd (fun (W:World) A m c (h:LsAt (fun _=>True) W 1 SRow A m c [src])=>free_any _ A m c _ W h)
 rw[freesB_one] at HF0
 have HW4:=Lhd (fun W=>within_any ne 1 8 W)
 generalize hfin:shapeR 8 name src n cols ne nb nl=fin
 cases t0:freeB src
 rotate_left
 cases t1:noS name
 rotate_left
 cases t2:decide (nc=0)
 rotate_left
 cases t3:decide (n=0)
 rotate_left
 cases t4:(decide (1≤(ne:Int))&&decide ((ne:Int)≤8))
 rotate_left
 cases t5:decide (nb=0)
 rotate_left
 cases t6:decide (nl=0)
 rotate_left
 all_goals
  simp[shapeR,shapeP, *] at hfin
  subst hfin
  try (rw[t0] at HF0;clear t0)
  first|replace t1:=str_empty t1|replace t1:=str_some t1|skip
  first|(obtain rfl:=of_decide_eq_true t2;clear t2)|replace t2:=nat_nz t2|skip
  first|(obtain rfl:=of_decide_eq_true t3;clear t3)|replace t3:=int_nz t3|skip
  try (rw[t4] at HW4;clear t4)
  first|(obtain rfl:=of_decide_eq_true t5;clear t5)|replace t5:=nat_nz t5|skip
  first|(obtain rfl:=of_decide_eq_true t6;clear t6)|replace t6:=nat_nz t6|skip
  clear hcl hc
  go_enter Tryz.func178,Tryz.ntmps178
  go_upto_region 25 with (fail)
  simp only[List.append_eq,List.cons_append,List.nil_append]
  go_wp2_with (first|(go_at_call 200;with_reducible refine(hasT_any src _ oks).mono ?_;rintro x w10 ⟨A0,n0,c0,rfl,hl0,hb0⟩;replace hX:=grow hX hb0;obtain⟨x1,x2,x3,x4,x5,x6,x7,xl⟩:=Hx.out _ hX)|(go_at_call 135;with_reducible refine(HF0.out _ _ _ _ hl0).mono ?_;rintro x w20 ⟨rfl,hc0⟩;replace hX:=grow hX hc0;obtain⟨x1,x2,x3,x4,x5,x6,x7,xl⟩:=Hx.out _ hX)|(go_at_call 134;with_reducible refine(HW4.out _).mono ?_;rintro x w' ⟨rfl,rfl⟩)|(go_at_call 200;with_reducible refine(hasF_any name _).mono ?_;rintro x w' ⟨rfl,rfl⟩)|(go_at_call 135;with_reducible refine(freeN_any _).mono ?_;rintro x w6 ⟨rfl,hb6⟩;replace hX:=grow hX hb6;obtain⟨x1,x2,x3,x4,x5,x6,x7,xl⟩:=Hx.out _ hX))
  go_ret
  exact⟨rfl,hbase.trans (hX.mono (by simp))⟩
theorem shapeK_7 (F:Nat→Prop) (name src:ByteArray) (n:Int) (Ac Ae Ab Al:Option Addr) (nc cc ne ce nb cb nl cl:Nat) (cols:List ByteArray) (w:World) (hc:LsAt F w 1 SRow Ac nc cc cols) :
  Calls Tryz.prog 178 #[.agg #[.int .i64 7,.string name,.string src,.int .i64 n,.slice Ac nc cc,.slice Ae ne ce,.slice Ab nb cb,.slice Al nl cl]] w fun x w'=>x=.returned (.bool (shapeR 7 name src n cols ne nb nl))∧Below w.heap.size w w':=by
 have hcl:=hc.len
 obtain⟨hbase,hX,Hx⟩:=shStart 7 name src n Ac Ae Ab Al nc cc ne ce nb cb nl cl w
 have HW4:=Lhd (fun W=>within_any ne 1 1 W)
 generalize hfin:shapeR 7 name src n cols ne nb nl=fin
 cases t0:noS name
 rotate_left
 cases t1:noS src
 rotate_left
 cases t2:decide (nc=0)
 rotate_left
 cases t3:decide (n=0)
 rotate_left
 cases t4:(decide (1≤(ne:Int))&&decide ((ne:Int)≤1))
 rotate_left
 all_goals
  simp[shapeR,shapeP, *] at hfin
  subst hfin
  first|replace t0:=str_empty t0|replace t0:=str_some t0|skip
  first|replace t1:=str_empty t1|replace t1:=str_some t1|skip
  first|(obtain rfl:=of_decide_eq_true t2;clear t2)|replace t2:=nat_nz t2|skip
  first|(obtain rfl:=of_decide_eq_true t3;clear t3)|replace t3:=int_nz t3|skip
  try (rw[t4] at HW4;clear t4)
  clear hcl hc
  go_enter Tryz.func178,Tryz.ntmps178
  go_upto_region 25 with (fail)
  simp only[List.append_eq,List.cons_append,List.nil_append]
  go_wp2_with (first|(go_at_call 134;with_reducible refine(HW4.out _).mono ?_;rintro x w' ⟨rfl,rfl⟩)|(go_at_call 200;with_reducible refine(hasF_any name _).mono ?_;rintro x w' ⟨rfl,rfl⟩)|(go_at_call 200;with_reducible refine(hasF_any src _).mono ?_;rintro x w' ⟨rfl,rfl⟩)|(go_at_call 135;with_reducible refine(freeN_any _).mono ?_;rintro x w6 ⟨rfl,hb6⟩;replace hX:=grow hX hb6;obtain⟨x1,x2,x3,x4,x5,x6,x7,xl⟩:=Hx.out _ hX))
  go_ret
  exact⟨rfl,hbase.trans (hX.mono (by simp))⟩
theorem shapeK_4 (F:Nat→Prop) (name src:ByteArray) (n:Int) (Ac Ae Ab Al:Option Addr) (nc cc ne ce nb cb nl cl:Nat) (cols:List ByteArray) (w:World) (hc:LsAt F w 1 SRow Ac nc cc cols) (okn:okS name) (oks:okS src) :
  Calls Tryz.prog 178 #[.agg #[.int .i64 4,.string name,.string src,.int .i64 n,.slice Ac nc cc,.slice Ae ne ce,.slice Ab nb cb,.slice Al nl cl]] w fun x w'=>x=.returned (.bool (shapeR 4 name src n cols ne nb nl))∧Below w.heap.size w w':=by
 have hcl:=hc.len
 have hcc:(decide (1≤nc)&&decide (nc≤8))=(decide ((1:Int)≤(nc:Int))&&decide ((nc:Int)≤8)):=by rw[Bool.eq_iff_iff];simp;omega
 obtain⟨hbase,hX0,Hx⟩:=shStart4 4 name src n Ac Ae Ab Al nc cc ne ce nb cb nl cl w
 have HF0:=Lhd (fun (W:World) A m c (h:LsAt (fun _=>True) W 1 SRow A m c [name])=>free_any _ A m c _ W h)
 rw[freesB_one] at HF0
 have HF1:=Lhd (fun (W:World) A m c (h:LsAt (fun _=>True) W 1 SRow A m c [src])=>free_any _ A m c _ W h)
 rw[freesB_one] at HF1
 have HW2:=Lhd (fun W=>within_any nc 1 8 W)
 have HF3:=Lhd (fun (W:World) (hW:Below w.heap.size w W)=>free_any F Ac nc cc cols W (hc.below hW))
 have HF4:=Lhd (fun (h8:nc≤1000000) (W:World) (hW:Below w.heap.size w W)=>unlike_any F Ac nc cc cols W (hc.below hW) h8)
 have HW6:=Lhd (fun W=>within_any ne ((nc:Int)+1) ((nc:Int)+1) W)
 generalize hfin:shapeR 4 name src n cols ne nb nl=fin
 cases t0:freeB name
 rotate_left
 cases t1:freeB src
 rotate_left
 (cases t2:(decide ((1:Int)≤(nc:Int))&&decide ((nc:Int)≤8))<;>rw[t2] at hcc)
 rotate_left
 have h8:nc≤1000000:=by simp at t2;omega
 cases t3:freesB cols
 rotate_left
 cases t4:decide cols.Nodup
 rotate_left
 cases t5:decide (n=0)
 rotate_left
 cases t6:(decide (((nc:Int)+1)≤(ne:Int))&&decide ((ne:Int)≤((nc:Int)+1)))
 rotate_left
 cases t7:decide (nb=0)
 rotate_left
 cases t8:decide (nl=0)
 rotate_left
 all_goals
  simp[shapeR,shapeP, *] at hfin
  subst hfin
  try (rw[t0] at HF0;clear t0)
  try (rw[t1] at HF1;clear t1)
  try (rw[t2] at HW2;clear t2)
  try (rw[t3] at HF3;clear t3)
  try (rw[t4] at HF4;clear t4)
  first|(obtain rfl:=of_decide_eq_true t5;clear t5)|replace t5:=int_nz t5|skip
  try (rw[t6] at HW6;clear t6)
  first|(obtain rfl:=of_decide_eq_true t7;clear t7)|replace t7:=nat_nz t7|skip
  first|(obtain rfl:=of_decide_eq_true t8;clear t8)|replace t8:=nat_nz t8|skip
  clear hcc
  clear hcl hc
  go_enter Tryz.func178,Tryz.ntmps178
  go_upto_region 14 with (fail)
  go_quiet (fail)
  go_upto_region 25 with (fail)
  simp only[List.append_eq,List.cons_append,List.nil_append]
  go_wp2_with (first|(go_at_call 200;with_reducible refine(hasT_any name _ okn).mono ?_;rintro x w10 ⟨A0,n0,c0,rfl,hl0,hb0⟩;have hX:=grow (hX0 _) hb0;obtain⟨x1,x2,x3,x4,x5,x6,x7,xl⟩:=Hx.out _ hX)|(go_at_call 135;with_reducible refine(HF0.out _ _ _ _ hl0).mono ?_;rintro x w20 ⟨rfl,hc0⟩;replace hX:=grow hX hc0;obtain⟨x1,x2,x3,x4,x5,x6,x7,xl⟩:=Hx.out _ hX)|(go_at_call 200;with_reducible refine(hasT_any src _ oks).mono ?_;rintro x w11 ⟨A1,n1,c1,rfl,hl1,hb1⟩;replace hX:=grow hX hb1;obtain⟨x1,x2,x3,x4,x5,x6,x7,xl⟩:=Hx.out _ hX)|(go_at_call 135;with_reducible refine(HF1.out _ _ _ _ hl1).mono ?_;rintro x w21 ⟨rfl,hc1⟩;replace hX:=grow hX hc1;obtain⟨x1,x2,x3,x4,x5,x6,x7,xl⟩:=Hx.out _ hX)|(go_at_call 134;with_reducible refine(HW2.out _).mono ?_;rintro x w' ⟨rfl,rfl⟩)|(go_at_call 135;with_reducible refine(HF3.out _ (hbase.trans (hX.mono (by simp)))).mono ?_;rintro x w13 ⟨rfl,hb3⟩;replace hX:=grow hX hb3;obtain⟨x1,x2,x3,x4,x5,x6,x7,xl⟩:=Hx.out _ hX)|(go_at_call 136;with_reducible refine(HF4.out h8 _ (hbase.trans (hX.mono (by simp)))).mono ?_;rintro x w14 ⟨rfl,hb4⟩;replace hX:=grow hX hb4;obtain⟨x1,x2,x3,x4,x5,x6,x7,xl⟩:=Hx.out _ hX)|(go_at_call 134;with_reducible refine(HW6.out _).mono ?_;rintro x w' ⟨rfl,rfl⟩))
  go_ret
  exact⟨rfl,hbase.trans (hX.mono (by simp))⟩
theorem shapeK_6 (F:Nat→Prop) (name src:ByteArray) (n:Int) (Ac Ae Ab Al:Option Addr) (nc cc ne ce nb cb nl cl:Nat) (cols:List ByteArray) (w:World) (hc:LsAt F w 1 SRow Ac nc cc cols) (okn:okS name) (oks:okS src) :
  Calls Tryz.prog 178 #[.agg #[.int .i64 6,.string name,.string src,.int .i64 n,.slice Ac nc cc,.slice Ae ne ce,.slice Ab nb cb,.slice Al nl cl]] w fun x w'=>x=.returned (.bool (shapeR 6 name src n cols ne nb nl))∧Below w.heap.size w w':=by
 have hcl:=hc.len
 obtain⟨hbase,hX,Hx⟩:=shStart 6 name src n Ac Ae Ab Al nc cc ne ce nb cb nl cl w
 have HF0:=Lhd (fun (W:World) A m c (h:LsAt (fun _=>True) W 1 SRow A m c [name])=>free_any _ A m c _ W h)
 rw[freesB_one] at HF0
 have HF1:=Lhd (fun (W:World) A m c (h:LsAt (fun _=>True) W 1 SRow A m c [src])=>free_any _ A m c _ W h)
 rw[freesB_one] at HF1
 have HW3:=Lhd (fun W=>within_any n 0 1000 W)
 have HW4:=Lhd (fun W=>within_any ne 1 1 W)
 generalize hfin:shapeR 6 name src n cols ne nb nl=fin
 cases t0:freeB name
 rotate_left
 cases t1:freeB src
 rotate_left
 cases t2:decide (nc=0)
 rotate_left
 cases t3:(decide (0≤n)&&decide (n≤1000))
 rotate_left
 cases t4:(decide (1≤(ne:Int))&&decide ((ne:Int)≤1))
 rotate_left
 cases t5:decide (nl=0)
 rotate_left
 all_goals
  simp[shapeR,shapeP, *] at hfin
  subst hfin
  try (rw[t0] at HF0;clear t0)
  try (rw[t1] at HF1;clear t1)
  first|(obtain rfl:=of_decide_eq_true t2;clear t2)|replace t2:=nat_nz t2|skip
  try (rw[t3] at HW3;clear t3)
  try (rw[t4] at HW4;clear t4)
  first|(obtain rfl:=of_decide_eq_true t5;clear t5)|replace t5:=nat_nz t5|skip
  clear hcl hc
  go_enter Tryz.func178,Tryz.ntmps178
  go_upto_region 25 with (fail)
  simp only[List.append_eq,List.cons_append,List.nil_append]
  go_wp2_with (first|(go_at_call 200;with_reducible refine(hasT_any name _ okn).mono ?_;rintro x w10 ⟨A0,n0,c0,rfl,hl0,hb0⟩;replace hX:=grow hX hb0;obtain⟨x1,x2,x3,x4,x5,x6,x7,xl⟩:=Hx.out _ hX)|(go_at_call 135;with_reducible refine(HF0.out _ _ _ _ hl0).mono ?_;rintro x w20 ⟨rfl,hc0⟩;replace hX:=grow hX hc0;obtain⟨x1,x2,x3,x4,x5,x6,x7,xl⟩:=Hx.out _ hX)|(go_at_call 200;with_reducible refine(hasT_any src _ oks).mono ?_;rintro x w11 ⟨A1,n1,c1,rfl,hl1,hb1⟩;replace hX:=grow hX hb1;obtain⟨x1,x2,x3,x4,x5,x6,x7,xl⟩:=Hx.out _ hX)|(go_at_call 135;with_reducible refine(HF1.out _ _ _ _ hl1).mono ?_;rintro x w21 ⟨rfl,hc1⟩;replace hX:=grow hX hc1;obtain⟨x1,x2,x3,x4,x5,x6,x7,xl⟩:=Hx.out _ hX)|(go_at_call 134;with_reducible refine(HW3.out _).mono ?_;rintro x w' ⟨rfl,rfl⟩)|(go_at_call 134;with_reducible refine(HW4.out _).mono ?_;rintro x w' ⟨rfl,rfl⟩))
  go_ret
  exact⟨rfl,hbase.trans (hX.mono (by simp))⟩
theorem shapeK_9 (F:Nat→Prop) (name src:ByteArray) (n:Int) (Ac Ae Ab Al:Option Addr) (nc cc ne ce nb cb nl cl:Nat) (cols:List ByteArray) (w:World) (hc:LsAt F w 1 SRow Ac nc cc cols) :
  Calls Tryz.prog 178 #[.agg #[.int .i64 9,.string name,.string src,.int .i64 n,.slice Ac nc cc,.slice Ae ne ce,.slice Ab nb cb,.slice Al nl cl]] w fun x w'=>x=.returned (.bool (shapeR 9 name src n cols ne nb nl))∧Below w.heap.size w w':=by
 have hcl:=hc.len
 obtain⟨hbase,hX,Hx⟩:=shStart 9 name src n Ac Ae Ab Al nc cc ne ce nb cb nl cl w
 have HW4:=Lhd (fun W=>within_any ne 1 1 W)
 generalize hfin:shapeR 9 name src n cols ne nb nl=fin
 cases t0:noS name
 rotate_left
 cases t1:noS src
 rotate_left
 cases t2:decide (nc=0)
 rotate_left
 cases t3:decide (n=0)
 rotate_left
 cases t4:(decide (1≤(ne:Int))&&decide ((ne:Int)≤1))
 rotate_left
 cases t5:decide (nb=0)
 rotate_left
 cases t6:decide (nl=0)
 rotate_left
 all_goals
  simp[shapeR,shapeP, *] at hfin
  subst hfin
  first|replace t0:=str_empty t0|replace t0:=str_some t0|skip
  first|replace t1:=str_empty t1|replace t1:=str_some t1|skip
  first|(obtain rfl:=of_decide_eq_true t2;clear t2)|replace t2:=nat_nz t2|skip
  first|(obtain rfl:=of_decide_eq_true t3;clear t3)|replace t3:=int_nz t3|skip
  try (rw[t4] at HW4;clear t4)
  first|(obtain rfl:=of_decide_eq_true t5;clear t5)|replace t5:=nat_nz t5|skip
  first|(obtain rfl:=of_decide_eq_true t6;clear t6)|replace t6:=nat_nz t6|skip
  clear hcl hc
  go_enter Tryz.func178,Tryz.ntmps178
  go_upto_region 25 with (fail)
  simp only[List.append_eq,List.cons_append,List.nil_append]
  go_wp2_with (first|(go_at_call 134;with_reducible refine(HW4.out _).mono ?_;rintro x w' ⟨rfl,rfl⟩)|(go_at_call 200;with_reducible refine(hasF_any name _).mono ?_;rintro x w' ⟨rfl,rfl⟩)|(go_at_call 200;with_reducible refine(hasF_any src _).mono ?_;rintro x w' ⟨rfl,rfl⟩)|(go_at_call 135;with_reducible refine(freeN_any _).mono ?_;rintro x w6 ⟨rfl,hb6⟩;replace hX:=grow hX hb6;obtain⟨x1,x2,x3,x4,x5,x6,x7,xl⟩:=Hx.out _ hX))
  go_ret
  exact⟨rfl,hbase.trans (hX.mono (by simp))⟩
theorem shapeK_10 (F:Nat→Prop) (name src:ByteArray) (n:Int) (Ac Ae Ab Al:Option Addr) (nc cc ne ce nb cb nl cl:Nat) (cols:List ByteArray) (w:World) (hc:LsAt F w 1 SRow Ac nc cc cols) :
  Calls Tryz.prog 178 #[.agg #[.int .i64 10,.string name,.string src,.int .i64 n,.slice Ac nc cc,.slice Ae ne ce,.slice Ab nb cb,.slice Al nl cl]] w fun x w'=>x=.returned (.bool (shapeR 10 name src n cols ne nb nl))∧Below w.heap.size w w':=by
 have hcl:=hc.len
 obtain⟨hbase,hX,Hx⟩:=shStart 10 name src n Ac Ae Ab Al nc cc ne ce nb cb nl cl w
 have HW4:=Lhd (fun W=>within_any ne 1 8 W)
 generalize hfin:shapeR 10 name src n cols ne nb nl=fin
 cases t0:noS name
 rotate_left
 cases t1:noS src
 rotate_left
 cases t2:decide (nc=0)
 rotate_left
 cases t3:decide (n=0)
 rotate_left
 cases t4:(decide (1≤(ne:Int))&&decide ((ne:Int)≤8))
 rotate_left
 cases t5:decide (nb=0)
 rotate_left
 cases t6:decide (nl=0)
 rotate_left
 all_goals
  simp[shapeR,shapeP, *] at hfin
  subst hfin
  first|replace t0:=str_empty t0|replace t0:=str_some t0|skip
  first|replace t1:=str_empty t1|replace t1:=str_some t1|skip
  first|(obtain rfl:=of_decide_eq_true t2;clear t2)|replace t2:=nat_nz t2|skip
  first|(obtain rfl:=of_decide_eq_true t3;clear t3)|replace t3:=int_nz t3|skip
  try (rw[t4] at HW4;clear t4)
  first|(obtain rfl:=of_decide_eq_true t5;clear t5)|replace t5:=nat_nz t5|skip
  first|(obtain rfl:=of_decide_eq_true t6;clear t6)|replace t6:=nat_nz t6|skip
  clear hcl hc
  go_enter Tryz.func178,Tryz.ntmps178
  go_upto_region 25 with (fail)
  simp only[List.append_eq,List.cons_append,List.nil_append]
  go_wp2_with (first|(go_at_call 134;with_reducible refine(HW4.out _).mono ?_;rintro x w' ⟨rfl,rfl⟩)|(go_at_call 200;with_reducible refine(hasF_any name _).mono ?_;rintro x w' ⟨rfl,rfl⟩)|(go_at_call 200;with_reducible refine(hasF_any src _).mono ?_;rintro x w' ⟨rfl,rfl⟩)|(go_at_call 135;with_reducible refine(freeN_any _).mono ?_;rintro x w6 ⟨rfl,hb6⟩;replace hX:=grow hX hb6;obtain⟨x1,x2,x3,x4,x5,x6,x7,xl⟩:=Hx.out _ hX))
  go_ret
  exact⟨rfl,hbase.trans (hX.mono (by simp))⟩
theorem shape_any (F:Nat→Prop) (name src:ByteArray) (n:Int) (Ac Ae Ab Al:Option Addr) (nc cc ne ce nb cb nl cl:Nat) (cols:List ByteArray) (w:World) (op:Int) (hc:LsAt F w 1 SRow Ac nc cc cols) (okn:okS name) (oks:okS src) :
  Calls Tryz.prog 178 #[.agg #[.int .i64 op,.string name,.string src,.int .i64 n,.slice Ac nc cc,.slice Ae ne ce,.slice Ab nb cb,.slice Al nl cl]] w fun x w'=>x=.returned (.bool (shapeR op name src n cols ne nb nl))∧Below w.heap.size w w':=by
 by_cases e1:op=1
 ·subst e1;exact shapeK_1 F name src n Ac Ae Ab Al nc cc ne ce nb cb nl cl cols w hc okn
 by_cases e2:op=2
 ·subst e2;exact shapeK_2 F name src n Ac Ae Ab Al nc cc ne ce nb cb nl cl cols w hc okn
 by_cases e3:op=3
 ·subst e3;exact shapeK_3 F name src n Ac Ae Ab Al nc cc ne ce nb cb nl cl cols w hc oks
 by_cases e4:op=4
 ·subst e4;exact shapeK_4 F name src n Ac Ae Ab Al nc cc ne ce nb cb nl cl cols w hc okn oks
 by_cases e5:op=5
 ·subst e5;exact shapeK_5 F name src n Ac Ae Ab Al nc cc ne ce nb cb nl cl cols w hc okn oks
 by_cases e6:op=6
 ·subst e6;exact shapeK_6 F name src n Ac Ae Ab Al nc cc ne ce nb cb nl cl cols w hc okn oks
 by_cases e7:op=7
 ·subst e7;exact shapeK_7 F name src n Ac Ae Ab Al nc cc ne ce nb cb nl cl cols w hc
 by_cases e8:op=8
 ·subst e8;exact shapeK_8 F name src n Ac Ae Ab Al nc cc ne ce nb cb nl cl cols w hc oks
 by_cases e9:op=9
 ·subst e9;exact shapeK_9 F name src n Ac Ae Ab Al nc cc ne ce nb cb nl cl cols w hc
 by_cases e10:op=10
 ·subst e10;exact shapeK_10 F name src n Ac Ae Ab Al nc cc ne ce nb cb nl cl cols w hc
 have hr:shapeR op name src n cols ne nb nl=false:=by
  unfold shapeR
  repeat (rw[if_neg (by omega)])
 have Hr:=Lhd hr
 clear hr hc
 have d1:(op==1)=false:=by simpa using e1
 have d2:(op==2)=false:=by simpa using e2
 have d3:(op==3)=false:=by simpa using e3
 have d4:(op==4)=false:=by simpa using e4
 have d5:(op==5)=false:=by simpa using e5
 have d6:(op==6)=false:=by simpa using e6
 have d7:(op==7)=false:=by simpa using e7
 have d8:(op==8)=false:=by simpa using e8
 have d9:(op==9)=false:=by simpa using e9
 have d10:(op==10)=false:=by simpa using e10
 go_enter Tryz.func178,Tryz.ntmps178
 go_wp2
 go_ret
 exact⟨ret_bool Hr.out.symm,(Below.refl _ _).alloc (Nat.le_refl _) _⟩
end Go.Proofs.YtgbgiknfejpcoaaGreat

/- Parts of this proof, one behind the other: SynJ3, SynJ4, SynK, SynL. -/
import Derived.Test.YtmfcmpnlipnopaaGreatTw21
import Derived.Deep.Cut
set_option maxRecDepth 1000000
set_option maxHeartbeats 40000000
namespace Go.Proofs.YtmfcmpnlipnopaaGreat
open Go.RowKit Go.Afx
theorem shapeK_4 (F:Nat→Prop) (name src:ByteArray) (n:Int) (Ac Ae Ab Al:Option Addr) (nc cc ne ce nb cb nl cl:Nat) (cols:List ByteArray) (w:World) (hc:LsAt F w 1 SRow Ac nc cc cols) (okn:okS name) (oks:okS src) :
  Calls Tryz.prog 116 #[.agg #[.int .i64 4,.string name,.string src,.int .i64 n,.slice Ac nc cc,.slice Ae ne ce,.slice Ab nb cb,.slice Al nl cl]] w fun x w'=>x=.returned (.bool (shapeR 4 name src n cols ne nb nl))∧Below w.heap.size w w':=by
 have hcl:=hc.len
 have hcc:(decide (1≤nc)&&decide (nc≤8))=(decide ((1:Int)≤(nc:Int))&&decide ((nc:Int)≤8)):=by rw[Bool.eq_iff_iff];simp;omega
 obtain⟨hbase,hX0,Hx⟩:=shStart4 4 name src n Ac Ae Ab Al nc cc ne ce nb cb nl cl w
 have HF0:=Lhd (fun (W:World) A m c (h:LsAt (fun _=>True) W 1 SRow A m c [name])=>free_any _ A m c _ W h)
 rw[freesB_one] at HF0
 have HF1:=Lhd (fun (W:World) A m c (h:LsAt (fun _=>True) W 1 SRow A m c [src])=>free_any _ A m c _ W h)
 rw[freesB_one] at HF1
 have HW2:=Lhd (fun W=>within_any nc 1 8 W)
 have HF3:=Lhd (fun (W:World) (hW:Below w.heap.size w W)=>free_any F Ac nc cc cols W (hc.below hW))
 have HF4:=Lhd (fun (h8:nc≤1000000) (W:World) (hW:Below w.heap.size w W)=>unlike_any F Ac nc cc cols W (hc.below hW) h8)
 have HW6:=Lhd (fun W=>within_any ne ((nc:Int)+1) ((nc:Int)+1) W)
 generalize hfin:shapeR 4 name src n cols ne nb nl=fin
 cases t0:freeB name
 rotate_left
 cases t1:freeB src
 rotate_left
 (cases t2:(decide ((1:Int)≤(nc:Int))&&decide ((nc:Int)≤8))<;>rw[t2] at hcc)
 rotate_left
 have h8:nc≤1000000:=by simp at t2;omega
 cases t3:freesB cols
 rotate_left
 cases t4:decide cols.Nodup
 rotate_left
 cases t5:decide (n=0)
 rotate_left
 cases t6:(decide (((nc:Int)+1)≤(ne:Int))&&decide ((ne:Int)≤((nc:Int)+1)))
 rotate_left
 cases t7:decide (nb=0)
 rotate_left
 cases t8:decide (nl=0)
 rotate_left
 all_goals
  simp[shapeR,shapeP, *] at hfin
  subst hfin
  try (rw[t0] at HF0;clear t0)
  try (rw[t1] at HF1;clear t1)
  try (rw[t2] at HW2;clear t2)
  try (rw[t3] at HF3;clear t3)
  try (rw[t4] at HF4;clear t4)
  first|(obtain rfl:=of_decide_eq_true t5;clear t5)|replace t5:=int_nz t5|skip
  try (rw[t6] at HW6;clear t6)
  first|(obtain rfl:=of_decide_eq_true t7;clear t7)|replace t7:=nat_nz t7|skip
  first|(obtain rfl:=of_decide_eq_true t8;clear t8)|replace t8:=nat_nz t8|skip
  clear hcc
  clear hcl hc
  go_enter Tryz.func116,Tryz.ntmps116
  go_upto_region 14 with (fail)
  go_quiet (fail)
  go_upto_region 25 with (fail)
  simp only[List.append_eq,List.cons_append,List.nil_append]
  go_wp2_with (first|(go_at_call 135;with_reducible refine(hasT_any name _ okn).mono ?_;rintro x w10 ⟨A0,n0,c0,rfl,hl0,hb0⟩;have hX:=grow (hX0 _) hb0;obtain⟨x1,x2,x3,x4,x5,x6,x7,xl⟩:=Hx.out _ hX)|(go_at_call 85;with_reducible refine(HF0.out _ _ _ _ hl0).mono ?_;rintro x w20 ⟨rfl,hc0⟩;replace hX:=grow hX hc0;obtain⟨x1,x2,x3,x4,x5,x6,x7,xl⟩:=Hx.out _ hX)|(go_at_call 135;with_reducible refine(hasT_any src _ oks).mono ?_;rintro x w11 ⟨A1,n1,c1,rfl,hl1,hb1⟩;replace hX:=grow hX hb1;obtain⟨x1,x2,x3,x4,x5,x6,x7,xl⟩:=Hx.out _ hX)|(go_at_call 85;with_reducible refine(HF1.out _ _ _ _ hl1).mono ?_;rintro x w21 ⟨rfl,hc1⟩;replace hX:=grow hX hc1;obtain⟨x1,x2,x3,x4,x5,x6,x7,xl⟩:=Hx.out _ hX)|(go_at_call 84;with_reducible refine(HW2.out _).mono ?_;rintro x w' ⟨rfl,rfl⟩)|(go_at_call 85;with_reducible refine(HF3.out _ (hbase.trans (hX.mono (by simp)))).mono ?_;rintro x w13 ⟨rfl,hb3⟩;replace hX:=grow hX hb3;obtain⟨x1,x2,x3,x4,x5,x6,x7,xl⟩:=Hx.out _ hX)|(go_at_call 86;with_reducible refine(HF4.out h8 _ (hbase.trans (hX.mono (by simp)))).mono ?_;rintro x w14 ⟨rfl,hb4⟩;replace hX:=grow hX hb4;obtain⟨x1,x2,x3,x4,x5,x6,x7,xl⟩:=Hx.out _ hX)|(go_at_call 84;with_reducible refine(HW6.out _).mono ?_;rintro x w' ⟨rfl,rfl⟩))
  go_ret
  exact⟨rfl,hbase.trans (hX.mono (by simp))⟩
theorem shapeK_6 (F:Nat→Prop) (name src:ByteArray) (n:Int) (Ac Ae Ab Al:Option Addr) (nc cc ne ce nb cb nl cl:Nat) (cols:List ByteArray) (w:World) (hc:LsAt F w 1 SRow Ac nc cc cols) (okn:okS name) (oks:okS src) :
  Calls Tryz.prog 116 #[.agg #[.int .i64 6,.string name,.string src,.int .i64 n,.slice Ac nc cc,.slice Ae ne ce,.slice Ab nb cb,.slice Al nl cl]] w fun x w'=>x=.returned (.bool (shapeR 6 name src n cols ne nb nl))∧Below w.heap.size w w':=by
 have hcl:=hc.len
 obtain⟨hbase,hX,Hx⟩:=shStart 6 name src n Ac Ae Ab Al nc cc ne ce nb cb nl cl w
 have HF0:=Lhd (fun (W:World) A m c (h:LsAt (fun _=>True) W 1 SRow A m c [name])=>free_any _ A m c _ W h)
 rw[freesB_one] at HF0
 have HF1:=Lhd (fun (W:World) A m c (h:LsAt (fun _=>True) W 1 SRow A m c [src])=>free_any _ A m c _ W h)
 rw[freesB_one] at HF1
 have HW3:=Lhd (fun W=>within_any n 0 1000 W)
 have HW4:=Lhd (fun W=>within_any ne 1 1 W)
 generalize hfin:shapeR 6 name src n cols ne nb nl=fin
 cases t0:freeB name
 rotate_left
 cases t1:freeB src
 rotate_left
 cases t2:decide (nc=0)
 rotate_left
 cases t3:(decide (0≤n)&&decide (n≤1000))
 rotate_left
 cases t4:(decide (1≤(ne:Int))&&decide ((ne:Int)≤1))
 rotate_left
 cases t5:decide (nl=0)
 rotate_left
 all_goals
  simp[shapeR,shapeP, *] at hfin
  subst hfin
  try (rw[t0] at HF0;clear t0)
  try (rw[t1] at HF1;clear t1)
  first|(obtain rfl:=of_decide_eq_true t2;clear t2)|replace t2:=nat_nz t2|skip
  try (rw[t3] at HW3;clear t3)
  try (rw[t4] at HW4;clear t4)
  first|(obtain rfl:=of_decide_eq_true t5;clear t5)|replace t5:=nat_nz t5|skip
  clear hcl hc
  go_enter Tryz.func116,Tryz.ntmps116
  go_upto_region 25 with (fail)
  simp only[List.append_eq,List.cons_append,List.nil_append]
  go_wp2_with (first|(go_at_call 135;with_reducible refine(hasT_any name _ okn).mono ?_;rintro x w10 ⟨A0,n0,c0,rfl,hl0,hb0⟩;replace hX:=grow hX hb0;obtain⟨x1,x2,x3,x4,x5,x6,x7,xl⟩:=Hx.out _ hX)|(go_at_call 85;with_reducible refine(HF0.out _ _ _ _ hl0).mono ?_;rintro x w20 ⟨rfl,hc0⟩;replace hX:=grow hX hc0;obtain⟨x1,x2,x3,x4,x5,x6,x7,xl⟩:=Hx.out _ hX)|(go_at_call 135;with_reducible refine(hasT_any src _ oks).mono ?_;rintro x w11 ⟨A1,n1,c1,rfl,hl1,hb1⟩;replace hX:=grow hX hb1;obtain⟨x1,x2,x3,x4,x5,x6,x7,xl⟩:=Hx.out _ hX)|(go_at_call 85;with_reducible refine(HF1.out _ _ _ _ hl1).mono ?_;rintro x w21 ⟨rfl,hc1⟩;replace hX:=grow hX hc1;obtain⟨x1,x2,x3,x4,x5,x6,x7,xl⟩:=Hx.out _ hX)|(go_at_call 84;with_reducible refine(HW3.out _).mono ?_;rintro x w' ⟨rfl,rfl⟩)|(go_at_call 84;with_reducible refine(HW4.out _).mono ?_;rintro x w' ⟨rfl,rfl⟩))
  go_ret
  exact⟨rfl,hbase.trans (hX.mono (by simp))⟩
theorem shapeK_9 (F:Nat→Prop) (name src:ByteArray) (n:Int) (Ac Ae Ab Al:Option Addr) (nc cc ne ce nb cb nl cl:Nat) (cols:List ByteArray) (w:World) (hc:LsAt F w 1 SRow Ac nc cc cols) :
  Calls Tryz.prog 116 #[.agg #[.int .i64 9,.string name,.string src,.int .i64 n,.slice Ac nc cc,.slice Ae ne ce,.slice Ab nb cb,.slice Al nl cl]] w fun x w'=>x=.returned (.bool (shapeR 9 name src n cols ne nb nl))∧Below w.heap.size w w':=by
 have hcl:=hc.len
 obtain⟨hbase,hX,Hx⟩:=shStart 9 name src n Ac Ae Ab Al nc cc ne ce nb cb nl cl w
 have HW4:=Lhd (fun W=>within_any ne 1 1 W)
 generalize hfin:shapeR 9 name src n cols ne nb nl=fin
 cases t0:noS name
 rotate_left
 cases t1:noS src
 rotate_left
 cases t2:decide (nc=0)
 rotate_left
 cases t3:decide (n=0)
 rotate_left
 cases t4:(decide (1≤(ne:Int))&&decide ((ne:Int)≤1))
 rotate_left
 cases t5:decide (nb=0)
 rotate_left
 cases t6:decide (nl=0)
 rotate_left
 all_goals
  simp[shapeR,shapeP, *] at hfin
  subst hfin
  first|replace t0:=str_empty t0|replace t0:=str_some t0|skip
  first|replace t1:=str_empty t1|replace t1:=str_some t1|skip
  first|(obtain rfl:=of_decide_eq_true t2;clear t2)|replace t2:=nat_nz t2|skip
  first|(obtain rfl:=of_decide_eq_true t3;clear t3)|replace t3:=int_nz t3|skip
  try (rw[t4] at HW4;clear t4)
  first|(obtain rfl:=of_decide_eq_true t5;clear t5)|replace t5:=nat_nz t5|skip
  first|(obtain rfl:=of_decide_eq_true t6;clear t6)|replace t6:=nat_nz t6|skip
  clear hcl hc
  go_enter Tryz.func116,Tryz.ntmps116
  go_upto_region 25 with (fail)
  simp only[List.append_eq,List.cons_append,List.nil_append]
  go_wp2_with (first|(go_at_call 84;with_reducible refine(HW4.out _).mono ?_;rintro x w' ⟨rfl,rfl⟩)|(go_at_call 135;with_reducible refine(hasF_any name _).mono ?_;rintro x w' ⟨rfl,rfl⟩)|(go_at_call 135;with_reducible refine(hasF_any src _).mono ?_;rintro x w' ⟨rfl,rfl⟩)|(go_at_call 85;with_reducible refine(freeN_any _).mono ?_;rintro x w6 ⟨rfl,hb6⟩;replace hX:=grow hX hb6;obtain⟨x1,x2,x3,x4,x5,x6,x7,xl⟩:=Hx.out _ hX))
  go_ret
  exact⟨rfl,hbase.trans (hX.mono (by simp))⟩
theorem shapeK_10 (F:Nat→Prop) (name src:ByteArray) (n:Int) (Ac Ae Ab Al:Option Addr) (nc cc ne ce nb cb nl cl:Nat) (cols:List ByteArray) (w:World) (hc:LsAt F w 1 SRow Ac nc cc cols) :
  Calls Tryz.prog 116 #[.agg #[.int .i64 10,.string name,.string src,.int .i64 n,.slice Ac nc cc,.slice Ae ne ce,.slice Ab nb cb,.slice Al nl cl]] w fun x w'=>x=.returned (.bool (shapeR 10 name src n cols ne nb nl))∧Below w.heap.size w w':=by
 have hcl:=hc.len
 obtain⟨hbase,hX,Hx⟩:=shStart 10 name src n Ac Ae Ab Al nc cc ne ce nb cb nl cl w
 have HW4:=Lhd (fun W=>within_any ne 1 8 W)
 generalize hfin:shapeR 10 name src n cols ne nb nl=fin
 cases t0:noS name
 rotate_left
 cases t1:noS src
 rotate_left
 cases t2:decide (nc=0)
 rotate_left
 cases t3:decide (n=0)
 rotate_left
 cases t4:(decide (1≤(ne:Int))&&decide ((ne:Int)≤8))
 rotate_left
 cases t5:decide (nb=0)
 rotate_left
 cases t6:decide (nl=0)
 rotate_left
 all_goals
  simp[shapeR,shapeP, *] at hfin
  subst hfin
  first|replace t0:=str_empty t0|replace t0:=str_some t0|skip
  first|replace t1:=str_empty t1|replace t1:=str_some t1|skip
  first|(obtain rfl:=of_decide_eq_true t2;clear t2)|replace t2:=nat_nz t2|skip
  first|(obtain rfl:=of_decide_eq_true t3;clear t3)|replace t3:=int_nz t3|skip
  try (rw[t4] at HW4;clear t4)
  first|(obtain rfl:=of_decide_eq_true t5;clear t5)|replace t5:=nat_nz t5|skip
  first|(obtain rfl:=of_decide_eq_true t6;clear t6)|replace t6:=nat_nz t6|skip
  clear hcl hc
  go_enter Tryz.func116,Tryz.ntmps116
  go_upto_region 25 with (fail)
  simp only[List.append_eq,List.cons_append,List.nil_append]
  go_wp2_with (first|(go_at_call 84;with_reducible refine(HW4.out _).mono ?_;rintro x w' ⟨rfl,rfl⟩)|(go_at_call 135;with_reducible refine(hasF_any name _).mono ?_;rintro x w' ⟨rfl,rfl⟩)|(go_at_call 135;with_reducible refine(hasF_any src _).mono ?_;rintro x w' ⟨rfl,rfl⟩)|(go_at_call 85;with_reducible refine(freeN_any _).mono ?_;rintro x w6 ⟨rfl,hb6⟩;replace hX:=grow hX hb6;obtain⟨x1,x2,x3,x4,x5,x6,x7,xl⟩:=Hx.out _ hX))
  go_ret
  exact⟨rfl,hbase.trans (hX.mono (by simp))⟩
theorem shape_any (F:Nat→Prop) (name src:ByteArray) (n:Int) (Ac Ae Ab Al:Option Addr) (nc cc ne ce nb cb nl cl:Nat) (cols:List ByteArray) (w:World) (op:Int) (hc:LsAt F w 1 SRow Ac nc cc cols) (okn:okS name) (oks:okS src) :
  Calls Tryz.prog 116 #[.agg #[.int .i64 op,.string name,.string src,.int .i64 n,.slice Ac nc cc,.slice Ae ne ce,.slice Ab nb cb,.slice Al nl cl]] w fun x w'=>x=.returned (.bool (shapeR op name src n cols ne nb nl))∧Below w.heap.size w w':=by
 by_cases e1:op=1
 ·subst e1;exact shapeK_1 F name src n Ac Ae Ab Al nc cc ne ce nb cb nl cl cols w hc okn
 by_cases e2:op=2
 ·subst e2;exact shapeK_2 F name src n Ac Ae Ab Al nc cc ne ce nb cb nl cl cols w hc okn
 by_cases e3:op=3
 ·subst e3;exact shapeK_3 F name src n Ac Ae Ab Al nc cc ne ce nb cb nl cl cols w hc oks
 by_cases e4:op=4
 ·subst e4;exact shapeK_4 F name src n Ac Ae Ab Al nc cc ne ce nb cb nl cl cols w hc okn oks
 by_cases e5:op=5
 ·subst e5;exact shapeK_5 F name src n Ac Ae Ab Al nc cc ne ce nb cb nl cl cols w hc okn oks
 by_cases e6:op=6
 ·subst e6;exact shapeK_6 F name src n Ac Ae Ab Al nc cc ne ce nb cb nl cl cols w hc okn oks
 by_cases e7:op=7
 ·subst e7;exact shapeK_7 F name src n Ac Ae Ab Al nc cc ne ce nb cb nl cl cols w hc
 by_cases e8:op=8
 ·subst e8;exact shapeK_8 F name src n Ac Ae Ab Al nc cc ne ce nb cb nl cl cols w hc oks
 by_cases e9:op=9
 ·subst e9;exact shapeK_9 F name src n Ac Ae Ab Al nc cc ne ce nb cb nl cl cols w hc
 by_cases e10:op=10
 ·subst e10;exact shapeK_10 F name src n Ac Ae Ab Al nc cc ne ce nb cb nl cl cols w hc
 have hr:shapeR op name src n cols ne nb nl=false:=by
  unfold shapeR
  repeat (rw[if_neg (by omega)])
 have Hr:=Lhd hr
 clear hr hc
 have d1:(op==1)=false:=by simpa using e1
 have d2:(op==2)=false:=by simpa using e2
 have d3:(op==3)=false:=by simpa using e3
 have d4:(op==4)=false:=by simpa using e4
 have d5:(op==5)=false:=by simpa using e5
 have d6:(op==6)=false:=by simpa using e6
 have d7:(op==7)=false:=by simpa using e7
 have d8:(op==8)=false:=by simpa using e8
 have d9:(op==9)=false:=by simpa using e9
 have d10:(op==10)=false:=by simpa using e10
 go_enter Tryz.func116,Tryz.ntmps116
 go_wp2
 go_ret
 exact⟨ret_bool Hr.out.symm,(Below.refl _ _).alloc (Nat.le_refl _) _⟩
theorem builtC2_any (F:Nat→Prop) (d:Nat) (ih:BuiltsE F d) (e:Ex) (row:List Value) (w:World) (h:ExAt F d w row e) :
  Calls Tryz.prog 118 #[.agg row.toArray] w fun x w'=>x=.returned (.bool (!builtE d e))∧Below w.heap.size w w':=by
 cases d with
 | zero=>exact h.elim
 | succ d =>
  have h':=h
  obtain⟨A,m,c,rfl,hl⟩:=h.open_.2.2.2.2.2
  have hb1:Below w.heap.size w (w.alloc (.cells #[.int .i64 e.op,.int .i64 e.n,.string e.s,.string e.name,.string e.src,.slice A m c] 89)):=(Below.refl _ _).alloc (Nat.le_refl _) _
  have Hc:=Lhd (ih e _ _ (h'.below hb1))
  generalize builtE (d+1) e=r at *
  go_enter Tryz.func118,Tryz.ntmps118
  go_wp2_with (go_at_call 119;refine Hc.out.mono ?_;rintro x w1 ⟨rfl,hb⟩)
  go_ret
  exact⟨ret_bool (by simp),hb1.trans (hb.mono hb1.size)⟩
theorem indexBuilt2_any (F:Nat→Prop) (d:Nat) (ih:BuiltsE F d) (A:Option Addr) (n c:Nat) (es:List Ex) (w:World) (h:ExsAt F d w A n c es) :
  Calls Tryz.prog 136 #[.slice A n c,.func (.func 118) #[] #[]] w fun x w'=>x=.returned (.int .i64 (posB (fun e=>!builtE d e) es))∧Below w.heap.size w w':=by
 have hn:=LsAt.n_le h
 have Hl:=Lhd (LsAt.len h)
 go_enter Tryz.func136,Tryz.ntmps136
 go_wp2
 go_loopw [8] (fun i wr=>∃ k:Nat,k≤n∧i=.int .i64 k∧(∀ y∈es.take k,(!builtE d y)=false)∧Below w.heap.size w wr) (fun i _=>n-(intOf i).toNat)
 case atStart=>exact⟨0,Nat.zero_le _,rfl,by simp,Below.refl _ _⟩
 case round =>
  obtain⟨k,hk,rfl,hall,hb⟩:=hrel
  have Hall:=Lhd hall;clear hall
  by_cases hlt:k<n
  ·cases d with
   | zero =>
    obtain⟨b,o,r,e,hA,hbl,_,he,hl,hp,hc⟩:=LsAt.get (h.below hb) hlt
    exact hp.elim
   | succ d =>
    obtain⟨b,o,e,A2,m2,c2,rfl,hbl,hx,hc0,hc1,hc2,hc3,hc4,hc5,hp,_⟩:=ExsAt.get (h.below hb) hlt
    have hc:=builtC2_any F (d+1) ih e _ wr hp
    obtain⟨q,hq⟩:∃ q,(!builtE (d+1) e)=q:=⟨_,rfl⟩
    rw[hq] at hc
    have Hc:=Lhd hc
    have Hq:=Lhd hq
    have Hx:=Lhd hx
    clear hc hq hx
    cases q
    ·have Hnx:=Lhd (mem_take_succ Hx.out Hall.out Hq.out)
     go_wp2_with (go_at_call 118;refine Hc.out.mono ?_;rintro y w1 ⟨rfl,hb1⟩)
     go_roundw
     case rel=>exact⟨k+1,by omega,by go_num,Hnx.out,hb.trans (hb1.mono hb.size)⟩
     case measure=>simp[intOf];omega
    ·have Hf:=Lhd (posB_yes (p:=fun e=>!builtE (d+1) e) Hx.out Hq.out Hall.out)
     go_wp2_with (go_at_call 118;refine Hc.out.mono ?_;rintro y w1 ⟨rfl,hb1⟩)
     go_ret
     exact⟨by rw[Hf.out];rfl,hb.trans (hb1.mono hb.size)⟩
  ·go_wp2
   go_ret
   have h1:=Hall.out
   rw[List.take_of_length_le (by rw[Hl.out];omega)] at h1
   exact⟨by rw[posB_no h1];rfl,hb⟩
theorem containsBuilt2_any (F:Nat→Prop) (d:Nat) (ih:BuiltsE F d) (A:Option Addr) (n c:Nat) (es:List Ex) (w:World) (h:ExsAt F d w A n c es) :
  Calls Tryz.prog 117 #[.slice A n c,.func (.func 118) #[] #[]] w fun x w'=>x=.returned (.bool (!es.all (builtE d)))∧Below w.heap.size w w':=by
 have hi:=indexBuilt2_any F d ih A n c es w h
 have hp:=posB_any (fun e=>!builtE d e) es
 have hq:(es.any fun e=>!builtE d e) = !es.all (builtE d):=by
  induction es with
  | nil=>rfl
  | cons a r _=>simp[List.any_eq_not_all_not]
 rw[hq] at hp
 generalize es.all (builtE d)=r at *
 generalize posB (fun e=>!builtE d e) es=i at *
 have Hp:=Lhd hp
 have Hi:=Lhd hi
 clear hp hi hq
 go_enter Tryz.func117,Tryz.ntmps117
 go_wp2_with (go_at_call 136;refine Hi.out.mono ?_;rintro x w' ⟨rfl,hb⟩)
 go_ret
 exact⟨ret_bool Hp.out,hb⟩
def BuiltsS (F:Nat→Prop) (d:Nat):Prop:=∀ (e:St) (row:List Value) (w:World),StAt F d w row e →
 Calls Tryz.prog 90 #[.agg row.toArray] w fun x w'=>x=.returned (.bool (builtS d e))∧Below w.heap.size w w'
theorem blocksC_any (F:Nat→Prop) (d:Nat) (ih:BuiltsS F d) (e:St) (row:List Value) (w:World) (h:StAt F d w row e) :
  Calls Tryz.prog 89 #[.agg row.toArray] w fun x w'=>x=.returned (.bool (!builtS d e))∧Below w.heap.size w w':=by
 cases d with
 | zero=>exact h.elim
 | succ d =>
  have h':=h
  obtain⟨Ac,nc,cc,Ae,ne,ce,Ab,nb,cb,Al,nl,cl,rfl,_⟩:=h.open_.2.2.2.2
  have hb1:Below w.heap.size w (w.alloc (.cells #[.int .i64 e.op,.string e.name,.string e.src,.int .i64 e.n,.slice Ac nc cc,.slice Ae ne ce,.slice Ab nb cb,.slice Al nl cl] 65)):=(Below.refl _ _).alloc (Nat.le_refl _) _
  have Hc:=Lhd (ih e _ _ (h'.below hb1))
  generalize builtS (d+1) e=r at *
  go_enter Tryz.func89,Tryz.ntmps89
  go_wp2_with (go_at_call 90;refine Hc.out.mono ?_;rintro x w1 ⟨rfl,hb⟩)
  go_ret
  exact⟨ret_bool (by simp),hb1.trans (hb.mono hb1.size)⟩
theorem indexBlocks_any (F:Nat→Prop) (d:Nat) (ih:BuiltsS F d) (A:Option Addr) (n c:Nat) (es:List St) (w:World) (h:StsAt F d w A n c es) :
  Calls Tryz.prog 115 #[.slice A n c,.func (.func 89) #[] #[]] w fun x w'=>x=.returned (.int .i64 (posB (fun e=>!builtS d e) es))∧Below w.heap.size w w':=by
 have hn:=LsAt.n_le h
 have Hl:=Lhd (LsAt.len h)
 go_enter Tryz.func115,Tryz.ntmps115
 go_wp2
 go_loopw [8] (fun i wr=>∃ k:Nat,k≤n∧i=.int .i64 k∧(∀ y∈es.take k,(!builtS d y)=false)∧Below w.heap.size w wr) (fun i _=>n-(intOf i).toNat)
 case atStart=>exact⟨0,Nat.zero_le _,rfl,by simp,Below.refl _ _⟩
 case round =>
  obtain⟨k,hk,rfl,hall,hb⟩:=hrel
  have Hall:=Lhd hall;clear hall
  by_cases hlt:k<n
  ·cases d with
   | zero =>
    obtain⟨b,o,r,e,hA,hbl,_,he,hl,hp,hc⟩:=LsAt.get (h.below hb) hlt
    exact hp.elim
   | succ d =>
    obtain⟨b,o,e,Ac,nc,cc,Ae,ne,ce,Ab,nb,cb,Al,nl,cl,rfl,hbl,hx,hc0,hc1,hc2,hc3,hc4,hc5,hc6,hc7,hp,_⟩:=StsAt.get (h.below hb) hlt
    have hc:=blocksC_any F (d+1) ih e _ wr hp
    obtain⟨q,hq⟩:∃ q,(!builtS (d+1) e)=q:=⟨_,rfl⟩
    rw[hq] at hc
    have Hc:=Lhd hc
    have Hq:=Lhd hq
    have Hx:=Lhd hx
    clear hc hq hx
    cases q
    ·have Hnx:=Lhd (mem_take_succ Hx.out Hall.out Hq.out)
     go_wp2_with (go_at_call 89;refine Hc.out.mono ?_;rintro y w1 ⟨rfl,hb1⟩)
     go_roundw
     case rel=>exact⟨k+1,by omega,by go_num,Hnx.out,hb.trans (hb1.mono hb.size)⟩
     case measure=>simp[intOf];omega
    ·have Hf:=Lhd (posB_yes (p:=fun e=>!builtS (d+1) e) Hx.out Hq.out Hall.out)
     go_wp2_with (go_at_call 89;refine Hc.out.mono ?_;rintro y w1 ⟨rfl,hb1⟩)
     go_ret
     exact⟨by rw[Hf.out];rfl,hb.trans (hb1.mono hb.size)⟩
  ·go_wp2
   go_ret
   have h1:=Hall.out
   rw[List.take_of_length_le (by rw[Hl.out];omega)] at h1
   exact⟨by rw[posB_no h1];rfl,hb⟩
theorem containsBlocks_any (F:Nat→Prop) (d:Nat) (ih:BuiltsS F d) (A:Option Addr) (n c:Nat) (es:List St) (w:World) (h:StsAt F d w A n c es) :
  Calls Tryz.prog 88 #[.slice A n c,.func (.func 89) #[] #[]] w fun x w'=>x=.returned (.bool (!es.all (builtS d)))∧Below w.heap.size w w':=by
 have hi:=indexBlocks_any F d ih A n c es w h
 have hp:=posB_any (fun e=>!builtS d e) es
 have hq:(es.any fun e=>!builtS d e) = !es.all (builtS d):=by
  induction es with
  | nil=>rfl
  | cons a r _=>simp[List.any_eq_not_all_not]
 rw[hq] at hp
 generalize es.all (builtS d)=r at *
 generalize posB (fun e=>!builtS d e) es=i at *
 have Hp:=Lhd hp
 have Hi:=Lhd hi
 clear hp hi hq
 go_enter Tryz.func88,Tryz.ntmps88
 go_wp2_with (go_at_call 115;refine Hi.out.mono ?_;rintro x w' ⟨rfl,hb⟩)
 go_ret
 exact⟨ret_bool Hp.out,hb⟩
theorem blocks_of (F:Nat→Prop) (d:Nat) (ih:BuiltsS F d) (A:Option Addr) (n c:Nat) (es:List St) (w:World) (h:StsAt F d w A n c es) :
  Calls Tryz.prog 57 #[.slice A n c] w fun x w'=>x=.returned (.bool (es.all (builtS d)))∧Below w.heap.size w w':=by
 have Hc:=Lhd (containsBlocks_any F d ih A n c es w h)
 generalize es.all (builtS d)=r at *
 go_enter Tryz.func57,Tryz.ntmps57
 go_wp2_with (go_at_call 88;refine Hc.out.mono ?_;rintro x w1 ⟨rfl,hb⟩)
 go_ret
 exact⟨ret_bool (by simp),hb⟩
theorem builtS_any (F:Nat→Prop) (d:Nat):BuiltsS F d:=by
 induction d with
 | zero=>intro e row w h;exact h.elim
 | succ d ih =>
  intro e row w h
  obtain⟨ho,hn,hnm,hsr,Ac,nc,cc,Ae,ne,ce,Ab,nb,cb,Al,nl,cl,rfl,hcl,hel,hbl,hll⟩:=h.open_
  have hx1:IsBlk (w.alloc (.cells #[.int .i64 e.op,.string e.name,.string e.src,.int .i64 e.n,.slice Ac nc cc,.slice Ae ne ce,.slice Ab nb cb,.slice Al nl cl] 65)) w.heap.size 65 #[.int .i64 e.op,.string e.name,.string e.src,.int .i64 e.n,.slice Ac nc cc,.slice Ae ne ce,.slice Ab nb cb,.slice Al nl cl]:=IsBlk.laid _ _ _
  have hX:Below (w.heap.size+1) (w.alloc (.cells #[.int .i64 e.op,.string e.name,.string e.src,.int .i64 e.n,.slice Ac nc cc,.slice Ae ne ce,.slice Ab nb cb,.slice Al nl cl] 65)) (w.alloc (.cells #[.int .i64 e.op,.string e.name,.string e.src,.int .i64 e.n,.slice Ac nc cc,.slice Ae ne ce,.slice Ab nb cb,.slice Al nl cl] 65)):=Below.refl _ _
  have hb1:Below w.heap.size w (w.alloc (.cells #[.int .i64 e.op,.string e.name,.string e.src,.int .i64 e.n,.slice Ac nc cc,.slice Ae ne ce,.slice Ab nb cb,.slice Al nl cl] 65)):=(Below.refl _ _).alloc (Nat.le_refl _) _
  have Hx:=Lhd (fun W (hW:Below (w.heap.size+1) (w.alloc (.cells #[.int .i64 e.op,.string e.name,.string e.src,.int .i64 e.n,.slice Ac nc cc,.slice Ae ne ce,.slice Ab nb cb,.slice Al nl cl] 65)) W)=>stBox (hx1.as_was (hW.block _ (Nat.lt_succ_self _))))
  have HB:=Lhd (fun W (hW:Below (w.heap.size+1) (w.alloc (.cells #[.int .i64 e.op,.string e.name,.string e.src,.int .i64 e.n,.slice Ac nc cc,.slice Ae ne ce,.slice Ab nb cb,.slice Al nl cl] 65)) W)=>hb1.trans (hW.mono (by simp)))
  have Hs:=Lhd (fun W (hW:Below w.heap.size w W)=>shape_any F e.name e.src e.n Ac Ae Ab Al nc cc ne ce nb cb nl cl e.cols W e.op (hcl.below hW) hnm hsr)
  have He:=Lhd (fun W (hW:Below w.heap.size w W)=>containsBuilt2_any F d (builtE_any F d) Ae ne ce e.exprs W (hel.below hW))
  have Hb:=Lhd (fun W (hW:Below w.heap.size w W)=>blocks_of F d ih Ab nb cb e.body W (hbl.below hW))
  have Hl:=Lhd (fun W (hW:Below w.heap.size w W)=>blocks_of F d ih Al nl cl e.els W (hll.below hW))
  have hfin:builtS (d+1) e=(shapeR e.op e.name e.src e.n e.cols ne nb nl&&e.exprs.all (builtE d)&&e.body.all (builtS d)&&e.els.all (builtS d)):=by
   rw[builtS,shapeB,LsAt.len hel,LsAt.len hbl,LsAt.len hll]
  generalize shapeR e.op e.name e.src e.n e.cols ne nb nl=qs at *
  generalize e.exprs.all (builtE d)=qe at *
  generalize e.body.all (builtS d)=qb at *
  generalize e.els.all (builtS d)=ql at *
  generalize builtS (d+1) e=fin at *
  have Hfin:=Lhd hfin
  clear hfin hx1 hcl hel hbl hll ih
  cases qs<;>cases qe<;>cases qb
  all_goals
   go_enter Tryz.func90,Tryz.ntmps90
   go_wp2_with (first|(go_at_call 116;refine(Hs.out _ (HB.out _ hX)).mono ?_;rintro x w2 ⟨rfl,hb2⟩;replace hX:=hX.trans (hb2.mono (by first|(simp;done)|(have:=hX.size;simp at this;omega)));obtain⟨x1,x2,x3,x4,x5,x6,x7,xl⟩:=Hx.out _ hX)|(go_at_call 117;refine(He.out _ (HB.out _ hX)).mono ?_;rintro x w3 ⟨rfl,hb3⟩;replace hX:=hX.trans (hb3.mono (by first|(simp;done)|(have:=hX.size;simp at this;omega)));obtain⟨x1,x2,x3,x4,x5,x6,x7,xl⟩:=Hx.out _ hX)|(go_at_call 57;with_reducible refine(Hb.out _ (HB.out _ hX)).mono ?_;rintro x w4 ⟨rfl,hb4⟩;replace hX:=hX.trans (hb4.mono (by first|(simp;done)|(have:=hX.size;simp at this;omega)));obtain⟨x1,x2,x3,x4,x5,x6,x7,xl⟩:=Hx.out _ hX)|(go_at_call 57;with_reducible refine(Hl.out _ (HB.out _ hX)).mono ?_;rintro x w5 ⟨rfl,hb5⟩;replace hX:=hX.trans (hb5.mono (by first|(simp;done)|(have:=hX.size;simp at this;omega)));obtain⟨x1,x2,x3,x4,x5,x6,x7,xl⟩:=Hx.out _ hX))
   go_ret
   exact⟨ret_bool (by rw[Hfin.out];simp),HB.out _ hX⟩
theorem blocks_any (F:Nat→Prop) (d:Nat) (A:Option Addr) (n c:Nat) (es:List St) (w:World) (h:StsAt F d w A n c es) :
  Calls Tryz.prog 57 #[.slice A n c] w fun x w'=>x=.returned (.bool (es.all (builtS d)))∧Below w.heap.size w w':=blocks_of F d (builtS_any F d) A n c es w h
end Go.Proofs.YtmfcmpnlipnopaaGreat

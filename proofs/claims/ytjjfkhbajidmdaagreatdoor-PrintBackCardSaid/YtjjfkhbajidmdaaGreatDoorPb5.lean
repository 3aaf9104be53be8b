/- Parts of this proof, one behind the other: SynJ1, SynJ2, SynJ3, SynJ4, SynK. -/
import Derived.Test.YtjjfkhbajidmdaaGreatDoorPb4
import Derived.Deep.Cut
set_option maxRecDepth 1000000
set_option maxHeartbeats 40000000
namespace Go.Proofs.YtjjfkhbajidmdaaGreatDoor
open Go.RowKit Go.Afx
theorem acN (F:Nat→Prop) (name src:ByteArray) (n:Int) (Ac Ae Ab Al:Option Addr) (nc cc ne ce nb cb nl cl:Nat) (cols:List ByteArray) (w:World) (hc:ai F w 1 dL Ac nc cc cols) (uU:okS name) :
  Calls Tryz.prog 109 #[.agg #[.int .i64 1,.string name,.string src,.int .i64 n,.slice Ac nc cc,.slice Ae ne ce,.slice Ab nb cb,.slice Al nl cl]] w fun x w'=>x=.returned (.bool (dm 1 name src n cols ne nb nl))∧Below w.heap.size w w':=by
 have hcl:=hc.len
 obtain⟨hbase,hX,Hx⟩:=nD 1 name src n Ac Ae Ab Al nc cc ne ce nb cb nl cl w
 have Df:=ae (fun (W:World) A m c (h:ai (fun _=>True) W 1 dL A m c [name])=>fJ _ A m c _ W h)
 rw[gZ] at Df
 have Gh:=ae (fun W=>fC ne 1 1 W)
 generalize hfin:dm 1 name src n cols ne nb nl=fin
 cases t0:aJ name
 rotate_left
 cases t1:noS src
 rotate_left
 cases t2:decide (nc=0)
 rotate_left
 cases t3:decide (n=0)
 rotate_left
 cases t4:(decide (1≤(ne:Int))&&decide ((ne:Int)≤1))
 rotate_left
 cases t5:decide (nb=0)
 rotate_left
 cases t6:decide (nl=0)
 rotate_left
 all_goals
  simp[dm,fF, *] at hfin
  subst hfin
  try (rw[t0] at Df;clear t0)
  first|replace t1:=dA t1|replace t1:=str_some t1|skip
  first|(obtain rfl:=of_decide_eq_true t2;clear t2)|replace t2:=fQ t2|skip
  first|(obtain rfl:=of_decide_eq_true t3;clear t3)|replace t3:=vK t3|skip
  try (rw[t4] at Gh;clear t4)
  first|(obtain rfl:=of_decide_eq_true t5;clear t5)|replace t5:=fQ t5|skip
  first|(obtain rfl:=of_decide_eq_true t6;clear t6)|replace t6:=fQ t6|skip
  clear hcl hc
  go_enter Tryz.func109,Tryz.ntmps109
  go_upto_region 25 with (fail)
  simp only[List.append_eq,List.cons_append,List.nil_append]
  go_wp2_with (first|(go_at_call 136;with_reducible refine(kK name _ uU).mono ?_;rintro x w10 ⟨A0,n0,c0,rfl,hl0,hb0⟩;replace hX:=grow hX hb0;obtain⟨x1,x2,x3,x4,x5,x6,x7,xl⟩:=Hx.out _ hX)|(go_at_call 74;with_reducible refine(Df.out _ _ _ _ hl0).mono ?_;rintro x vX ⟨rfl,hc0⟩;replace hX:=grow hX hc0;obtain⟨x1,x2,x3,x4,x5,x6,x7,xl⟩:=Hx.out _ hX)|(go_at_call 73;with_reducible refine(Gh.out _).mono ?_;rintro x w' ⟨rfl,rfl⟩)|(go_at_call 136;with_reducible refine(kL src _).mono ?_;rintro x w' ⟨rfl,rfl⟩)|(go_at_call 74;with_reducible refine(mW _).mono ?_;rintro x w6 ⟨rfl,hb6⟩;replace hX:=grow hX hb6;obtain⟨x1,x2,x3,x4,x5,x6,x7,xl⟩:=Hx.out _ hX))
  go_ret
  exact⟨rfl,hbase.trans (hX.mono (by simp))⟩
theorem acO (F:Nat→Prop) (name src:ByteArray) (n:Int) (Ac Ae Ab Al:Option Addr) (nc cc ne ce nb cb nl cl:Nat) (cols:List ByteArray) (w:World) (hc:ai F w 1 dL Ac nc cc cols) (uU:okS name) :
  Calls Tryz.prog 109 #[.agg #[.int .i64 2,.string name,.string src,.int .i64 n,.slice Ac nc cc,.slice Ae ne ce,.slice Ab nb cb,.slice Al nl cl]] w fun x w'=>x=.returned (.bool (dm 2 name src n cols ne nb nl))∧Below w.heap.size w w':=by
 have hcl:=hc.len
 obtain⟨hbase,hX,Hx⟩:=nD 2 name src n Ac Ae Ab Al nc cc ne ce nb cb nl cl w
 have Df:=ae (fun (W:World) A m c (h:ai (fun _=>True) W 1 dL A m c [name])=>fJ _ A m c _ W h)
 rw[gZ] at Df
 have Gh:=ae (fun W=>fC ne 1 1 W)
 generalize hfin:dm 2 name src n cols ne nb nl=fin
 cases t0:aJ name
 rotate_left
 cases t1:noS src
 rotate_left
 cases t2:decide (nc=0)
 rotate_left
 cases t3:decide (n=0)
 rotate_left
 cases t4:(decide (1≤(ne:Int))&&decide ((ne:Int)≤1))
 rotate_left
 cases t5:decide (nb=0)
 rotate_left
 cases t6:decide (nl=0)
 rotate_left
 all_goals
  simp[dm,fF, *] at hfin
  subst hfin
  try (rw[t0] at Df;clear t0)
  first|replace t1:=dA t1|replace t1:=str_some t1|skip
  first|(obtain rfl:=of_decide_eq_true t2;clear t2)|replace t2:=fQ t2|skip
  first|(obtain rfl:=of_decide_eq_true t3;clear t3)|replace t3:=vK t3|skip
  try (rw[t4] at Gh;clear t4)
  first|(obtain rfl:=of_decide_eq_true t5;clear t5)|replace t5:=fQ t5|skip
  first|(obtain rfl:=of_decide_eq_true t6;clear t6)|replace t6:=fQ t6|skip
  clear hcl hc
  go_enter Tryz.func109,Tryz.ntmps109
  go_upto_region 25 with (fail)
  simp only[List.append_eq,List.cons_append,List.nil_append]
  go_wp2_with (first|(go_at_call 136;with_reducible refine(kK name _ uU).mono ?_;rintro x w10 ⟨A0,n0,c0,rfl,hl0,hb0⟩;replace hX:=grow hX hb0;obtain⟨x1,x2,x3,x4,x5,x6,x7,xl⟩:=Hx.out _ hX)|(go_at_call 74;with_reducible refine(Df.out _ _ _ _ hl0).mono ?_;rintro x vX ⟨rfl,hc0⟩;replace hX:=grow hX hc0;obtain⟨x1,x2,x3,x4,x5,x6,x7,xl⟩:=Hx.out _ hX)|(go_at_call 73;with_reducible refine(Gh.out _).mono ?_;rintro x w' ⟨rfl,rfl⟩)|(go_at_call 136;with_reducible refine(kL src _).mono ?_;rintro x w' ⟨rfl,rfl⟩)|(go_at_call 74;with_reducible refine(mW _).mono ?_;rintro x w6 ⟨rfl,hb6⟩;replace hX:=grow hX hb6;obtain⟨x1,x2,x3,x4,x5,x6,x7,xl⟩:=Hx.out _ hX))
  go_ret
  exact⟨rfl,hbase.trans (hX.mono (by simp))⟩
theorem acP (F:Nat→Prop) (name src:ByteArray) (n:Int) (Ac Ae Ab Al:Option Addr) (nc cc ne ce nb cb nl cl:Nat) (cols:List ByteArray) (w:World) (hc:ai F w 1 dL Ac nc cc cols) (uU:okS name) (oks:okS src) :
  Calls Tryz.prog 109 #[.agg #[.int .i64 5,.string name,.string src,.int .i64 n,.slice Ac nc cc,.slice Ae ne ce,.slice Ab nb cb,.slice Al nl cl]] w fun x w'=>x=.returned (.bool (dm 5 name src n cols ne nb nl))∧Below w.heap.size w w':=by
 have hcl:=hc.len
 obtain⟨hbase,hX,Hx⟩:=nD 5 name src n Ac Ae Ab Al nc cc ne ce nb cb nl cl w
 have Df:=ae (fun (W:World) A m c (h:ai (fun _=>True) W 1 dL A m c [name])=>fJ _ A m c _ W h)
 rw[gZ] at Df
 have Dh:=ae (fun (W:World) A m c (h:ai (fun _=>True) W 1 dL A m c [src])=>fJ _ A m c _ W h)
 rw[gZ] at Dh
 have Gh:=ae (fun W=>fC ne 1 1 W)
 generalize hfin:dm 5 name src n cols ne nb nl=fin
 cases t0:aJ name
 rotate_left
 cases t1:aJ src
 rotate_left
 cases t2:decide (nc=0)
 rotate_left
 cases t3:decide (n=0)
 rotate_left
 cases t4:(decide (1≤(ne:Int))&&decide ((ne:Int)≤1))
 rotate_left
 cases t5:decide (nb=0)
 rotate_left
 cases t6:decide (nl=0)
 rotate_left
 all_goals
  simp[dm,fF, *] at hfin
  subst hfin
  try (rw[t0] at Df;clear t0)
  try (rw[t1] at Dh;clear t1)
  first|(obtain rfl:=of_decide_eq_true t2;clear t2)|replace t2:=fQ t2|skip
  first|(obtain rfl:=of_decide_eq_true t3;clear t3)|replace t3:=vK t3|skip
  try (rw[t4] at Gh;clear t4)
  first|(obtain rfl:=of_decide_eq_true t5;clear t5)|replace t5:=fQ t5|skip
  first|(obtain rfl:=of_decide_eq_true t6;clear t6)|replace t6:=fQ t6|skip
  clear hcl hc
  go_enter Tryz.func109,Tryz.ntmps109
  go_upto_region 25 with (fail)
  simp only[List.append_eq,List.cons_append,List.nil_append]
  go_wp2_with (first|(go_at_call 136;with_reducible refine(kK name _ uU).mono ?_;rintro x w10 ⟨A0,n0,c0,rfl,hl0,hb0⟩;replace hX:=grow hX hb0;obtain⟨x1,x2,x3,x4,x5,x6,x7,xl⟩:=Hx.out _ hX)|(go_at_call 74;with_reducible refine(Df.out _ _ _ _ hl0).mono ?_;rintro x vX ⟨rfl,hc0⟩;replace hX:=grow hX hc0;obtain⟨x1,x2,x3,x4,x5,x6,x7,xl⟩:=Hx.out _ hX)|(go_at_call 136;with_reducible refine(kK src _ oks).mono ?_;rintro x tJ ⟨A1,n1,c1,rfl,hl1,hb1⟩;replace hX:=grow hX hb1;obtain⟨x1,x2,x3,x4,x5,x6,x7,xl⟩:=Hx.out _ hX)|(go_at_call 74;with_reducible refine(Dh.out _ _ _ _ hl1).mono ?_;rintro x uV ⟨rfl,hc1⟩;replace hX:=grow hX hc1;obtain⟨x1,x2,x3,x4,x5,x6,x7,xl⟩:=Hx.out _ hX)|(go_at_call 73;with_reducible refine(Gh.out _).mono ?_;rintro x w' ⟨rfl,rfl⟩))
  go_ret
  exact⟨rfl,hbase.trans (hX.mono (by simp))⟩
theorem acQ (F:Nat→Prop) (name src:ByteArray) (n:Int) (Ac Ae Ab Al:Option Addr) (nc cc ne ce nb cb nl cl:Nat) (cols:List ByteArray) (w:World) (hc:ai F w 1 dL Ac nc cc cols) (oks:okS src) :
  Calls Tryz.prog 109 #[.agg #[.int .i64 3,.string name,.string src,.int .i64 n,.slice Ac nc cc,.slice Ae ne ce,.slice Ab nb cb,.slice Al nl cl]] w fun x w'=>x=.returned (.bool (dm 3 name src n cols ne nb nl))∧Below w.heap.size w w':=by
 have hcl:=hc.len
 obtain⟨hbase,hX,Hx⟩:=nD 3 name src n Ac Ae Ab Al nc cc ne ce nb cb nl cl w
 have Df:=ae (fun (W:World) A m c (h:ai (fun _=>True) W 1 dL A m c [src])=>fJ _ A m c _ W h)
 rw[gZ] at Df
 have Gh:=ae (fun W=>fC ne 1 8 W)
 generalize hfin:dm 3 name src n cols ne nb nl=fin
 cases t0:aJ src
 rotate_left
 cases t1:noS name
 rotate_left
 cases t2:decide (nc=0)
 rotate_left
 cases t3:decide (n=0)
 rotate_left
 cases t4:(decide (1≤(ne:Int))&&decide ((ne:Int)≤8))
 rotate_left
 cases t5:decide (nb=0)
 rotate_left
 cases t6:decide (nl=0)
 rotate_left
 all_goals
  simp[dm,fF, *] at hfin
  subst hfin
  try (rw[t0] at Df;clear t0)
  first|replace t1:=dA t1|replace t1:=str_some t1|skip
  first|(obtain rfl:=of_decide_eq_true t2;clear t2)|replace t2:=fQ t2|skip
  first|(obtain rfl:=of_decide_eq_true t3;clear t3)|replace t3:=vK t3|skip
  try (rw[t4] at Gh;clear t4)
  first|(obtain rfl:=of_decide_eq_true t5;clear t5)|replace t5:=fQ t5|skip
  first|(obtain rfl:=of_decide_eq_true t6;clear t6)|replace t6:=fQ t6|skip
  clear hcl hc
  go_enter Tryz.func109,Tryz.ntmps109
  go_upto_region 25 with (fail)
  simp only[List.append_eq,List.cons_append,List.nil_append]
  go_wp2_with (first|(go_at_call 136;with_reducible refine(kK src _ oks).mono ?_;rintro x w10 ⟨A0,n0,c0,rfl,hl0,hb0⟩;replace hX:=grow hX hb0;obtain⟨x1,x2,x3,x4,x5,x6,x7,xl⟩:=Hx.out _ hX)|(go_at_call 74;with_reducible refine(Df.out _ _ _ _ hl0).mono ?_;rintro x vX ⟨rfl,hc0⟩;replace hX:=grow hX hc0;obtain⟨x1,x2,x3,x4,x5,x6,x7,xl⟩:=Hx.out _ hX)|(go_at_call 73;with_reducible refine(Gh.out _).mono ?_;rintro x w' ⟨rfl,rfl⟩)|(go_at_call 136;with_reducible refine(kL name _).mono ?_;rintro x w' ⟨rfl,rfl⟩)|(go_at_call 74;with_reducible refine(mW _).mono ?_;rintro x w6 ⟨rfl,hb6⟩;replace hX:=grow hX hb6;obtain⟨x1,x2,x3,x4,x5,x6,x7,xl⟩:=Hx.out _ hX))
  go_ret
  exact⟨rfl,hbase.trans (hX.mono (by simp))⟩
theorem acR (F:Nat→Prop) (name src:ByteArray) (n:Int) (Ac Ae Ab Al:Option Addr) (nc cc ne ce nb cb nl cl:Nat) (cols:List ByteArray) (w:World) (hc:ai F w 1 dL Ac nc cc cols) (oks:okS src) :
  Calls Tryz.prog 109 #[.agg #[.int .i64 8,.string name,.string src,.int .i64 n,.slice Ac nc cc,.slice Ae ne ce,.slice Ab nb cb,.slice Al nl cl]] w fun x w'=>x=.returned (.bool (dm 8 name src n cols ne nb nl))∧Below w.heap.size w w':=by
 have hcl:=hc.len
 obtain⟨hbase,hX,Hx⟩:=nD 8 name src n Ac Ae Ab Al nc cc ne ce nb cb nl cl w
 have Df:=ae (fun (W:World) A m c (h:ai (fun _=>True) W 1 dL A m c [src])=>fJ _ A m c _ W h)
 rw[gZ] at Df
 have Gh:=ae (fun W=>fC ne 1 8 W)
 generalize hfin:dm 8 name src n cols ne nb nl=fin
 cases t0:aJ src
 rotate_left
 cases t1:noS name
 rotate_left
 cases t2:decide (nc=0)
 rotate_left
 cases t3:decide (n=0)
 rotate_left
 cases t4:(decide (1≤(ne:Int))&&decide ((ne:Int)≤8))
 rotate_left
 cases t5:decide (nb=0)
 rotate_left
 cases t6:decide (nl=0)
 rotate_left
 all_goals
  simp[dm,fF, *] at hfin
  subst hfin
  try (rw[t0] at Df;clear t0)
  first|replace t1:=dA t1|replace t1:=str_some t1|skip
  first|(obtain rfl:=of_decide_eq_true t2;clear t2)|replace t2:=fQ t2|skip
  first|(obtain rfl:=of_decide_eq_true t3;clear t3)|replace t3:=vK t3|skip
  try (rw[t4] at Gh;clear t4)
  first|(obtain rfl:=of_decide_eq_true t5;clear t5)|replace t5:=fQ t5|skip
  first|(obtain rfl:=of_decide_eq_true t6;clear t6)|replace t6:=fQ t6|skip
  clear hcl hc
  go_enter Tryz.func109,Tryz.ntmps109
  go_upto_region 25 with (fail)
  simp only[List.append_eq,List.cons_append,List.nil_append]
  go_wp2_with (first|(go_at_call 136;with_reducible refine(kK src _ oks).mono ?_;rintro x w10 ⟨A0,n0,c0,rfl,hl0,hb0⟩;replace hX:=grow hX hb0;obtain⟨x1,x2,x3,x4,x5,x6,x7,xl⟩:=Hx.out _ hX)|(go_at_call 74;with_reducible refine(Df.out _ _ _ _ hl0).mono ?_;rintro x vX ⟨rfl,hc0⟩;replace hX:=grow hX hc0;obtain⟨x1,x2,x3,x4,x5,x6,x7,xl⟩:=Hx.out _ hX)|(go_at_call 73;with_reducible refine(Gh.out _).mono ?_;rintro x w' ⟨rfl,rfl⟩)|(go_at_call 136;with_reducible refine(kL name _).mono ?_;rintro x w' ⟨rfl,rfl⟩)|(go_at_call 74;with_reducible refine(mW _).mono ?_;rintro x w6 ⟨rfl,hb6⟩;replace hX:=grow hX hb6;obtain⟨x1,x2,x3,x4,x5,x6,x7,xl⟩:=Hx.out _ hX))
  go_ret
  exact⟨rfl,hbase.trans (hX.mono (by simp))⟩
theorem acS (F:Nat→Prop) (name src:ByteArray) (n:Int) (Ac Ae Ab Al:Option Addr) (nc cc ne ce nb cb nl cl:Nat) (cols:List ByteArray) (w:World) (hc:ai F w 1 dL Ac nc cc cols) :
  Calls Tryz.prog 109 #[.agg #[.int .i64 7,.string name,.string src,.int .i64 n,.slice Ac nc cc,.slice Ae ne ce,.slice Ab nb cb,.slice Al nl cl]] w fun x w'=>x=.returned (.bool (dm 7 name src n cols ne nb nl))∧Below w.heap.size w w':=by
 have hcl:=hc.len
 obtain⟨hbase,hX,Hx⟩:=nD 7 name src n Ac Ae Ab Al nc cc ne ce nb cb nl cl w
 have Gh:=ae (fun W=>fC ne 1 1 W)
 generalize hfin:dm 7 name src n cols ne nb nl=fin
 cases t0:noS name
 rotate_left
 cases t1:noS src
 rotate_left
 cases t2:decide (nc=0)
 rotate_left
 cases t3:decide (n=0)
 rotate_left
 cases t4:(decide (1≤(ne:Int))&&decide ((ne:Int)≤1))
 rotate_left
 all_goals
  simp[dm,fF, *] at hfin
  subst hfin
  first|replace t0:=dA t0|replace t0:=str_some t0|skip
  first|replace t1:=dA t1|replace t1:=str_some t1|skip
  first|(obtain rfl:=of_decide_eq_true t2;clear t2)|replace t2:=fQ t2|skip
  first|(obtain rfl:=of_decide_eq_true t3;clear t3)|replace t3:=vK t3|skip
  try (rw[t4] at Gh;clear t4)
  clear hcl hc
  go_enter Tryz.func109,Tryz.ntmps109
  go_upto_region 25 with (fail)
  simp only[List.append_eq,List.cons_append,List.nil_append]
  go_wp2_with (first|(go_at_call 73;with_reducible refine(Gh.out _).mono ?_;rintro x w' ⟨rfl,rfl⟩)|(go_at_call 136;with_reducible refine(kL name _).mono ?_;rintro x w' ⟨rfl,rfl⟩)|(go_at_call 136;with_reducible refine(kL src _).mono ?_;rintro x w' ⟨rfl,rfl⟩)|(go_at_call 74;with_reducible refine(mW _).mono ?_;rintro x w6 ⟨rfl,hb6⟩;replace hX:=grow hX hb6;obtain⟨x1,x2,x3,x4,x5,x6,x7,xl⟩:=Hx.out _ hX))
  go_ret
  exact⟨rfl,hbase.trans (hX.mono (by simp))⟩
theorem acT (F:Nat→Prop) (name src:ByteArray) (n:Int) (Ac Ae Ab Al:Option Addr) (nc cc ne ce nb cb nl cl:Nat) (cols:List ByteArray) (w:World) (hc:ai F w 1 dL Ac nc cc cols) (uU:okS name) (oks:okS src) :
  Calls Tryz.prog 109 #[.agg #[.int .i64 4,.string name,.string src,.int .i64 n,.slice Ac nc cc,.slice Ae ne ce,.slice Ab nb cb,.slice Al nl cl]] w fun x w'=>x=.returned (.bool (dm 4 name src n cols ne nb nl))∧Below w.heap.size w w':=by
 have hcl:=hc.len
 have hcc:(decide (1≤nc)&&decide (nc≤8))=(decide ((1:Int)≤(nc:Int))&&decide ((nc:Int)≤8)):=by rw[Bool.eq_iff_iff];simp;omega
 obtain⟨hbase,hX0,Hx⟩:=ab8 4 name src n Ac Ae Ab Al nc cc ne ce nb cb nl cl w
 have Df:=ae (fun (W:World) A m c (h:ai (fun _=>True) W 1 dL A m c [name])=>fJ _ A m c _ W h)
 rw[gZ] at Df
 have Dh:=ae (fun (W:World) A m c (h:ai (fun _=>True) W 1 dL A m c [src])=>fJ _ A m c _ W h)
 rw[gZ] at Dh
 have HW2:=ae (fun W=>fC nc 1 8 W)
 have HF3:=ae (fun (W:World) (hW:Below w.heap.size w W)=>fJ F Ac nc cc cols W (hc.below hW))
 have Su:=ae (fun (h8:nc≤1000000) (W:World) (hW:Below w.heap.size w W)=>JI F Ac nc cc cols W (hc.below hW) h8)
 have HW6:=ae (fun W=>fC ne ((nc:Int)+1) ((nc:Int)+1) W)
 generalize hfin:dm 4 name src n cols ne nb nl=fin
 cases t0:aJ name
 rotate_left
 cases t1:aJ src
 rotate_left
 (cases t2:(decide ((1:Int)≤(nc:Int))&&decide ((nc:Int)≤8))<;>rw[t2] at hcc)
 rotate_left
 have h8:nc≤1000000:=by simp at t2;omega
 cases t3:lN cols
 rotate_left
 cases t4:decide cols.Nodup
 rotate_left
 cases t5:decide (n=0)
 rotate_left
 cases t6:(decide (((nc:Int)+1)≤(ne:Int))&&decide ((ne:Int)≤((nc:Int)+1)))
 rotate_left
 cases t7:decide (nb=0)
 rotate_left
 cases t8:decide (nl=0)
 rotate_left
 all_goals
  simp[dm,fF, *] at hfin
  subst hfin
  try (rw[t0] at Df;clear t0)
  try (rw[t1] at Dh;clear t1)
  try (rw[t2] at HW2;clear t2)
  try (rw[t3] at HF3;clear t3)
  try (rw[t4] at Su;clear t4)
  first|(obtain rfl:=of_decide_eq_true t5;clear t5)|replace t5:=vK t5|skip
  try (rw[t6] at HW6;clear t6)
  first|(obtain rfl:=of_decide_eq_true t7;clear t7)|replace t7:=fQ t7|skip
  first|(obtain rfl:=of_decide_eq_true t8;clear t8)|replace t8:=fQ t8|skip
  clear hcc
  clear hcl hc
  go_enter Tryz.func109,Tryz.ntmps109
  go_upto_region 14 with (fail)
  go_quiet (fail)
  go_upto_region 25 with (fail)
  simp only[List.append_eq,List.cons_append,List.nil_append]
  go_wp2_with (first|(go_at_call 136;with_reducible refine(kK name _ uU).mono ?_;rintro x w10 ⟨A0,n0,c0,rfl,hl0,hb0⟩;have hX:=grow (hX0 _) hb0;obtain⟨x1,x2,x3,x4,x5,x6,x7,xl⟩:=Hx.out _ hX)|(go_at_call 74;with_reducible refine(Df.out _ _ _ _ hl0).mono ?_;rintro x vX ⟨rfl,hc0⟩;replace hX:=grow hX hc0;obtain⟨x1,x2,x3,x4,x5,x6,x7,xl⟩:=Hx.out _ hX)|(go_at_call 136;with_reducible refine(kK src _ oks).mono ?_;rintro x tJ ⟨A1,n1,c1,rfl,hl1,hb1⟩;replace hX:=grow hX hb1;obtain⟨x1,x2,x3,x4,x5,x6,x7,xl⟩:=Hx.out _ hX)|(go_at_call 74;with_reducible refine(Dh.out _ _ _ _ hl1).mono ?_;rintro x uV ⟨rfl,hc1⟩;replace hX:=grow hX hc1;obtain⟨x1,x2,x3,x4,x5,x6,x7,xl⟩:=Hx.out _ hX)|(go_at_call 73;with_reducible refine(HW2.out _).mono ?_;rintro x w' ⟨rfl,rfl⟩)|(go_at_call 74;with_reducible refine(HF3.out _ (hbase.trans (hX.mono (by simp)))).mono ?_;rintro x Sm ⟨rfl,hb3⟩;replace hX:=grow hX hb3;obtain⟨x1,x2,x3,x4,x5,x6,x7,xl⟩:=Hx.out _ hX)|(go_at_call 75;with_reducible refine(Su.out h8 _ (hbase.trans (hX.mono (by simp)))).mono ?_;rintro x w14 ⟨rfl,hb4⟩;replace hX:=grow hX hb4;obtain⟨x1,x2,x3,x4,x5,x6,x7,xl⟩:=Hx.out _ hX)|(go_at_call 73;with_reducible refine(HW6.out _).mono ?_;rintro x w' ⟨rfl,rfl⟩))
  go_ret
  exact⟨rfl,hbase.trans (hX.mono (by simp))⟩
theorem acU (F:Nat→Prop) (name src:ByteArray) (n:Int) (Ac Ae Ab Al:Option Addr) (nc cc ne ce nb cb nl cl:Nat) (cols:List ByteArray) (w:World) (hc:ai F w 1 dL Ac nc cc cols) (uU:okS name) (oks:okS src) :
  Calls Tryz.prog 109 #[.agg #[.int .i64 6,.string name,.string src,.int .i64 n,.slice Ac nc cc,.slice Ae ne ce,.slice Ab nb cb,.slice Al nl cl]] w fun x w'=>x=.returned (.bool (dm 6 name src n cols ne nb nl))∧Below w.heap.size w w':=by
 have hcl:=hc.len
 obtain⟨hbase,hX,Hx⟩:=nD 6 name src n Ac Ae Ab Al nc cc ne ce nb cb nl cl w
 have Df:=ae (fun (W:World) A m c (h:ai (fun _=>True) W 1 dL A m c [name])=>fJ _ A m c _ W h)
 rw[gZ] at Df
 have Dh:=ae (fun (W:World) A m c (h:ai (fun _=>True) W 1 dL A m c [src])=>fJ _ A m c _ W h)
 rw[gZ] at Dh
 have HW3:=ae (fun W=>fC n 0 1000 W)
 have Gh:=ae (fun W=>fC ne 1 1 W)
 generalize hfin:dm 6 name src n cols ne nb nl=fin
 cases t0:aJ name
 rotate_left
 cases t1:aJ src
 rotate_left
 cases t2:decide (nc=0)
 rotate_left
 cases t3:(decide (0≤n)&&decide (n≤1000))
 rotate_left
 cases t4:(decide (1≤(ne:Int))&&decide ((ne:Int)≤1))
 rotate_left
 cases t5:decide (nl=0)
 rotate_left
 all_goals
  simp[dm,fF, *] at hfin
  subst hfin
  try (rw[t0] at Df;clear t0)
  try (rw[t1] at Dh;clear t1)
  first|(obtain rfl:=of_decide_eq_true t2;clear t2)|replace t2:=fQ t2|skip
  try (rw[t3] at HW3;clear t3)
  try (rw[t4] at Gh;clear t4)
  first|(obtain rfl:=of_decide_eq_true t5;clear t5)|replace t5:=fQ t5|skip
  clear hcl hc
  go_enter Tryz.func109,Tryz.ntmps109
  go_upto_region 25 with (fail)
  simp only[List.append_eq,List.cons_append,List.nil_append]
  go_wp2_with (first|(go_at_call 136;with_reducible refine(kK name _ uU).mono ?_;rintro x w10 ⟨A0,n0,c0,rfl,hl0,hb0⟩;replace hX:=grow hX hb0;obtain⟨x1,x2,x3,x4,x5,x6,x7,xl⟩:=Hx.out _ hX)|(go_at_call 74;with_reducible refine(Df.out _ _ _ _ hl0).mono ?_;rintro x vX ⟨rfl,hc0⟩;replace hX:=grow hX hc0;obtain⟨x1,x2,x3,x4,x5,x6,x7,xl⟩:=Hx.out _ hX)|(go_at_call 136;with_reducible refine(kK src _ oks).mono ?_;rintro x tJ ⟨A1,n1,c1,rfl,hl1,hb1⟩;replace hX:=grow hX hb1;obtain⟨x1,x2,x3,x4,x5,x6,x7,xl⟩:=Hx.out _ hX)|(go_at_call 74;with_reducible refine(Dh.out _ _ _ _ hl1).mono ?_;rintro x uV ⟨rfl,hc1⟩;replace hX:=grow hX hc1;obtain⟨x1,x2,x3,x4,x5,x6,x7,xl⟩:=Hx.out _ hX)|(go_at_call 73;with_reducible refine(HW3.out _).mono ?_;rintro x w' ⟨rfl,rfl⟩)|(go_at_call 73;with_reducible refine(Gh.out _).mono ?_;rintro x w' ⟨rfl,rfl⟩))
  go_ret
  exact⟨rfl,hbase.trans (hX.mono (by simp))⟩
theorem acV (F:Nat→Prop) (name src:ByteArray) (n:Int) (Ac Ae Ab Al:Option Addr) (nc cc ne ce nb cb nl cl:Nat) (cols:List ByteArray) (w:World) (hc:ai F w 1 dL Ac nc cc cols) :
  Calls Tryz.prog 109 #[.agg #[.int .i64 9,.string name,.string src,.int .i64 n,.slice Ac nc cc,.slice Ae ne ce,.slice Ab nb cb,.slice Al nl cl]] w fun x w'=>x=.returned (.bool (dm 9 name src n cols ne nb nl))∧Below w.heap.size w w':=by
 have hcl:=hc.len
 obtain⟨hbase,hX,Hx⟩:=nD 9 name src n Ac Ae Ab Al nc cc ne ce nb cb nl cl w
 have Gh:=ae (fun W=>fC ne 1 1 W)
 generalize hfin:dm 9 name src n cols ne nb nl=fin
 cases t0:noS name
 rotate_left
 cases t1:noS src
 rotate_left
 cases t2:decide (nc=0)
 rotate_left
 cases t3:decide (n=0)
 rotate_left
 cases t4:(decide (1≤(ne:Int))&&decide ((ne:Int)≤1))
 rotate_left
 cases t5:decide (nb=0)
 rotate_left
 cases t6:decide (nl=0)
 rotate_left
 all_goals
  simp[dm,fF, *] at hfin
  subst hfin
  first|replace t0:=dA t0|replace t0:=str_some t0|skip
  first|replace t1:=dA t1|replace t1:=str_some t1|skip
  first|(obtain rfl:=of_decide_eq_true t2;clear t2)|replace t2:=fQ t2|skip
  first|(obtain rfl:=of_decide_eq_true t3;clear t3)|replace t3:=vK t3|skip
  try (rw[t4] at Gh;clear t4)
  first|(obtain rfl:=of_decide_eq_true t5;clear t5)|replace t5:=fQ t5|skip
  first|(obtain rfl:=of_decide_eq_true t6;clear t6)|replace t6:=fQ t6|skip
  clear hcl hc
  go_enter Tryz.func109,Tryz.ntmps109
  go_upto_region 25 with (fail)
  simp only[List.append_eq,List.cons_append,List.nil_append]
  go_wp2_with (first|(go_at_call 73;with_reducible refine(Gh.out _).mono ?_;rintro x w' ⟨rfl,rfl⟩)|(go_at_call 136;with_reducible refine(kL name _).mono ?_;rintro x w' ⟨rfl,rfl⟩)|(go_at_call 136;with_reducible refine(kL src _).mono ?_;rintro x w' ⟨rfl,rfl⟩)|(go_at_call 74;with_reducible refine(mW _).mono ?_;rintro x w6 ⟨rfl,hb6⟩;replace hX:=grow hX hb6;obtain⟨x1,x2,x3,x4,x5,x6,x7,xl⟩:=Hx.out _ hX))
  go_ret
  exact⟨rfl,hbase.trans (hX.mono (by simp))⟩
theorem Yp (F:Nat→Prop) (name src:ByteArray) (n:Int) (Ac Ae Ab Al:Option Addr) (nc cc ne ce nb cb nl cl:Nat) (cols:List ByteArray) (w:World) (hc:ai F w 1 dL Ac nc cc cols) :
  Calls Tryz.prog 109 #[.agg #[.int .i64 10,.string name,.string src,.int .i64 n,.slice Ac nc cc,.slice Ae ne ce,.slice Ab nb cb,.slice Al nl cl]] w fun x w'=>x=.returned (.bool (dm 10 name src n cols ne nb nl))∧Below w.heap.size w w':=by
 have hcl:=hc.len
 obtain⟨hbase,hX,Hx⟩:=nD 10 name src n Ac Ae Ab Al nc cc ne ce nb cb nl cl w
 have Gh:=ae (fun W=>fC ne 1 8 W)
 generalize hfin:dm 10 name src n cols ne nb nl=fin
 cases t0:noS name
 rotate_left
 cases t1:noS src
 rotate_left
 cases t2:decide (nc=0)
 rotate_left
 cases t3:decide (n=0)
 rotate_left
 cases t4:(decide (1≤(ne:Int))&&decide ((ne:Int)≤8))
 rotate_left
 cases t5:decide (nb=0)
 rotate_left
 cases t6:decide (nl=0)
 rotate_left
 all_goals
  simp[dm,fF, *] at hfin
  subst hfin
  first|replace t0:=dA t0|replace t0:=str_some t0|skip
  first|replace t1:=dA t1|replace t1:=str_some t1|skip
  first|(obtain rfl:=of_decide_eq_true t2;clear t2)|replace t2:=fQ t2|skip
  first|(obtain rfl:=of_decide_eq_true t3;clear t3)|replace t3:=vK t3|skip
  try (rw[t4] at Gh;clear t4)
  first|(obtain rfl:=of_decide_eq_true t5;clear t5)|replace t5:=fQ t5|skip
  first|(obtain rfl:=of_decide_eq_true t6;clear t6)|replace t6:=fQ t6|skip
  clear hcl hc
  go_enter Tryz.func109,Tryz.ntmps109
  go_upto_region 25 with (fail)
  simp only[List.append_eq,List.cons_append,List.nil_append]
  go_wp2_with (first|(go_at_call 73;with_reducible refine(Gh.out _).mono ?_;rintro x w' ⟨rfl,rfl⟩)|(go_at_call 136;with_reducible refine(kL name _).mono ?_;rintro x w' ⟨rfl,rfl⟩)|(go_at_call 136;with_reducible refine(kL src _).mono ?_;rintro x w' ⟨rfl,rfl⟩)|(go_at_call 74;with_reducible refine(mW _).mono ?_;rintro x w6 ⟨rfl,hb6⟩;replace hX:=grow hX hb6;obtain⟨x1,x2,x3,x4,x5,x6,x7,xl⟩:=Hx.out _ hX))
  go_ret
  exact⟨rfl,hbase.trans (hX.mono (by simp))⟩
theorem Yq (F:Nat→Prop) (name src:ByteArray) (n:Int) (Ac Ae Ab Al:Option Addr) (nc cc ne ce nb cb nl cl:Nat) (cols:List ByteArray) (w:World) (op:Int) (hc:ai F w 1 dL Ac nc cc cols) (uU:okS name) (oks:okS src) :
  Calls Tryz.prog 109 #[.agg #[.int .i64 op,.string name,.string src,.int .i64 n,.slice Ac nc cc,.slice Ae ne ce,.slice Ab nb cb,.slice Al nl cl]] w fun x w'=>x=.returned (.bool (dm op name src n cols ne nb nl))∧Below w.heap.size w w':=by
 by_cases e1:op=1
 ·subst e1;exact acN F name src n Ac Ae Ab Al nc cc ne ce nb cb nl cl cols w hc uU
 by_cases e2:op=2
 ·subst e2;exact acO F name src n Ac Ae Ab Al nc cc ne ce nb cb nl cl cols w hc uU
 by_cases e3:op=3
 ·subst e3;exact acQ F name src n Ac Ae Ab Al nc cc ne ce nb cb nl cl cols w hc oks
 by_cases e4:op=4
 ·subst e4;exact acT F name src n Ac Ae Ab Al nc cc ne ce nb cb nl cl cols w hc uU oks
 by_cases e5:op=5
 ·subst e5;exact acP F name src n Ac Ae Ab Al nc cc ne ce nb cb nl cl cols w hc uU oks
 by_cases e6:op=6
 ·subst e6;exact acU F name src n Ac Ae Ab Al nc cc ne ce nb cb nl cl cols w hc uU oks
 by_cases e7:op=7
 ·subst e7;exact acS F name src n Ac Ae Ab Al nc cc ne ce nb cb nl cl cols w hc
 by_cases e8:op=8
 ·subst e8;exact acR F name src n Ac Ae Ab Al nc cc ne ce nb cb nl cl cols w hc oks
 by_cases e9:op=9
 ·subst e9;exact acV F name src n Ac Ae Ab Al nc cc ne ce nb cb nl cl cols w hc
 by_cases e10:op=10
 ·subst e10;exact Yp F name src n Ac Ae Ab Al nc cc ne ce nb cb nl cl cols w hc
 have hr:dm op name src n cols ne nb nl=false:=by
  unfold dm
  repeat (rw[if_neg (by omega)])
 have Hr:=ae hr
 clear hr hc
 have d1:(op==1)=false:=by simpa using e1
 have d2:(op==2)=false:=by simpa using e2
 have d3:(op==3)=false:=by simpa using e3
 have d4:(op==4)=false:=by simpa using e4
 have d5:(op==5)=false:=by simpa using e5
 have d6:(op==6)=false:=by simpa using e6
 have d7:(op==7)=false:=by simpa using e7
 have d8:(op==8)=false:=by simpa using e8
 have d9:(op==9)=false:=by simpa using e9
 have d10:(op==10)=false:=by simpa using e10
 go_enter Tryz.func109,Tryz.ntmps109
 go_wp2
 go_ret
 exact⟨aI Hr.out.symm,(Below.refl _ _).alloc (Nat.le_refl _) _⟩
end Go.Proofs.YtjjfkhbajidmdaaGreatDoor

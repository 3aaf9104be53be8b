/- Parts of this proof, one behind the other: SynJ1. -/
import Derived.Test.YtgihhkfppnhdpaaSp3
import Derived.Deep.Cut
namespace Go.Proofs.Ytgihhkfppnhdpaa
open Go.RowKit Go.Afx

set_option maxRecDepth 100000 in
set_option maxHeartbeats 4000000 in
theorem shape_1_0 (name src : ByteArray) (n : Int) (Ac Ae Ab Al : Option Addr) (nc cc ne ce nb cb nl cl : Nat) (cols : List ByteArray) (w : World) (okn : okS name) (hcl : cols.length = nc) (t0 : freeB name = false) :
    Calls Try.prog 71 #[.agg #[.int .i64 1, .string name, .string src, .int .i64 n, .slice Ac nc cc, .slice Ae ne ce, .slice Ab nb cb, .slice Al nl cl]] w fun x w' => x = .returned (.bool (shapeR 1 name src n cols ne nb nl)) ∧ Below w.heap.size w w' := by
  have hfin : shapeR 1 name src n cols ne nb nl = false := by
    simp [shapeR, shapeP, hcl, t0]
  have Hfin := Lib.hid hfin
  clear hfin
  obtain ⟨hbase, hX, Hx⟩ := shStart 1 name src n Ac Ae Ab Al nc cc ne ce nb cb nl cl w
  have HF0 := Lib.hid (fun (W : World) A m c (h : LsAt (fun _ => True) W 1 SRow A m c [name]) => free_any _ A m c _ W h)
  rw [freesB_one, t0] at HF0
  clear t0
  clear hcl
  go_enter Try.func71, Try.ntmps71
  go_upto_region 25 with (fail)
  simp only [List.append_eq, List.cons_append, List.nil_append]
  go_wp2_with (first | (go_at_call 88; with_reducible refine (hasT_any name _ okn).mono ?_; rintro x w10 ⟨A0, n0, c0, rfl, hl0, hb0⟩; replace hX := grow hX hb0; obtain ⟨x1, x2, x3, x4, x5, x6, x7, xl⟩ := Hx.out _ hX) | (go_at_call 9; with_reducible refine (HF0.out _ _ _ _ hl0).mono ?_; rintro x w20 ⟨rfl, hc0⟩; replace hX := grow hX hc0; obtain ⟨x1, x2, x3, x4, x5, x6, x7, xl⟩ := Hx.out _ hX) | (go_at_call 88; with_reducible refine (hasF_any src _).mono ?_; rintro x w' ⟨rfl, rfl⟩) | (go_at_call 9; with_reducible refine (freeN_any _).mono ?_; rintro x w6 ⟨rfl, hb6⟩; replace hX := grow hX hb6; obtain ⟨x1, x2, x3, x4, x5, x6, x7, xl⟩ := Hx.out _ hX))
  go_ret
  exact ⟨ret_bool Hfin.out.symm, hbase.trans (hX.mono (by simp))⟩

set_option maxRecDepth 100000 in
set_option maxHeartbeats 4000000 in
theorem shape_1_1 (name src : ByteArray) (n : Int) (Ac Ae Ab Al : Option Addr) (nc cc ne ce nb cb nl cl : Nat) (cols : List ByteArray) (w : World) (okn : okS name) (hcl : cols.length = nc) (t0 : freeB name = true) (t1 : noS src = false) :
    Calls Try.prog 71 #[.agg #[.int .i64 1, .string name, .string src, .int .i64 n, .slice Ac nc cc, .slice Ae ne ce, .slice Ab nb cb, .slice Al nl cl]] w fun x w' => x = .returned (.bool (shapeR 1 name src n cols ne nb nl)) ∧ Below w.heap.size w w' := by
  have hfin : shapeR 1 name src n cols ne nb nl = false := by
    simp [shapeR, shapeP, hcl, t0, t1]
  have Hfin := Lib.hid hfin
  clear hfin
  obtain ⟨hbase, hX, Hx⟩ := shStart 1 name src n Ac Ae Ab Al nc cc ne ce nb cb nl cl w
  have HF0 := Lib.hid (fun (W : World) A m c (h : LsAt (fun _ => True) W 1 SRow A m c [name]) => free_any _ A m c _ W h)
  rw [freesB_one, t0] at HF0
  clear t0
  replace t1 := str_some t1
  clear hcl
  go_enter Try.func71, Try.ntmps71
  go_upto_region 25 with (fail)
  simp only [List.append_eq, List.cons_append, List.nil_append]
  go_wp2_with (first | (go_at_call 88; with_reducible refine (hasT_any name _ okn).mono ?_; rintro x w10 ⟨A0, n0, c0, rfl, hl0, hb0⟩; replace hX := grow hX hb0; obtain ⟨x1, x2, x3, x4, x5, x6, x7, xl⟩ := Hx.out _ hX) | (go_at_call 9; with_reducible refine (HF0.out _ _ _ _ hl0).mono ?_; rintro x w20 ⟨rfl, hc0⟩; replace hX := grow hX hc0; obtain ⟨x1, x2, x3, x4, x5, x6, x7, xl⟩ := Hx.out _ hX) | (go_at_call 88; with_reducible refine (hasF_any src _).mono ?_; rintro x w' ⟨rfl, rfl⟩) | (go_at_call 9; with_reducible refine (freeN_any _).mono ?_; rintro x w6 ⟨rfl, hb6⟩; replace hX := grow hX hb6; obtain ⟨x1, x2, x3, x4, x5, x6, x7, xl⟩ := Hx.out _ hX))
  go_ret
  exact ⟨ret_bool Hfin.out.symm, hbase.trans (hX.mono (by simp))⟩

set_option maxRecDepth 100000 in
set_option maxHeartbeats 4000000 in
theorem shape_1_2 (name src : ByteArray) (n : Int) (Ac Ae Ab Al : Option Addr) (nc cc ne ce nb cb nl cl : Nat) (cols : List ByteArray) (w : World) (okn : okS name) (hcl : cols.length = nc) (t0 : freeB name = true) (t1 : noS src = true) (t2 : decide (nc = 0) = false) :
    Calls Try.prog 71 #[.agg #[.int .i64 1, .string name, .string src, .int .i64 n, .slice Ac nc cc, .slice Ae ne ce, .slice Ab nb cb, .slice Al nl cl]] w fun x w' => x = .returned (.bool (shapeR 1 name src n cols ne nb nl)) ∧ Below w.heap.size w w' := by
  have hfin : shapeR 1 name src n cols ne nb nl = false := by
    simp [shapeR, shapeP, hcl, t0, t1, t2]
  have Hfin := Lib.hid hfin
  clear hfin
  obtain ⟨hbase, hX, Hx⟩ := shStart 1 name src n Ac Ae Ab Al nc cc ne ce nb cb nl cl w
  have HF0 := Lib.hid (fun (W : World) A m c (h : LsAt (fun _ => True) W 1 SRow A m c [name]) => free_any _ A m c _ W h)
  rw [freesB_one, t0] at HF0
  clear t0
  replace t1 := str_empty t1
  replace t2 : ((nc : Int) == 0) = false := by simp at t2 ⊢; omega
  clear hcl
  go_enter Try.func71, Try.ntmps71
  go_upto_region 25 with (fail)
  simp only [List.append_eq, List.cons_append, List.nil_append]
  go_wp2_with (first | (go_at_call 88; with_reducible refine (hasT_any name _ okn).mono ?_; rintro x w10 ⟨A0, n0, c0, rfl, hl0, hb0⟩; replace hX := grow hX hb0; obtain ⟨x1, x2, x3, x4, x5, x6, x7, xl⟩ := Hx.out _ hX) | (go_at_call 9; with_reducible refine (HF0.out _ _ _ _ hl0).mono ?_; rintro x w20 ⟨rfl, hc0⟩; replace hX := grow hX hc0; obtain ⟨x1, x2, x3, x4, x5, x6, x7, xl⟩ := Hx.out _ hX) | (go_at_call 88; with_reducible refine (hasF_any src _).mono ?_; rintro x w' ⟨rfl, rfl⟩) | (go_at_call 9; with_reducible refine (freeN_any _).mono ?_; rintro x w6 ⟨rfl, hb6⟩; replace hX := grow hX hb6; obtain ⟨x1, x2, x3, x4, x5, x6, x7, xl⟩ := Hx.out _ hX))
  go_ret
  exact ⟨ret_bool Hfin.out.symm, hbase.trans (hX.mono (by simp))⟩

set_option maxRecDepth 100000 in
set_option maxHeartbeats 4000000 in
theorem shape_1_3 (name src : ByteArray) (n : Int) (Ac Ae Ab Al : Option Addr) (nc cc ne ce nb cb nl cl : Nat) (cols : List ByteArray) (w : World) (okn : okS name) (hcl : cols.length = nc) (t0 : freeB name = true) (t1 : noS src = true) (t2 : decide (nc = 0) = true) (t3 : decide (n = 0) = false) :
    Calls Try.prog 71 #[.agg #[.int .i64 1, .string name, .string src, .int .i64 n, .slice Ac nc cc, .slice Ae ne ce, .slice Ab nb cb, .slice Al nl cl]] w fun x w' => x = .returned (.bool (shapeR 1 name src n cols ne nb nl)) ∧ Below w.heap.size w w' := by
  have hfin : shapeR 1 name src n cols ne nb nl = false := by
    simp [shapeR, shapeP, hcl, t0, t1, t2, t3]
  have Hfin := Lib.hid hfin
  clear hfin
  obtain ⟨hbase, hX, Hx⟩ := shStart 1 name src n Ac Ae Ab Al nc cc ne ce nb cb nl cl w
  have HF0 := Lib.hid (fun (W : World) A m c (h : LsAt (fun _ => True) W 1 SRow A m c [name]) => free_any _ A m c _ W h)
  rw [freesB_one, t0] at HF0
  clear t0
  replace t1 := str_empty t1
  obtain rfl : nc = 0 := by simpa using t2
  clear t2
  replace t3 : (n == 0) = false := by simp at t3 ⊢; omega
  clear hcl
  go_enter Try.func71, Try.ntmps71
  go_upto_region 25 with (fail)
  simp only [List.append_eq, List.cons_append, List.nil_append]
  go_wp2_with (first | (go_at_call 88; with_reducible refine (hasT_any name _ okn).mono ?_; rintro x w10 ⟨A0, n0, c0, rfl, hl0, hb0⟩; replace hX := grow hX hb0; obtain ⟨x1, x2, x3, x4, x5, x6, x7, xl⟩ := Hx.out _ hX) | (go_at_call 9; with_reducible refine (HF0.out _ _ _ _ hl0).mono ?_; rintro x w20 ⟨rfl, hc0⟩; replace hX := grow hX hc0; obtain ⟨x1, x2, x3, x4, x5, x6, x7, xl⟩ := Hx.out _ hX) | (go_at_call 88; with_reducible refine (hasF_any src _).mono ?_; rintro x w' ⟨rfl, rfl⟩) | (go_at_call 9; with_reducible refine (freeN_any _).mono ?_; rintro x w6 ⟨rfl, hb6⟩; replace hX := grow hX hb6; obtain ⟨x1, x2, x3, x4, x5, x6, x7, xl⟩ := Hx.out _ hX))
  go_ret
  exact ⟨ret_bool Hfin.out.symm, hbase.trans (hX.mono (by simp))⟩

set_option maxRecDepth 100000 in
set_option maxHeartbeats 4000000 in
theorem shape_1_4 (name src : ByteArray) (n : Int) (Ac Ae Ab Al : Option Addr) (nc cc ne ce nb cb nl cl : Nat) (cols : List ByteArray) (w : World) (okn : okS name) (hcl : cols.length = nc) (t0 : freeB name = true) (t1 : noS src = true) (t2 : decide (nc = 0) = true) (t3 : decide (n = 0) = true) (t4 : (decide (1 ≤ (ne : Int)) && decide ((ne : Int) ≤ 1)) = false) :
    Calls Try.prog 71 #[.agg #[.int .i64 1, .string name, .string src, .int .i64 n, .slice Ac nc cc, .slice Ae ne ce, .slice Ab nb cb, .slice Al nl cl]] w fun x w' => x = .returned (.bool (shapeR 1 name src n cols ne nb nl)) ∧ Below w.heap.size w w' := by
  have hfin : shapeR 1 name src n cols ne nb nl = false := by
    simp [shapeR, shapeP, hcl, t0, t1, t2, t3, t4]
  have Hfin := Lib.hid hfin
  clear hfin
  obtain ⟨hbase, hX, Hx⟩ := shStart 1 name src n Ac Ae Ab Al nc cc ne ce nb cb nl cl w
  have HF0 := Lib.hid (fun (W : World) A m c (h : LsAt (fun _ => True) W 1 SRow A m c [name]) => free_any _ A m c _ W h)
  rw [freesB_one, t0] at HF0
  clear t0
  replace t1 := str_empty t1
  obtain rfl : nc = 0 := by simpa using t2
  clear t2
  obtain rfl : n = 0 := by simpa using t3
  clear t3
  have HW4 := Lib.hid (fun W => within_any ne 1 1 W)
  rw [t4] at HW4
  clear t4
  clear hcl
  go_enter Try.func71, Try.ntmps71
  go_upto_region 25 with (fail)
  simp only [List.append_eq, List.cons_append, List.nil_append]
  go_wp2_with (first | (go_at_call 88; with_reducible refine (hasT_any name _ okn).mono ?_; rintro x w10 ⟨A0, n0, c0, rfl, hl0, hb0⟩; replace hX := grow hX hb0; obtain ⟨x1, x2, x3, x4, x5, x6, x7, xl⟩ := Hx.out _ hX) | (go_at_call 9; with_reducible refine (HF0.out _ _ _ _ hl0).mono ?_; rintro x w20 ⟨rfl, hc0⟩; replace hX := grow hX hc0; obtain ⟨x1, x2, x3, x4, x5, x6, x7, xl⟩ := Hx.out _ hX) | (go_at_call 54; with_reducible refine (HW4.out _).mono ?_; rintro x w' ⟨rfl, rfl⟩) | (go_at_call 88; with_reducible refine (hasF_any src _).mono ?_; rintro x w' ⟨rfl, rfl⟩) | (go_at_call 9; with_reducible refine (freeN_any _).mono ?_; rintro x w6 ⟨rfl, hb6⟩; replace hX := grow hX hb6; obtain ⟨x1, x2, x3, x4, x5, x6, x7, xl⟩ := Hx.out _ hX))
  go_ret
  exact ⟨ret_bool Hfin.out.symm, hbase.trans (hX.mono (by simp))⟩

set_option maxRecDepth 100000 in
set_option maxHeartbeats 4000000 in
theorem shape_1_5 (name src : ByteArray) (n : Int) (Ac Ae Ab Al : Option Addr) (nc cc ne ce nb cb nl cl : Nat) (cols : List ByteArray) (w : World) (okn : okS name) (hcl : cols.length = nc) (t0 : freeB name = true) (t1 : noS src = true) (t2 : decide (nc = 0) = true) (t3 : decide (n = 0) = true) (t4 : (decide (1 ≤ (ne : Int)) && decide ((ne : Int) ≤ 1)) = true) (t5 : decide (nb = 0) = false) :
    Calls Try.prog 71 #[.agg #[.int .i64 1, .string name, .string src, .int .i64 n, .slice Ac nc cc, .slice Ae ne ce, .slice Ab nb cb, .slice Al nl cl]] w fun x w' => x = .returned (.bool (shapeR 1 name src n cols ne nb nl)) ∧ Below w.heap.size w w' := by
  have hfin : shapeR 1 name src n cols ne nb nl = false := by
    simp [shapeR, shapeP, hcl, t0, t1, t2, t3, t4, t5]
  have Hfin := Lib.hid hfin
  clear hfin
  obtain ⟨hbase, hX, Hx⟩ := shStart 1 name src n Ac Ae Ab Al nc cc ne ce nb cb nl cl w
  have HF0 := Lib.hid (fun (W : World) A m c (h : LsAt (fun _ => True) W 1 SRow A m c [name]) => free_any _ A m c _ W h)
  rw [freesB_one, t0] at HF0
  clear t0
  replace t1 := str_empty t1
  obtain rfl : nc = 0 := by simpa using t2
  clear t2
  obtain rfl : n = 0 := by simpa using t3
  clear t3
  have HW4 := Lib.hid (fun W => within_any ne 1 1 W)
  rw [t4] at HW4
  clear t4
  replace t5 : ((nb : Int) == 0) = false := by simp at t5 ⊢; omega
  clear hcl
  go_enter Try.func71, Try.ntmps71
  go_upto_region 25 with (fail)
  simp only [List.append_eq, List.cons_append, List.nil_append]
  go_wp2_with (first | (go_at_call 88; with_reducible refine (hasT_any name _ okn).mono ?_; rintro x w10 ⟨A0, n0, c0, rfl, hl0, hb0⟩; replace hX := grow hX hb0; obtain ⟨x1, x2, x3, x4, x5, x6, x7, xl⟩ := Hx.out _ hX) | (go_at_call 9; with_reducible refine (HF0.out _ _ _ _ hl0).mono ?_; rintro x w20 ⟨rfl, hc0⟩; replace hX := grow hX hc0; obtain ⟨x1, x2, x3, x4, x5, x6, x7, xl⟩ := Hx.out _ hX) | (go_at_call 54; with_reducible refine (HW4.out _).mono ?_; rintro x w' ⟨rfl, rfl⟩) | (go_at_call 88; with_reducible refine (hasF_any src _).mono ?_; rintro x w' ⟨rfl, rfl⟩) | (go_at_call 9; with_reducible refine (freeN_any _).mono ?_; rintro x w6 ⟨rfl, hb6⟩; replace hX := grow hX hb6; obtain ⟨x1, x2, x3, x4, x5, x6, x7, xl⟩ := Hx.out _ hX))
  go_ret
  exact ⟨ret_bool Hfin.out.symm, hbase.trans (hX.mono (by simp))⟩

set_option maxRecDepth 100000 in
set_option maxHeartbeats 4000000 in
theorem shape_1_6 (name src : ByteArray) (n : Int) (Ac Ae Ab Al : Option Addr) (nc cc ne ce nb cb nl cl : Nat) (cols : List ByteArray) (w : World) (okn : okS name) (hcl : cols.length = nc) (t0 : freeB name = true) (t1 : noS src = true) (t2 : decide (nc = 0) = true) (t3 : decide (n = 0) = true) (t4 : (decide (1 ≤ (ne : Int)) && decide ((ne : Int) ≤ 1)) = true) (t5 : decide (nb = 0) = true) (t6 : decide (nl = 0) = false) :
    Calls Try.prog 71 #[.agg #[.int .i64 1, .string name, .string src, .int .i64 n, .slice Ac nc cc, .slice Ae ne ce, .slice Ab nb cb, .slice Al nl cl]] w fun x w' => x = .returned (.bool (shapeR 1 name src n cols ne nb nl)) ∧ Below w.heap.size w w' := by
  have hfin : shapeR 1 name src n cols ne nb nl = false := by
    simp [shapeR, shapeP, hcl, t0, t1, t2, t3, t4, t5, t6]
  have Hfin := Lib.hid hfin
  clear hfin
  obtain ⟨hbase, hX, Hx⟩ := shStart 1 name src n Ac Ae Ab Al nc cc ne ce nb cb nl cl w
  have HF0 := Lib.hid (fun (W : World) A m c (h : LsAt (fun _ => True) W 1 SRow A m c [name]) => free_any _ A m c _ W h)
  rw [freesB_one, t0] at HF0
  clear t0
  replace t1 := str_empty t1
  obtain rfl : nc = 0 := by simpa using t2
  clear t2
  obtain rfl : n = 0 := by simpa using t3
  clear t3
  have HW4 := Lib.hid (fun W => within_any ne 1 1 W)
  rw [t4] at HW4
  clear t4
  obtain rfl : nb = 0 := by simpa using t5
  clear t5
  replace t6 : ((nl : Int) == 0) = false := by simp at t6 ⊢; omega
  clear hcl
  go_enter Try.func71, Try.ntmps71
  go_upto_region 25 with (fail)
  simp only [List.append_eq, List.cons_append, List.nil_append]
  go_wp2_with (first | (go_at_call 88; with_reducible refine (hasT_any name _ okn).mono ?_; rintro x w10 ⟨A0, n0, c0, rfl, hl0, hb0⟩; replace hX := grow hX hb0; obtain ⟨x1, x2, x3, x4, x5, x6, x7, xl⟩ := Hx.out _ hX) | (go_at_call 9; with_reducible refine (HF0.out _ _ _ _ hl0).mono ?_; rintro x w20 ⟨rfl, hc0⟩; replace hX := grow hX hc0; obtain ⟨x1, x2, x3, x4, x5, x6, x7, xl⟩ := Hx.out _ hX) | (go_at_call 54; with_reducible refine (HW4.out _).mono ?_; rintro x w' ⟨rfl, rfl⟩) | (go_at_call 88; with_reducible refine (hasF_any src _).mono ?_; rintro x w' ⟨rfl, rfl⟩) | (go_at_call 9; with_reducible refine (freeN_any _).mono ?_; rintro x w6 ⟨rfl, hb6⟩; replace hX := grow hX hb6; obtain ⟨x1, x2, x3, x4, x5, x6, x7, xl⟩ := Hx.out _ hX))
  go_ret
  exact ⟨ret_bool Hfin.out.symm, hbase.trans (hX.mono (by simp))⟩

set_option maxRecDepth 100000 in
set_option maxHeartbeats 4000000 in
theorem shape_1_7 (name src : ByteArray) (n : Int) (Ac Ae Ab Al : Option Addr) (nc cc ne ce nb cb nl cl : Nat) (cols : List ByteArray) (w : World) (okn : okS name) (hcl : cols.length = nc) (t0 : freeB name = true) (t1 : noS src = true) (t2 : decide (nc = 0) = true) (t3 : decide (n = 0) = true) (t4 : (decide (1 ≤ (ne : Int)) && decide ((ne : Int) ≤ 1)) = true) (t5 : decide (nb = 0) = true) (t6 : decide (nl = 0) = true) :
    Calls Try.prog 71 #[.agg #[.int .i64 1, .string name, .string src, .int .i64 n, .slice Ac nc cc, .slice Ae ne ce, .slice Ab nb cb, .slice Al nl cl]] w fun x w' => x = .returned (.bool (shapeR 1 name src n cols ne nb nl)) ∧ Below w.heap.size w w' := by
  have hfin : shapeR 1 name src n cols ne nb nl = true := by
    simp [shapeR, shapeP, hcl, t0, t1, t2, t3, t4, t5, t6]
  have Hfin := Lib.hid hfin
  clear hfin
  obtain ⟨hbase, hX, Hx⟩ := shStart 1 name src n Ac Ae Ab Al nc cc ne ce nb cb nl cl w
  have HF0 := Lib.hid (fun (W : World) A m c (h : LsAt (fun _ => True) W 1 SRow A m c [name]) => free_any _ A m c _ W h)
  rw [freesB_one, t0] at HF0
  clear t0
  replace t1 := str_empty t1
  obtain rfl : nc = 0 := by simpa using t2
  clear t2
  obtain rfl : n = 0 := by simpa using t3
  clear t3
  have HW4 := Lib.hid (fun W => within_any ne 1 1 W)
  rw [t4] at HW4
  clear t4
  obtain rfl : nb = 0 := by simpa using t5
  clear t5
  obtain rfl : nl = 0 := by simpa using t6
  clear t6
  clear hcl
  go_enter Try.func71, Try.ntmps71
  go_upto_region 25 with (fail)
  simp only [List.append_eq, List.cons_append, List.nil_append]
  go_wp2_with (first | (go_at_call 88; with_reducible refine (hasT_any name _ okn).mono ?_; rintro x w10 ⟨A0, n0, c0, rfl, hl0, hb0⟩; replace hX := grow hX hb0; obtain ⟨x1, x2, x3, x4, x5, x6, x7, xl⟩ := Hx.out _ hX) | (go_at_call 9; with_reducible refine (HF0.out _ _ _ _ hl0).mono ?_; rintro x w20 ⟨rfl, hc0⟩; replace hX := grow hX hc0; obtain ⟨x1, x2, x3, x4, x5, x6, x7, xl⟩ := Hx.out _ hX) | (go_at_call 54; with_reducible refine (HW4.out _).mono ?_; rintro x w' ⟨rfl, rfl⟩) | (go_at_call 88; with_reducible refine (hasF_any src _).mono ?_; rintro x w' ⟨rfl, rfl⟩) | (go_at_call 9; with_reducible refine (freeN_any _).mono ?_; rintro x w6 ⟨rfl, hb6⟩; replace hX := grow hX hb6; obtain ⟨x1, x2, x3, x4, x5, x6, x7, xl⟩ := Hx.out _ hX))
  go_ret
  exact ⟨ret_bool Hfin.out.symm, hbase.trans (hX.mono (by simp))⟩

theorem shapeK_1 (F : Nat → Prop) (name src : ByteArray) (n : Int) (Ac Ae Ab Al : Option Addr) (nc cc ne ce nb cb nl cl : Nat) (cols : List ByteArray) (w : World) (hc : LsAt F w 1 SRow Ac nc cc cols) (okn : okS name) :
    Calls Try.prog 71 #[.agg #[.int .i64 1, .string name, .string src, .int .i64 n, .slice Ac nc cc, .slice Ae ne ce, .slice Ab nb cb, .slice Al nl cl]] w fun x w' => x = .returned (.bool (shapeR 1 name src n cols ne nb nl)) ∧ Below w.heap.size w w' := by
  have hcl := hc.len
  cases t0 : freeB name
  · exact shape_1_0 name src n Ac Ae Ab Al nc cc ne ce nb cb nl cl cols w okn hcl t0
  cases t1 : noS src
  · exact shape_1_1 name src n Ac Ae Ab Al nc cc ne ce nb cb nl cl cols w okn hcl t0 t1
  cases t2 : decide (nc = 0)
  · exact shape_1_2 name src n Ac Ae Ab Al nc cc ne ce nb cb nl cl cols w okn hcl t0 t1 t2
  cases t3 : decide (n = 0)
  · exact shape_1_3 name src n Ac Ae Ab Al nc cc ne ce nb cb nl cl cols w okn hcl t0 t1 t2 t3
  cases t4 : (decide (1 ≤ (ne : Int)) && decide ((ne : Int) ≤ 1))
  · exact shape_1_4 name src n Ac Ae Ab Al nc cc ne ce nb cb nl cl cols w okn hcl t0 t1 t2 t3 t4
  cases t5 : decide (nb = 0)
  · exact shape_1_5 name src n Ac Ae Ab Al nc cc ne ce nb cb nl cl cols w okn hcl t0 t1 t2 t3 t4 t5
  cases t6 : decide (nl = 0)
  · exact shape_1_6 name src n Ac Ae Ab Al nc cc ne ce nb cb nl cl cols w okn hcl t0 t1 t2 t3 t4 t5 t6
  exact shape_1_7 name src n Ac Ae Ab Al nc cc ne ce nb cb nl cl cols w okn hcl t0 t1 t2 t3 t4 t5 t6

set_option maxRecDepth 100000 in
set_option maxHeartbeats 4000000 in
theorem shape_2_0 (name src : ByteArray) (n : Int) (Ac Ae Ab Al : Option Addr) (nc cc ne ce nb cb nl cl : Nat) (cols : List ByteArray) (w : World) (okn : okS name) (hcl : cols.length = nc) (t0 : freeB name = false) :
    Calls Try.prog 71 #[.agg #[.int .i64 2, .string name, .string src, .int .i64 n, .slice Ac nc cc, .slice Ae ne ce, .slice Ab nb cb, .slice Al nl cl]] w fun x w' => x = .returned (.bool (shapeR 2 name src n cols ne nb nl)) ∧ Below w.heap.size w w' := by
  have hfin : shapeR 2 name src n cols ne nb nl = false := by
    simp [shapeR, shapeP, hcl, t0]
  have Hfin := Lib.hid hfin
  clear hfin
  obtain ⟨hbase, hX, Hx⟩ := shStart 2 name src n Ac Ae Ab Al nc cc ne ce nb cb nl cl w
  have HF0 := Lib.hid (fun (W : World) A m c (h : LsAt (fun _ => True) W 1 SRow A m c [name]) => free_any _ A m c _ W h)
  rw [freesB_one, t0] at HF0
  clear t0
  clear hcl
  go_enter Try.func71, Try.ntmps71
  go_upto_region 25 with (fail)
  simp only [List.append_eq, List.cons_append, List.nil_append]
  go_wp2_with (first | (go_at_call 88; with_reducible refine (hasT_any name _ okn).mono ?_; rintro x w10 ⟨A0, n0, c0, rfl, hl0, hb0⟩; replace hX := grow hX hb0; obtain ⟨x1, x2, x3, x4, x5, x6, x7, xl⟩ := Hx.out _ hX) | (go_at_call 9; with_reducible refine (HF0.out _ _ _ _ hl0).mono ?_; rintro x w20 ⟨rfl, hc0⟩; replace hX := grow hX hc0; obtain ⟨x1, x2, x3, x4, x5, x6, x7, xl⟩ := Hx.out _ hX) | (go_at_call 88; with_reducible refine (hasF_any src _).mono ?_; rintro x w' ⟨rfl, rfl⟩) | (go_at_call 9; with_reducible refine (freeN_any _).mono ?_; rintro x w6 ⟨rfl, hb6⟩; replace hX := grow hX hb6; obtain ⟨x1, x2, x3, x4, x5, x6, x7, xl⟩ := Hx.out _ hX))
  go_ret
  exact ⟨ret_bool Hfin.out.symm, hbase.trans (hX.mono (by simp))⟩

set_option maxRecDepth 100000 in
set_option maxHeartbeats 4000000 in
theorem shape_2_1 (name src : ByteArray) (n : Int) (Ac Ae Ab Al : Option Addr) (nc cc ne ce nb cb nl cl : Nat) (cols : List ByteArray) (w : World) (okn : okS name) (hcl : cols.length = nc) (t0 : freeB name = true) (t1 : noS src = false) :
    Calls Try.prog 71 #[.agg #[.int .i64 2, .string name, .string src, .int .i64 n, .slice Ac nc cc, .slice Ae ne ce, .slice Ab nb cb, .slice Al nl cl]] w fun x w' => x = .returned (.bool (shapeR 2 name src n cols ne nb nl)) ∧ Below w.heap.size w w' := by
  have hfin : shapeR 2 name src n cols ne nb nl = false := by
    simp [shapeR, shapeP, hcl, t0, t1]
  have Hfin := Lib.hid hfin
  clear hfin
  obtain ⟨hbase, hX, Hx⟩ := shStart 2 name src n Ac Ae Ab Al nc cc ne ce nb cb nl cl w
  have HF0 := Lib.hid (fun (W : World) A m c (h : LsAt (fun _ => True) W 1 SRow A m c [name]) => free_any _ A m c _ W h)
  rw [freesB_one, t0] at HF0
  clear t0
  replace t1 := str_some t1
  clear hcl
  go_enter Try.func71, Try.ntmps71
  go_upto_region 25 with (fail)
  simp only [List.append_eq, List.cons_append, List.nil_append]
  go_wp2_with (first | (go_at_call 88; with_reducible refine (hasT_any name _ okn).mono ?_; rintro x w10 ⟨A0, n0, c0, rfl, hl0, hb0⟩; replace hX := grow hX hb0; obtain ⟨x1, x2, x3, x4, x5, x6, x7, xl⟩ := Hx.out _ hX) | (go_at_call 9; with_reducible refine (HF0.out _ _ _ _ hl0).mono ?_; rintro x w20 ⟨rfl, hc0⟩; replace hX := grow hX hc0; obtain ⟨x1, x2, x3, x4, x5, x6, x7, xl⟩ := Hx.out _ hX) | (go_at_call 88; with_reducible refine (hasF_any src _).mono ?_; rintro x w' ⟨rfl, rfl⟩) | (go_at_call 9; with_reducible refine (freeN_any _).mono ?_; rintro x w6 ⟨rfl, hb6⟩; replace hX := grow hX hb6; obtain ⟨x1, x2, x3, x4, x5, x6, x7, xl⟩ := Hx.out _ hX))
  go_ret
  exact ⟨ret_bool Hfin.out.symm, hbase.trans (hX.mono (by simp))⟩

set_option maxRecDepth 100000 in
set_option maxHeartbeats 4000000 in
theorem shape_2_2 (name src : ByteArray) (n : Int) (Ac Ae Ab Al : Option Addr) (nc cc ne ce nb cb nl cl : Nat) (cols : List ByteArray) (w : World) (okn : okS name) (hcl : cols.length = nc) (t0 : freeB name = true) (t1 : noS src = true) (t2 : decide (nc = 0) = false) :
    Calls Try.prog 71 #[.agg #[.int .i64 2, .string name, .string src, .int .i64 n, .slice Ac nc cc, .slice Ae ne ce, .slice Ab nb cb, .slice Al nl cl]] w fun x w' => x = .returned (.bool (shapeR 2 name src n cols ne nb nl)) ∧ Below w.heap.size w w' := by
  have hfin : shapeR 2 name src n cols ne nb nl = false := by
    simp [shapeR, shapeP, hcl, t0, t1, t2]
  have Hfin := Lib.hid hfin
  clear hfin
  obtain ⟨hbase, hX, Hx⟩ := shStart 2 name src n Ac Ae Ab Al nc cc ne ce nb cb nl cl w
  have HF0 := Lib.hid (fun (W : World) A m c (h : LsAt (fun _ => True) W 1 SRow A m c [name]) => free_any _ A m c _ W h)
  rw [freesB_one, t0] at HF0
  clear t0
  replace t1 := str_empty t1
  replace t2 : ((nc : Int) == 0) = false := by simp at t2 ⊢; omega
  clear hcl
  go_enter Try.func71, Try.ntmps71
  go_upto_region 25 with (fail)
  simp only [List.append_eq, List.cons_append, List.nil_append]
  go_wp2_with (first | (go_at_call 88; with_reducible refine (hasT_any name _ okn).mono ?_; rintro x w10 ⟨A0, n0, c0, rfl, hl0, hb0⟩; replace hX := grow hX hb0; obtain ⟨x1, x2, x3, x4, x5, x6, x7, xl⟩ := Hx.out _ hX) | (go_at_call 9; with_reducible refine (HF0.out _ _ _ _ hl0).mono ?_; rintro x w20 ⟨rfl, hc0⟩; replace hX := grow hX hc0; obtain ⟨x1, x2, x3, x4, x5, x6, x7, xl⟩ := Hx.out _ hX) | (go_at_call 88; with_reducible refine (hasF_any src _).mono ?_; rintro x w' ⟨rfl, rfl⟩) | (go_at_call 9; with_reducible refine (freeN_any _).mono ?_; rintro x w6 ⟨rfl, hb6⟩; replace hX := grow hX hb6; obtain ⟨x1, x2, x3, x4, x5, x6, x7, xl⟩ := Hx.out _ hX))
  go_ret
  exact ⟨ret_bool Hfin.out.symm, hbase.trans (hX.mono (by simp))⟩

set_option maxRecDepth 100000 in
set_option maxHeartbeats 4000000 in
theorem shape_2_3 (name src : ByteArray) (n : Int) (Ac Ae Ab Al : Option Addr) (nc cc ne ce nb cb nl cl : Nat) (cols : List ByteArray) (w : World) (okn : okS name) (hcl : cols.length = nc) (t0 : freeB name = true) (t1 : noS src = true) (t2 : decide (nc = 0) = true) (t3 : decide (n = 0) = false) :
    Calls Try.prog 71 #[.agg #[.int .i64 2, .string name, .string src, .int .i64 n, .slice Ac nc cc, .slice Ae ne ce, .slice Ab nb cb, .slice Al nl cl]] w fun x w' => x = .returned (.bool (shapeR 2 name src n cols ne nb nl)) ∧ Below w.heap.size w w' := by
  have hfin : shapeR 2 name src n cols ne nb nl = false := by
    simp [shapeR, shapeP, hcl, t0, t1, t2, t3]
  have Hfin := Lib.hid hfin
  clear hfin
  obtain ⟨hbase, hX, Hx⟩ := shStart 2 name src n Ac Ae Ab Al nc cc ne ce nb cb nl cl w
  have HF0 := Lib.hid (fun (W : World) A m c (h : LsAt (fun _ => True) W 1 SRow A m c [name]) => free_any _ A m c _ W h)
  rw [freesB_one, t0] at HF0
  clear t0
  replace t1 := str_empty t1
  obtain rfl : nc = 0 := by simpa using t2
  clear t2
  replace t3 : (n == 0) = false := by simp at t3 ⊢; omega
  clear hcl
  go_enter Try.func71, Try.ntmps71
  go_upto_region 25 with (fail)
  simp only [List.append_eq, List.cons_append, List.nil_append]
  go_wp2_with (first | (go_at_call 88; with_reducible refine (hasT_any name _ okn).mono ?_; rintro x w10 ⟨A0, n0, c0, rfl, hl0, hb0⟩; replace hX := grow hX hb0; obtain ⟨x1, x2, x3, x4, x5, x6, x7, xl⟩ := Hx.out _ hX) | (go_at_call 9; with_reducible refine (HF0.out _ _ _ _ hl0).mono ?_; rintro x w20 ⟨rfl, hc0⟩; replace hX := grow hX hc0; obtain ⟨x1, x2, x3, x4, x5, x6, x7, xl⟩ := Hx.out _ hX) | (go_at_call 88; with_reducible refine (hasF_any src _).mono ?_; rintro x w' ⟨rfl, rfl⟩) | (go_at_call 9; with_reducible refine (freeN_any _).mono ?_; rintro x w6 ⟨rfl, hb6⟩; replace hX := grow hX hb6; obtain ⟨x1, x2, x3, x4, x5, x6, x7, xl⟩ := Hx.out _ hX))
  go_ret
  exact ⟨ret_bool Hfin.out.symm, hbase.trans (hX.mono (by simp))⟩

set_option maxRecDepth 100000 in
set_option maxHeartbeats 4000000 in
theorem shape_2_4 (name src : ByteArray) (n : Int) (Ac Ae Ab Al : Option Addr) (nc cc ne ce nb cb nl cl : Nat) (cols : List ByteArray) (w : World) (okn : okS name) (hcl : cols.length = nc) (t0 : freeB name = true) (t1 : noS src = true) (t2 : decide (nc = 0) = true) (t3 : decide (n = 0) = true) (t4 : (decide (1 ≤ (ne : Int)) && decide ((ne : Int) ≤ 1)) = false) :
    Calls Try.prog 71 #[.agg #[.int .i64 2, .string name, .string src, .int .i64 n, .slice Ac nc cc, .slice Ae ne ce, .slice Ab nb cb, .slice Al nl cl]] w fun x w' => x = .returned (.bool (shapeR 2 name src n cols ne nb nl)) ∧ Below w.heap.size w w' := by
  have hfin : shapeR 2 name src n cols ne nb nl = false := by
    simp [shapeR, shapeP, hcl, t0, t1, t2, t3, t4]
  have Hfin := Lib.hid hfin
  clear hfin
  obtain ⟨hbase, hX, Hx⟩ := shStart 2 name src n Ac Ae Ab Al nc cc ne ce nb cb nl cl w
  have HF0 := Lib.hid (fun (W : World) A m c (h : LsAt (fun _ => True) W 1 SRow A m c [name]) => free_any _ A m c _ W h)
  rw [freesB_one, t0] at HF0
  clear t0
  replace t1 := str_empty t1
  obtain rfl : nc = 0 := by simpa using t2
  clear t2
  obtain rfl : n = 0 := by simpa using t3
  clear t3
  have HW4 := Lib.hid (fun W => within_any ne 1 1 W)
  rw [t4] at HW4
  clear t4
  clear hcl
  go_enter Try.func71, Try.ntmps71
  go_upto_region 25 with (fail)
  simp only [List.append_eq, List.cons_append, List.nil_append]
  go_wp2_with (first | (go_at_call 88; with_reducible refine (hasT_any name _ okn).mono ?_; rintro x w10 ⟨A0, n0, c0, rfl, hl0, hb0⟩; replace hX := grow hX hb0; obtain ⟨x1, x2, x3, x4, x5, x6, x7, xl⟩ := Hx.out _ hX) | (go_at_call 9; with_reducible refine (HF0.out _ _ _ _ hl0).mono ?_; rintro x w20 ⟨rfl, hc0⟩; replace hX := grow hX hc0; obtain ⟨x1, x2, x3, x4, x5, x6, x7, xl⟩ := Hx.out _ hX) | (go_at_call 54; with_reducible refine (HW4.out _).mono ?_; rintro x w' ⟨rfl, rfl⟩) | (go_at_call 88; with_reducible refine (hasF_any src _).mono ?_; rintro x w' ⟨rfl, rfl⟩) | (go_at_call 9; with_reducible refine (freeN_any _).mono ?_; rintro x w6 ⟨rfl, hb6⟩; replace hX := grow hX hb6; obtain ⟨x1, x2, x3, x4, x5, x6, x7, xl⟩ := Hx.out _ hX))
  go_ret
  exact ⟨ret_bool Hfin.out.symm, hbase.trans (hX.mono (by simp))⟩

set_option maxRecDepth 100000 in
set_option maxHeartbeats 4000000 in
theorem shape_2_5 (name src : ByteArray) (n : Int) (Ac Ae Ab Al : Option Addr) (nc cc ne ce nb cb nl cl : Nat) (cols : List ByteArray) (w : World) (okn : okS name) (hcl : cols.length = nc) (t0 : freeB name = true) (t1 : noS src = true) (t2 : decide (nc = 0) = true) (t3 : decide (n = 0) = true) (t4 : (decide (1 ≤ (ne : Int)) && decide ((ne : Int) ≤ 1)) = true) (t5 : decide (nb = 0) = false) :
    Calls Try.prog 71 #[.agg #[.int .i64 2, .string name, .string src, .int .i64 n, .slice Ac nc cc, .slice Ae ne ce, .slice Ab nb cb, .slice Al nl cl]] w fun x w' => x = .returned (.bool (shapeR 2 name src n cols ne nb nl)) ∧ Below w.heap.size w w' := by
  have hfin : shapeR 2 name src n cols ne nb nl = false := by
    simp [shapeR, shapeP, hcl, t0, t1, t2, t3, t4, t5]
  have Hfin := Lib.hid hfin
  clear hfin
  obtain ⟨hbase, hX, Hx⟩ := shStart 2 name src n Ac Ae Ab Al nc cc ne ce nb cb nl cl w
  have HF0 := Lib.hid (fun (W : World) A m c (h : LsAt (fun _ => True) W 1 SRow A m c [name]) => free_any _ A m c _ W h)
  rw [freesB_one, t0] at HF0
  clear t0
  replace t1 := str_empty t1
  obtain rfl : nc = 0 := by simpa using t2
  clear t2
  obtain rfl : n = 0 := by simpa using t3
  clear t3
  have HW4 := Lib.hid (fun W => within_any ne 1 1 W)
  rw [t4] at HW4
  clear t4
  replace t5 : ((nb : Int) == 0) = false := by simp at t5 ⊢; omega
  clear hcl
  go_enter Try.func71, Try.ntmps71
  go_upto_region 25 with (fail)
  simp only [List.append_eq, List.cons_append, List.nil_append]
  go_wp2_with (first | (go_at_call 88; with_reducible refine (hasT_any name _ okn).mono ?_; rintro x w10 ⟨A0, n0, c0, rfl, hl0, hb0⟩; replace hX := grow hX hb0; obtain ⟨x1, x2, x3, x4, x5, x6, x7, xl⟩ := Hx.out _ hX) | (go_at_call 9; with_reducible refine (HF0.out _ _ _ _ hl0).mono ?_; rintro x w20 ⟨rfl, hc0⟩; replace hX := grow hX hc0; obtain ⟨x1, x2, x3, x4, x5, x6, x7, xl⟩ := Hx.out _ hX) | (go_at_call 54; with_reducible refine (HW4.out _).mono ?_; rintro x w' ⟨rfl, rfl⟩) | (go_at_call 88; with_reducible refine (hasF_any src _).mono ?_; rintro x w' ⟨rfl, rfl⟩) | (go_at_call 9; with_reducible refine (freeN_any _).mono ?_; rintro x w6 ⟨rfl, hb6⟩; replace hX := grow hX hb6; obtain ⟨x1, x2, x3, x4, x5, x6, x7, xl⟩ := Hx.out _ hX))
  go_ret
  exact ⟨ret_bool Hfin.out.symm, hbase.trans (hX.mono (by simp))⟩

set_option maxRecDepth 100000 in
set_option maxHeartbeats 4000000 in
theorem shape_2_6 (name src : ByteArray) (n : Int) (Ac Ae Ab Al : Option Addr) (nc cc ne ce nb cb nl cl : Nat) (cols : List ByteArray) (w : World) (okn : okS name) (hcl : cols.length = nc) (t0 : freeB name = true) (t1 : noS src = true) (t2 : decide (nc = 0) = true) (t3 : decide (n = 0) = true) (t4 : (decide (1 ≤ (ne : Int)) && decide ((ne : Int) ≤ 1)) = true) (t5 : decide (nb = 0) = true) (t6 : decide (nl = 0) = false) :
    Calls Try.prog 71 #[.agg #[.int .i64 2, .string name, .string src, .int .i64 n, .slice Ac nc cc, .slice Ae ne ce, .slice Ab nb cb, .slice Al nl cl]] w fun x w' => x = .returned (.bool (shapeR 2 name src n cols ne nb nl)) ∧ Below w.heap.size w w' := by
  have hfin : shapeR 2 name src n cols ne nb nl = false := by
    simp [shapeR, shapeP, hcl, t0, t1, t2, t3, t4, t5, t6]
  have Hfin := Lib.hid hfin
  clear hfin
  obtain ⟨hbase, hX, Hx⟩ := shStart 2 name src n Ac Ae Ab Al nc cc ne ce nb cb nl cl w
  have HF0 := Lib.hid (fun (W : World) A m c (h : LsAt (fun _ => True) W 1 SRow A m c [name]) => free_any _ A m c _ W h)
  rw [freesB_one, t0] at HF0
  clear t0
  replace t1 := str_empty t1
  obtain rfl : nc = 0 := by simpa using t2
  clear t2
  obtain rfl : n = 0 := by simpa using t3
  clear t3
  have HW4 := Lib.hid (fun W => within_any ne 1 1 W)
  rw [t4] at HW4
  clear t4
  obtain rfl : nb = 0 := by simpa using t5
  clear t5
  replace t6 : ((nl : Int) == 0) = false := by simp at t6 ⊢; omega
  clear hcl
  go_enter Try.func71, Try.ntmps71
  go_upto_region 25 with (fail)
  simp only [List.append_eq, List.cons_append, List.nil_append]
  go_wp2_with (first | (go_at_call 88; with_reducible refine (hasT_any name _ okn).mono ?_; rintro x w10 ⟨A0, n0, c0, rfl, hl0, hb0⟩; replace hX := grow hX hb0; obtain ⟨x1, x2, x3, x4, x5, x6, x7, xl⟩ := Hx.out _ hX) | (go_at_call 9; with_reducible refine (HF0.out _ _ _ _ hl0).mono ?_; rintro x w20 ⟨rfl, hc0⟩; replace hX := grow hX hc0; obtain ⟨x1, x2, x3, x4, x5, x6, x7, xl⟩ := Hx.out _ hX) | (go_at_call 54; with_reducible refine (HW4.out _).mono ?_; rintro x w' ⟨rfl, rfl⟩) | (go_at_call 88; with_reducible refine (hasF_any src _).mono ?_; rintro x w' ⟨rfl, rfl⟩) | (go_at_call 9; with_reducible refine (freeN_any _).mono ?_; rintro x w6 ⟨rfl, hb6⟩; replace hX := grow hX hb6; obtain ⟨x1, x2, x3, x4, x5, x6, x7, xl⟩ := Hx.out _ hX))
  go_ret
  exact ⟨ret_bool Hfin.out.symm, hbase.trans (hX.mono (by simp))⟩

set_option maxRecDepth 100000 in
set_option maxHeartbeats 4000000 in
theorem shape_2_7 (name src : ByteArray) (n : Int) (Ac Ae Ab Al : Option Addr) (nc cc ne ce nb cb nl cl : Nat) (cols : List ByteArray) (w : World) (okn : okS name) (hcl : cols.length = nc) (t0 : freeB name = true) (t1 : noS src = true) (t2 : decide (nc = 0) = true) (t3 : decide (n = 0) = true) (t4 : (decide (1 ≤ (ne : Int)) && decide ((ne : Int) ≤ 1)) = true) (t5 : decide (nb = 0) = true) (t6 : decide (nl = 0) = true) :
    Calls Try.prog 71 #[.agg #[.int .i64 2, .string name, .string src, .int .i64 n, .slice Ac nc cc, .slice Ae ne ce, .slice Ab nb cb, .slice Al nl cl]] w fun x w' => x = .returned (.bool (shapeR 2 name src n cols ne nb nl)) ∧ Below w.heap.size w w' := by
  have hfin : shapeR 2 name src n cols ne nb nl = true := by
    simp [shapeR, shapeP, hcl, t0, t1, t2, t3, t4, t5, t6]
  have Hfin := Lib.hid hfin
  clear hfin
  obtain ⟨hbase, hX, Hx⟩ := shStart 2 name src n Ac Ae Ab Al nc cc ne ce nb cb nl cl w
  have HF0 := Lib.hid (fun (W : World) A m c (h : LsAt (fun _ => True) W 1 SRow A m c [name]) => free_any _ A m c _ W h)
  rw [freesB_one, t0] at HF0
  clear t0
  replace t1 := str_empty t1
  obtain rfl : nc = 0 := by simpa using t2
  clear t2
  obtain rfl : n = 0 := by simpa using t3
  clear t3
  have HW4 := Lib.hid (fun W => within_any ne 1 1 W)
  rw [t4] at HW4
  clear t4
  obtain rfl : nb = 0 := by simpa using t5
  clear t5
  obtain rfl : nl = 0 := by simpa using t6
  clear t6
  clear hcl
  go_enter Try.func71, Try.ntmps71
  go_upto_region 25 with (fail)
  simp only [List.append_eq, List.cons_append, List.nil_append]
  go_wp2_with (first | (go_at_call 88; with_reducible refine (hasT_any name _ okn).mono ?_; rintro x w10 ⟨A0, n0, c0, rfl, hl0, hb0⟩; replace hX := grow hX hb0; obtain ⟨x1, x2, x3, x4, x5, x6, x7, xl⟩ := Hx.out _ hX) | (go_at_call 9; with_reducible refine (HF0.out _ _ _ _ hl0).mono ?_; rintro x w20 ⟨rfl, hc0⟩; replace hX := grow hX hc0; obtain ⟨x1, x2, x3, x4, x5, x6, x7, xl⟩ := Hx.out _ hX) | (go_at_call 54; with_reducible refine (HW4.out _).mono ?_; rintro x w' ⟨rfl, rfl⟩) | (go_at_call 88; with_reducible refine (hasF_any src _).mono ?_; rintro x w' ⟨rfl, rfl⟩) | (go_at_call 9; with_reducible refine (freeN_any _).mono ?_; rintro x w6 ⟨rfl, hb6⟩; replace hX := grow hX hb6; obtain ⟨x1, x2, x3, x4, x5, x6, x7, xl⟩ := Hx.out _ hX))
  go_ret
  exact ⟨ret_bool Hfin.out.symm, hbase.trans (hX.mono (by simp))⟩

theorem shapeK_2 (F : Nat → Prop) (name src : ByteArray) (n : Int) (Ac Ae Ab Al : Option Addr) (nc cc ne ce nb cb nl cl : Nat) (cols : List ByteArray) (w : World) (hc : LsAt F w 1 SRow Ac nc cc cols) (okn : okS name) :
    Calls Try.prog 71 #[.agg #[.int .i64 2, .string name, .string src, .int .i64 n, .slice Ac nc cc, .slice Ae ne ce, .slice Ab nb cb, .slice Al nl cl]] w fun x w' => x = .returned (.bool (shapeR 2 name src n cols ne nb nl)) ∧ Below w.heap.size w w' := by
  have hcl := hc.len
  cases t0 : freeB name
  · exact shape_2_0 name src n Ac Ae Ab Al nc cc ne ce nb cb nl cl cols w okn hcl t0
  cases t1 : noS src
  · exact shape_2_1 name src n Ac Ae Ab Al nc cc ne ce nb cb nl cl cols w okn hcl t0 t1
  cases t2 : decide (nc = 0)
  · exact shape_2_2 name src n Ac Ae Ab Al nc cc ne ce nb cb nl cl cols w okn hcl t0 t1 t2
  cases t3 : decide (n = 0)
  · exact shape_2_3 name src n Ac Ae Ab Al nc cc ne ce nb cb nl cl cols w okn hcl t0 t1 t2 t3
  cases t4 : (decide (1 ≤ (ne : Int)) && decide ((ne : Int) ≤ 1))
  · exact shape_2_4 name src n Ac Ae Ab Al nc cc ne ce nb cb nl cl cols w okn hcl t0 t1 t2 t3 t4
  cases t5 : decide (nb = 0)
  · exact shape_2_5 name src n Ac Ae Ab Al nc cc ne ce nb cb nl cl cols w okn hcl t0 t1 t2 t3 t4 t5
  cases t6 : decide (nl = 0)
  · exact shape_2_6 name src n Ac Ae Ab Al nc cc ne ce nb cb nl cl cols w okn hcl t0 t1 t2 t3 t4 t5 t6
  exact shape_2_7 name src n Ac Ae Ab Al nc cc ne ce nb cb nl cl cols w okn hcl t0 t1 t2 t3 t4 t5 t6

set_option maxRecDepth 100000 in
set_option maxHeartbeats 4000000 in
theorem shape_5_0 (name src : ByteArray) (n : Int) (Ac Ae Ab Al : Option Addr) (nc cc ne ce nb cb nl cl : Nat) (cols : List ByteArray) (w : World) (okn : okS name) (hcl : cols.length = nc) (t0 : freeB name = false) :
    Calls Try.prog 71 #[.agg #[.int .i64 5, .string name, .string src, .int .i64 n, .slice Ac nc cc, .slice Ae ne ce, .slice Ab nb cb, .slice Al nl cl]] w fun x w' => x = .returned (.bool (shapeR 5 name src n cols ne nb nl)) ∧ Below w.heap.size w w' := by
  have hfin : shapeR 5 name src n cols ne nb nl = false := by
    simp [shapeR, shapeP, hcl, t0]
  have Hfin := Lib.hid hfin
  clear hfin
  obtain ⟨hbase, hX, Hx⟩ := shStart 5 name src n Ac Ae Ab Al nc cc ne ce nb cb nl cl w
  have HF0 := Lib.hid (fun (W : World) A m c (h : LsAt (fun _ => True) W 1 SRow A m c [name]) => free_any _ A m c _ W h)
  rw [freesB_one, t0] at HF0
  clear t0
  clear hcl
  go_enter Try.func71, Try.ntmps71
  go_upto_region 25 with (fail)
  simp only [List.append_eq, List.cons_append, List.nil_append]
  go_wp2_with (first | (go_at_call 88; with_reducible refine (hasT_any name _ okn).mono ?_; rintro x w10 ⟨A0, n0, c0, rfl, hl0, hb0⟩; replace hX := grow hX hb0; obtain ⟨x1, x2, x3, x4, x5, x6, x7, xl⟩ := Hx.out _ hX) | (go_at_call 9; with_reducible refine (HF0.out _ _ _ _ hl0).mono ?_; rintro x w20 ⟨rfl, hc0⟩; replace hX := grow hX hc0; obtain ⟨x1, x2, x3, x4, x5, x6, x7, xl⟩ := Hx.out _ hX))
  go_ret
  exact ⟨ret_bool Hfin.out.symm, hbase.trans (hX.mono (by simp))⟩

set_option maxRecDepth 100000 in
set_option maxHeartbeats 4000000 in
theorem shape_5_1 (name src : ByteArray) (n : Int) (Ac Ae Ab Al : Option Addr) (nc cc ne ce nb cb nl cl : Nat) (cols : List ByteArray) (w : World) (okn : okS name) (oks : okS src) (hcl : cols.length = nc) (t0 : freeB name = true) (t1 : freeB src = false) :
    Calls Try.prog 71 #[.agg #[.int .i64 5, .string name, .string src, .int .i64 n, .slice Ac nc cc, .slice Ae ne ce, .slice Ab nb cb, .slice Al nl cl]] w fun x w' => x = .returned (.bool (shapeR 5 name src n cols ne nb nl)) ∧ Below w.heap.size w w' := by
  have hfin : shapeR 5 name src n cols ne nb nl = false := by
    simp [shapeR, shapeP, hcl, t0, t1]
  have Hfin := Lib.hid hfin
  clear hfin
  obtain ⟨hbase, hX, Hx⟩ := shStart 5 name src n Ac Ae Ab Al nc cc ne ce nb cb nl cl w
  have HF0 := Lib.hid (fun (W : World) A m c (h : LsAt (fun _ => True) W 1 SRow A m c [name]) => free_any _ A m c _ W h)
  rw [freesB_one, t0] at HF0
  clear t0
  have HF1 := Lib.hid (fun (W : World) A m c (h : LsAt (fun _ => True) W 1 SRow A m c [src]) => free_any _ A m c _ W h)
  rw [freesB_one, t1] at HF1
  clear t1
  clear hcl
  go_enter Try.func71, Try.ntmps71
  go_upto_region 25 with (fail)
  simp only [List.append_eq, List.cons_append, List.nil_append]
  go_wp2_with (first | (go_at_call 88; with_reducible refine (hasT_any name _ okn).mono ?_; rintro x w10 ⟨A0, n0, c0, rfl, hl0, hb0⟩; replace hX := grow hX hb0; obtain ⟨x1, x2, x3, x4, x5, x6, x7, xl⟩ := Hx.out _ hX) | (go_at_call 9; with_reducible refine (HF0.out _ _ _ _ hl0).mono ?_; rintro x w20 ⟨rfl, hc0⟩; replace hX := grow hX hc0; obtain ⟨x1, x2, x3, x4, x5, x6, x7, xl⟩ := Hx.out _ hX) | (go_at_call 88; with_reducible refine (hasT_any src _ oks).mono ?_; rintro x w11 ⟨A1, n1, c1, rfl, hl1, hb1⟩; replace hX := grow hX hb1; obtain ⟨x1, x2, x3, x4, x5, x6, x7, xl⟩ := Hx.out _ hX) | (go_at_call 9; with_reducible refine (HF1.out _ _ _ _ hl1).mono ?_; rintro x w21 ⟨rfl, hc1⟩; replace hX := grow hX hc1; obtain ⟨x1, x2, x3, x4, x5, x6, x7, xl⟩ := Hx.out _ hX))
  go_ret
  exact ⟨ret_bool Hfin.out.symm, hbase.trans (hX.mono (by simp))⟩

set_option maxRecDepth 100000 in
set_option maxHeartbeats 4000000 in
theorem shape_5_2 (name src : ByteArray) (n : Int) (Ac Ae Ab Al : Option Addr) (nc cc ne ce nb cb nl cl : Nat) (cols : List ByteArray) (w : World) (okn : okS name) (oks : okS src) (hcl : cols.length = nc) (t0 : freeB name = true) (t1 : freeB src = true) (t2 : decide (nc = 0) = false) :
    Calls Try.prog 71 #[.agg #[.int .i64 5, .string name, .string src, .int .i64 n, .slice Ac nc cc, .slice Ae ne ce, .slice Ab nb cb, .slice Al nl cl]] w fun x w' => x = .returned (.bool (shapeR 5 name src n cols ne nb nl)) ∧ Below w.heap.size w w' := by
  have hfin : shapeR 5 name src n cols ne nb nl = false := by
    simp [shapeR, shapeP, hcl, t0, t1, t2]
  have Hfin := Lib.hid hfin
  clear hfin
  obtain ⟨hbase, hX, Hx⟩ := shStart 5 name src n Ac Ae Ab Al nc cc ne ce nb cb nl cl w
  have HF0 := Lib.hid (fun (W : World) A m c (h : LsAt (fun _ => True) W 1 SRow A m c [name]) => free_any _ A m c _ W h)
  rw [freesB_one, t0] at HF0
  clear t0
  have HF1 := Lib.hid (fun (W : World) A m c (h : LsAt (fun _ => True) W 1 SRow A m c [src]) => free_any _ A m c _ W h)
  rw [freesB_one, t1] at HF1
  clear t1
  replace t2 : ((nc : Int) == 0) = false := by simp at t2 ⊢; omega
  clear hcl
  go_enter Try.func71, Try.ntmps71
  go_upto_region 25 with (fail)
  simp only [List.append_eq, List.cons_append, List.nil_append]
  go_wp2_with (first | (go_at_call 88; with_reducible refine (hasT_any name _ okn).mono ?_; rintro x w10 ⟨A0, n0, c0, rfl, hl0, hb0⟩; replace hX := grow hX hb0; obtain ⟨x1, x2, x3, x4, x5, x6, x7, xl⟩ := Hx.out _ hX) | (go_at_call 9; with_reducible refine (HF0.out _ _ _ _ hl0).mono ?_; rintro x w20 ⟨rfl, hc0⟩; replace hX := grow hX hc0; obtain ⟨x1, x2, x3, x4, x5, x6, x7, xl⟩ := Hx.out _ hX) | (go_at_call 88; with_reducible refine (hasT_any src _ oks).mono ?_; rintro x w11 ⟨A1, n1, c1, rfl, hl1, hb1⟩; replace hX := grow hX hb1; obtain ⟨x1, x2, x3, x4, x5, x6, x7, xl⟩ := Hx.out _ hX) | (go_at_call 9; with_reducible refine (HF1.out _ _ _ _ hl1).mono ?_; rintro x w21 ⟨rfl, hc1⟩; replace hX := grow hX hc1; obtain ⟨x1, x2, x3, x4, x5, x6, x7, xl⟩ := Hx.out _ hX))
  go_ret
  exact ⟨ret_bool Hfin.out.symm, hbase.trans (hX.mono (by simp))⟩

set_option maxRecDepth 100000 in
set_option maxHeartbeats 4000000 in
theorem shape_5_3 (name src : ByteArray) (n : Int) (Ac Ae Ab Al : Option Addr) (nc cc ne ce nb cb nl cl : Nat) (cols : List ByteArray) (w : World) (okn : okS name) (oks : okS src) (hcl : cols.length = nc) (t0 : freeB name = true) (t1 : freeB src = true) (t2 : decide (nc = 0) = true) (t3 : decide (n = 0) = false) :
    Calls Try.prog 71 #[.agg #[.int .i64 5, .string name, .string src, .int .i64 n, .slice Ac nc cc, .slice Ae ne ce, .slice Ab nb cb, .slice Al nl cl]] w fun x w' => x = .returned (.bool (shapeR 5 name src n cols ne nb nl)) ∧ Below w.heap.size w w' := by
  have hfin : shapeR 5 name src n cols ne nb nl = false := by
    simp [shapeR, shapeP, hcl, t0, t1, t2, t3]
  have Hfin := Lib.hid hfin
  clear hfin
  obtain ⟨hbase, hX, Hx⟩ := shStart 5 name src n Ac Ae Ab Al nc cc ne ce nb cb nl cl w
  have HF0 := Lib.hid (fun (W : World) A m c (h : LsAt (fun _ => True) W 1 SRow A m c [name]) => free_any _ A m c _ W h)
  rw [freesB_one, t0] at HF0
  clear t0
  have HF1 := Lib.hid (fun (W : World) A m c (h : LsAt (fun _ => True) W 1 SRow A m c [src]) => free_any _ A m c _ W h)
  rw [freesB_one, t1] at HF1
  clear t1
  obtain rfl : nc = 0 := by simpa using t2
  clear t2
  replace t3 : (n == 0) = false := by simp at t3 ⊢; omega
  clear hcl
  go_enter Try.func71, Try.ntmps71
  go_upto_region 25 with (fail)
  simp only [List.append_eq, List.cons_append, List.nil_append]
  go_wp2_with (first | (go_at_call 88; with_reducible refine (hasT_any name _ okn).mono ?_; rintro x w10 ⟨A0, n0, c0, rfl, hl0, hb0⟩; replace hX := grow hX hb0; obtain ⟨x1, x2, x3, x4, x5, x6, x7, xl⟩ := Hx.out _ hX) | (go_at_call 9; with_reducible refine (HF0.out _ _ _ _ hl0).mono ?_; rintro x w20 ⟨rfl, hc0⟩; replace hX := grow hX hc0; obtain ⟨x1, x2, x3, x4, x5, x6, x7, xl⟩ := Hx.out _ hX) | (go_at_call 88; with_reducible refine (hasT_any src _ oks).mono ?_; rintro x w11 ⟨A1, n1, c1, rfl, hl1, hb1⟩; replace hX := grow hX hb1; obtain ⟨x1, x2, x3, x4, x5, x6, x7, xl⟩ := Hx.out _ hX) | (go_at_call 9; with_reducible refine (HF1.out _ _ _ _ hl1).mono ?_; rintro x w21 ⟨rfl, hc1⟩; replace hX := grow hX hc1; obtain ⟨x1, x2, x3, x4, x5, x6, x7, xl⟩ := Hx.out _ hX))
  go_ret
  exact ⟨ret_bool Hfin.out.symm, hbase.trans (hX.mono (by simp))⟩

set_option maxRecDepth 100000 in
set_option maxHeartbeats 4000000 in
theorem shape_5_4 (name src : ByteArray) (n : Int) (Ac Ae Ab Al : Option Addr) (nc cc ne ce nb cb nl cl : Nat) (cols : List ByteArray) (w : World) (okn : okS name) (oks : okS src) (hcl : cols.length = nc) (t0 : freeB name = true) (t1 : freeB src = true) (t2 : decide (nc = 0) = true) (t3 : decide (n = 0) = true) (t4 : (decide (1 ≤ (ne : Int)) && decide ((ne : Int) ≤ 1)) = false) :
    Calls Try.prog 71 #[.agg #[.int .i64 5, .string name, .string src, .int .i64 n, .slice Ac nc cc, .slice Ae ne ce, .slice Ab nb cb, .slice Al nl cl]] w fun x w' => x = .returned (.bool (shapeR 5 name src n cols ne nb nl)) ∧ Below w.heap.size w w' := by
  have hfin : shapeR 5 name src n cols ne nb nl = false := by
    simp [shapeR, shapeP, hcl, t0, t1, t2, t3, t4]
  have Hfin := Lib.hid hfin
  clear hfin
  obtain ⟨hbase, hX, Hx⟩ := shStart 5 name src n Ac Ae Ab Al nc cc ne ce nb cb nl cl w
  have HF0 := Lib.hid (fun (W : World) A m c (h : LsAt (fun _ => True) W 1 SRow A m c [name]) => free_any _ A m c _ W h)
  rw [freesB_one, t0] at HF0
  clear t0
  have HF1 := Lib.hid (fun (W : World) A m c (h : LsAt (fun _ => True) W 1 SRow A m c [src]) => free_any _ A m c _ W h)
  rw [freesB_one, t1] at HF1
  clear t1
  obtain rfl : nc = 0 := by simpa using t2
  clear t2
  obtain rfl : n = 0 := by simpa using t3
  clear t3
  have HW4 := Lib.hid (fun W => within_any ne 1 1 W)
  rw [t4] at HW4
  clear t4
  clear hcl
  go_enter Try.func71, Try.ntmps71
  go_upto_region 25 with (fail)
  simp only [List.append_eq, List.cons_append, List.nil_append]
  go_wp2_with (first | (go_at_call 88; with_reducible refine (hasT_any name _ okn).mono ?_; rintro x w10 ⟨A0, n0, c0, rfl, hl0, hb0⟩; replace hX := grow hX hb0; obtain ⟨x1, x2, x3, x4, x5, x6, x7, xl⟩ := Hx.out _ hX) | (go_at_call 9; with_reducible refine (HF0.out _ _ _ _ hl0).mono ?_; rintro x w20 ⟨rfl, hc0⟩; replace hX := grow hX hc0; obtain ⟨x1, x2, x3, x4, x5, x6, x7, xl⟩ := Hx.out _ hX) | (go_at_call 88; with_reducible refine (hasT_any src _ oks).mono ?_; rintro x w11 ⟨A1, n1, c1, rfl, hl1, hb1⟩; replace hX := grow hX hb1; obtain ⟨x1, x2, x3, x4, x5, x6, x7, xl⟩ := Hx.out _ hX) | (go_at_call 9; with_reducible refine (HF1.out _ _ _ _ hl1).mono ?_; rintro x w21 ⟨rfl, hc1⟩; replace hX := grow hX hc1; obtain ⟨x1, x2, x3, x4, x5, x6, x7, xl⟩ := Hx.out _ hX) | (go_at_call 54; with_reducible refine (HW4.out _).mono ?_; rintro x w' ⟨rfl, rfl⟩))
  go_ret
  exact ⟨ret_bool Hfin.out.symm, hbase.trans (hX.mono (by simp))⟩

set_option maxRecDepth 100000 in
set_option maxHeartbeats 4000000 in
theorem shape_5_5 (name src : ByteArray) (n : Int) (Ac Ae Ab Al : Option Addr) (nc cc ne ce nb cb nl cl : Nat) (cols : List ByteArray) (w : World) (okn : okS name) (oks : okS src) (hcl : cols.length = nc) (t0 : freeB name = true) (t1 : freeB src = true) (t2 : decide (nc = 0) = true) (t3 : decide (n = 0) = true) (t4 : (decide (1 ≤ (ne : Int)) && decide ((ne : Int) ≤ 1)) = true) (t5 : decide (nb = 0) = false) :
    Calls Try.prog 71 #[.agg #[.int .i64 5, .string name, .string src, .int .i64 n, .slice Ac nc cc, .slice Ae ne ce, .slice Ab nb cb, .slice Al nl cl]] w fun x w' => x = .returned (.bool (shapeR 5 name src n cols ne nb nl)) ∧ Below w.heap.size w w' := by
  have hfin : shapeR 5 name src n cols ne nb nl = false := by
    simp [shapeR, shapeP, hcl, t0, t1, t2, t3, t4, t5]
  have Hfin := Lib.hid hfin
  clear hfin
  obtain ⟨hbase, hX, Hx⟩ := shStart 5 name src n Ac Ae Ab Al nc cc ne ce nb cb nl cl w
  have HF0 := Lib.hid (fun (W : World) A m c (h : LsAt (fun _ => True) W 1 SRow A m c [name]) => free_any _ A m c _ W h)
  rw [freesB_one, t0] at HF0
  clear t0
  have HF1 := Lib.hid (fun (W : World) A m c (h : LsAt (fun _ => True) W 1 SRow A m c [src]) => free_any _ A m c _ W h)
  rw [freesB_one, t1] at HF1
  clear t1
  obtain rfl : nc = 0 := by simpa using t2
  clear t2
  obtain rfl : n = 0 := by simpa using t3
  clear t3
  have HW4 := Lib.hid (fun W => within_any ne 1 1 W)
  rw [t4] at HW4
  clear t4
  replace t5 : ((nb : Int) == 0) = false := by simp at t5 ⊢; omega
  clear hcl
  go_enter Try.func71, Try.ntmps71
  go_upto_region 25 with (fail)
  simp only [List.append_eq, List.cons_append, List.nil_append]
  go_wp2_with (first | (go_at_call 88; with_reducible refine (hasT_any name _ okn).mono ?_; rintro x w10 ⟨A0, n0, c0, rfl, hl0, hb0⟩; replace hX := grow hX hb0; obtain ⟨x1, x2, x3, x4, x5, x6, x7, xl⟩ := Hx.out _ hX) | (go_at_call 9; with_reducible refine (HF0.out _ _ _ _ hl0).mono ?_; rintro x w20 ⟨rfl, hc0⟩; replace hX := grow hX hc0; obtain ⟨x1, x2, x3, x4, x5, x6, x7, xl⟩ := Hx.out _ hX) | (go_at_call 88; with_reducible refine (hasT_any src _ oks).mono ?_; rintro x w11 ⟨A1, n1, c1, rfl, hl1, hb1⟩; replace hX := grow hX hb1; obtain ⟨x1, x2, x3, x4, x5, x6, x7, xl⟩ := Hx.out _ hX) | (go_at_call 9; with_reducible refine (HF1.out _ _ _ _ hl1).mono ?_; rintro x w21 ⟨rfl, hc1⟩; replace hX := grow hX hc1; obtain ⟨x1, x2, x3, x4, x5, x6, x7, xl⟩ := Hx.out _ hX) | (go_at_call 54; with_reducible refine (HW4.out _).mono ?_; rintro x w' ⟨rfl, rfl⟩))
  go_ret
  exact ⟨ret_bool Hfin.out.symm, hbase.trans (hX.mono (by simp))⟩

set_option maxRecDepth 100000 in
set_option maxHeartbeats 4000000 in
theorem shape_5_6 (name src : ByteArray) (n : Int) (Ac Ae Ab Al : Option Addr) (nc cc ne ce nb cb nl cl : Nat) (cols : List ByteArray) (w : World) (okn : okS name) (oks : okS src) (hcl : cols.length = nc) (t0 : freeB name = true) (t1 : freeB src = true) (t2 : decide (nc = 0) = true) (t3 : decide (n = 0) = true) (t4 : (decide (1 ≤ (ne : Int)) && decide ((ne : Int) ≤ 1)) = true) (t5 : decide (nb = 0) = true) (t6 : decide (nl = 0) = false) :
    Calls Try.prog 71 #[.agg #[.int .i64 5, .string name, .string src, .int .i64 n, .slice Ac nc cc, .slice Ae ne ce, .slice Ab nb cb, .slice Al nl cl]] w fun x w' => x = .returned (.bool (shapeR 5 name src n cols ne nb nl)) ∧ Below w.heap.size w w' := by
  have hfin : shapeR 5 name src n cols ne nb nl = false := by
    simp [shapeR, shapeP, hcl, t0, t1, t2, t3, t4, t5, t6]
  have Hfin := Lib.hid hfin
  clear hfin
  obtain ⟨hbase, hX, Hx⟩ := shStart 5 name src n Ac Ae Ab Al nc cc ne ce nb cb nl cl w
  have HF0 := Lib.hid (fun (W : World) A m c (h : LsAt (fun _ => True) W 1 SRow A m c [name]) => free_any _ A m c _ W h)
  rw [freesB_one, t0] at HF0
  clear t0
  have HF1 := Lib.hid (fun (W : World) A m c (h : LsAt (fun _ => True) W 1 SRow A m c [src]) => free_any _ A m c _ W h)
  rw [freesB_one, t1] at HF1
  clear t1
  obtain rfl : nc = 0 := by simpa using t2
  clear t2
  obtain rfl : n = 0 := by simpa using t3
  clear t3
  have HW4 := Lib.hid (fun W => within_any ne 1 1 W)
  rw [t4] at HW4
  clear t4
  obtain rfl : nb = 0 := by simpa using t5
  clear t5
  replace t6 : ((nl : Int) == 0) = false := by simp at t6 ⊢; omega
  clear hcl
  go_enter Try.func71, Try.ntmps71
  go_upto_region 25 with (fail)
  simp only [List.append_eq, List.cons_append, List.nil_append]
  go_wp2_with (first | (go_at_call 88; with_reducible refine (hasT_any name _ okn).mono ?_; rintro x w10 ⟨A0, n0, c0, rfl, hl0, hb0⟩; replace hX := grow hX hb0; obtain ⟨x1, x2, x3, x4, x5, x6, x7, xl⟩ := Hx.out _ hX) | (go_at_call 9; with_reducible refine (HF0.out _ _ _ _ hl0).mono ?_; rintro x w20 ⟨rfl, hc0⟩; replace hX := grow hX hc0; obtain ⟨x1, x2, x3, x4, x5, x6, x7, xl⟩ := Hx.out _ hX) | (go_at_call 88; with_reducible refine (hasT_any src _ oks).mono ?_; rintro x w11 ⟨A1, n1, c1, rfl, hl1, hb1⟩; replace hX := grow hX hb1; obtain ⟨x1, x2, x3, x4, x5, x6, x7, xl⟩ := Hx.out _ hX) | (go_at_call 9; with_reducible refine (HF1.out _ _ _ _ hl1).mono ?_; rintro x w21 ⟨rfl, hc1⟩; replace hX := grow hX hc1; obtain ⟨x1, x2, x3, x4, x5, x6, x7, xl⟩ := Hx.out _ hX) | (go_at_call 54; with_reducible refine (HW4.out _).mono ?_; rintro x w' ⟨rfl, rfl⟩))
  go_ret
  exact ⟨ret_bool Hfin.out.symm, hbase.trans (hX.mono (by simp))⟩

set_option maxRecDepth 100000 in
set_option maxHeartbeats 4000000 in
theorem shape_5_7 (name src : ByteArray) (n : Int) (Ac Ae Ab Al : Option Addr) (nc cc ne ce nb cb nl cl : Nat) (cols : List ByteArray) (w : World) (okn : okS name) (oks : okS src) (hcl : cols.length = nc) (t0 : freeB name = true) (t1 : freeB src = true) (t2 : decide (nc = 0) = true) (t3 : decide (n = 0) = true) (t4 : (decide (1 ≤ (ne : Int)) && decide ((ne : Int) ≤ 1)) = true) (t5 : decide (nb = 0) = true) (t6 : decide (nl = 0) = true) :
    Calls Try.prog 71 #[.agg #[.int .i64 5, .string name, .string src, .int .i64 n, .slice Ac nc cc, .slice Ae ne ce, .slice Ab nb cb, .slice Al nl cl]] w fun x w' => x = .returned (.bool (shapeR 5 name src n cols ne nb nl)) ∧ Below w.heap.size w w' := by
  have hfin : shapeR 5 name src n cols ne nb nl = true := by
    simp [shapeR, shapeP, hcl, t0, t1, t2, t3, t4, t5, t6]
  have Hfin := Lib.hid hfin
  clear hfin
  obtain ⟨hbase, hX, Hx⟩ := shStart 5 name src n Ac Ae Ab Al nc cc ne ce nb cb nl cl w
  have HF0 := Lib.hid (fun (W : World) A m c (h : LsAt (fun _ => True) W 1 SRow A m c [name]) => free_any _ A m c _ W h)
  rw [freesB_one, t0] at HF0
  clear t0
  have HF1 := Lib.hid (fun (W : World) A m c (h : LsAt (fun _ => True) W 1 SRow A m c [src]) => free_any _ A m c _ W h)
  rw [freesB_one, t1] at HF1
  clear t1
  obtain rfl : nc = 0 := by simpa using t2
  clear t2
  obtain rfl : n = 0 := by simpa using t3
  clear t3
  have HW4 := Lib.hid (fun W => within_any ne 1 1 W)
  rw [t4] at HW4
  clear t4
  obtain rfl : nb = 0 := by simpa using t5
  clear t5
  obtain rfl : nl = 0 := by simpa using t6
  clear t6
  clear hcl
  go_enter Try.func71, Try.ntmps71
  go_upto_region 25 with (fail)
  simp only [List.append_eq, List.cons_append, List.nil_append]
  go_wp2_with (first | (go_at_call 88; with_reducible refine (hasT_any name _ okn).mono ?_; rintro x w10 ⟨A0, n0, c0, rfl, hl0, hb0⟩; replace hX := grow hX hb0; obtain ⟨x1, x2, x3, x4, x5, x6, x7, xl⟩ := Hx.out _ hX) | (go_at_call 9; with_reducible refine (HF0.out _ _ _ _ hl0).mono ?_; rintro x w20 ⟨rfl, hc0⟩; replace hX := grow hX hc0; obtain ⟨x1, x2, x3, x4, x5, x6, x7, xl⟩ := Hx.out _ hX) | (go_at_call 88; with_reducible refine (hasT_any src _ oks).mono ?_; rintro x w11 ⟨A1, n1, c1, rfl, hl1, hb1⟩; replace hX := grow hX hb1; obtain ⟨x1, x2, x3, x4, x5, x6, x7, xl⟩ := Hx.out _ hX) | (go_at_call 9; with_reducible refine (HF1.out _ _ _ _ hl1).mono ?_; rintro x w21 ⟨rfl, hc1⟩; replace hX := grow hX hc1; obtain ⟨x1, x2, x3, x4, x5, x6, x7, xl⟩ := Hx.out _ hX) | (go_at_call 54; with_reducible refine (HW4.out _).mono ?_; rintro x w' ⟨rfl, rfl⟩))
  go_ret
  exact ⟨ret_bool Hfin.out.symm, hbase.trans (hX.mono (by simp))⟩

theorem shapeK_5 (F : Nat → Prop) (name src : ByteArray) (n : Int) (Ac Ae Ab Al : Option Addr) (nc cc ne ce nb cb nl cl : Nat) (cols : List ByteArray) (w : World) (hc : LsAt F w 1 SRow Ac nc cc cols) (okn : okS name) (oks : okS src) :
    Calls Try.prog 71 #[.agg #[.int .i64 5, .string name, .string src, .int .i64 n, .slice Ac nc cc, .slice Ae ne ce, .slice Ab nb cb, .slice Al nl cl]] w fun x w' => x = .returned (.bool (shapeR 5 name src n cols ne nb nl)) ∧ Below w.heap.size w w' := by
  have hcl := hc.len
  cases t0 : freeB name
  · exact shape_5_0 name src n Ac Ae Ab Al nc cc ne ce nb cb nl cl cols w okn hcl t0
  cases t1 : freeB src
  · exact shape_5_1 name src n Ac Ae Ab Al nc cc ne ce nb cb nl cl cols w okn oks hcl t0 t1
  cases t2 : decide (nc = 0)
  · exact shape_5_2 name src n Ac Ae Ab Al nc cc ne ce nb cb nl cl cols w okn oks hcl t0 t1 t2
  cases t3 : decide (n = 0)
  · exact shape_5_3 name src n Ac Ae Ab Al nc cc ne ce nb cb nl cl cols w okn oks hcl t0 t1 t2 t3
  cases t4 : (decide (1 ≤ (ne : Int)) && decide ((ne : Int) ≤ 1))
  · exact shape_5_4 name src n Ac Ae Ab Al nc cc ne ce nb cb nl cl cols w okn oks hcl t0 t1 t2 t3 t4
  cases t5 : decide (nb = 0)
  · exact shape_5_5 name src n Ac Ae Ab Al nc cc ne ce nb cb nl cl cols w okn oks hcl t0 t1 t2 t3 t4 t5
  cases t6 : decide (nl = 0)
  · exact shape_5_6 name src n Ac Ae Ab Al nc cc ne ce nb cb nl cl cols w okn oks hcl t0 t1 t2 t3 t4 t5 t6
  exact shape_5_7 name src n Ac Ae Ab Al nc cc ne ce nb cb nl cl cols w okn oks hcl t0 t1 t2 t3 t4 t5 t6
end Go.Proofs.Ytgihhkfppnhdpaa

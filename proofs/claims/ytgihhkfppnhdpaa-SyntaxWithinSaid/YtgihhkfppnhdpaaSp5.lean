/- Parts of this proof, one behind the other: SynJ2. -/
import Derived.Test.YtgihhkfppnhdpaaSp3
import Derived.Deep.Cut
namespace Go.Proofs.Ytgihhkfppnhdpaa
open Go.RowKit Go.Afx

set_option maxRecDepth 100000 in
set_option maxHeartbeats 4000000 in
theorem shape_3_0 (name src : ByteArray) (n : Int) (Ac Ae Ab Al : Option Addr) (nc cc ne ce nb cb nl cl : Nat) (cols : List ByteArray) (w : World) (oks : okS src) (hcl : cols.length = nc) (t0 : freeB src = false) :
    Calls Try.prog 71 #[.agg #[.int .i64 3, .string name, .string src, .int .i64 n, .slice Ac nc cc, .slice Ae ne ce, .slice Ab nb cb, .slice Al nl cl]] w fun x w' => x = .returned (.bool (shapeR 3 name src n cols ne nb nl)) ∧ Below w.heap.size w w' := by
  have hfin : shapeR 3 name src n cols ne nb nl = false := by
    simp [shapeR, shapeP, hcl, t0]
  have Hfin := Lib.hid hfin
  clear hfin
  obtain ⟨hbase, hX, Hx⟩ := shStart 3 name src n Ac Ae Ab Al nc cc ne ce nb cb nl cl w
  have HF0 := Lib.hid (fun (W : World) A m c (h : LsAt (fun _ => True) W 1 SRow A m c [src]) => free_any _ A m c _ W h)
  rw [freesB_one, t0] at HF0
  clear t0
  clear hcl
  go_enter Try.func71, Try.ntmps71
  go_upto_region 25 with (fail)
  simp only [List.append_eq, List.cons_append, List.nil_append]
  go_wp2_with (first | (go_at_call 88; with_reducible refine (hasT_any src _ oks).mono ?_; rintro x w10 ⟨A0, n0, c0, rfl, hl0, hb0⟩; replace hX := grow hX hb0; obtain ⟨x1, x2, x3, x4, x5, x6, x7, xl⟩ := Hx.out _ hX) | (go_at_call 9; with_reducible refine (HF0.out _ _ _ _ hl0).mono ?_; rintro x w20 ⟨rfl, hc0⟩; replace hX := grow hX hc0; obtain ⟨x1, x2, x3, x4, x5, x6, x7, xl⟩ := Hx.out _ hX) | (go_at_call 88; with_reducible refine (hasF_any name _).mono ?_; rintro x w' ⟨rfl, rfl⟩) | (go_at_call 9; with_reducible refine (freeN_any _).mono ?_; rintro x w6 ⟨rfl, hb6⟩; replace hX := grow hX hb6; obtain ⟨x1, x2, x3, x4, x5, x6, x7, xl⟩ := Hx.out _ hX))
  go_ret
  exact ⟨ret_bool Hfin.out.symm, hbase.trans (hX.mono (by simp))⟩

set_option maxRecDepth 100000 in
set_option maxHeartbeats 4000000 in
theorem shape_3_1 (name src : ByteArray) (n : Int) (Ac Ae Ab Al : Option Addr) (nc cc ne ce nb cb nl cl : Nat) (cols : List ByteArray) (w : World) (oks : okS src) (hcl : cols.length = nc) (t0 : freeB src = true) (t1 : noS name = false) :
    Calls Try.prog 71 #[.agg #[.int .i64 3, .string name, .string src, .int .i64 n, .slice Ac nc cc, .slice Ae ne ce, .slice Ab nb cb, .slice Al nl cl]] w fun x w' => x = .returned (.bool (shapeR 3 name src n cols ne nb nl)) ∧ Below w.heap.size w w' := by
  have hfin : shapeR 3 name src n cols ne nb nl = false := by
    simp [shapeR, shapeP, hcl, t0, t1]
  have Hfin := Lib.hid hfin
  clear hfin
  obtain ⟨hbase, hX, Hx⟩ := shStart 3 name src n Ac Ae Ab Al nc cc ne ce nb cb nl cl w
  have HF0 := Lib.hid (fun (W : World) A m c (h : LsAt (fun _ => True) W 1 SRow A m c [src]) => free_any _ A m c _ W h)
  rw [freesB_one, t0] at HF0
  clear t0
  replace t1 := str_some t1
  clear hcl
  go_enter Try.func71, Try.ntmps71
  go_upto_region 25 with (fail)
  simp only [List.append_eq, List.cons_append, List.nil_append]
  go_wp2_with (first | (go_at_call 88; with_reducible refine (hasT_any src _ oks).mono ?_; rintro x w10 ⟨A0, n0, c0, rfl, hl0, hb0⟩; replace hX := grow hX hb0; obtain ⟨x1, x2, x3, x4, x5, x6, x7, xl⟩ := Hx.out _ hX) | (go_at_call 9; with_reducible refine (HF0.out _ _ _ _ hl0).mono ?_; rintro x w20 ⟨rfl, hc0⟩; replace hX := grow hX hc0; obtain ⟨x1, x2, x3, x4, x5, x6, x7, xl⟩ := Hx.out _ hX) | (go_at_call 88; with_reducible refine (hasF_any name _).mono ?_; rintro x w' ⟨rfl, rfl⟩) | (go_at_call 9; with_reducible refine (freeN_any _).mono ?_; rintro x w6 ⟨rfl, hb6⟩; replace hX := grow hX hb6; obtain ⟨x1, x2, x3, x4, x5, x6, x7, xl⟩ := Hx.out _ hX))
  go_ret
  exact ⟨ret_bool Hfin.out.symm, hbase.trans (hX.mono (by simp))⟩

set_option maxRecDepth 100000 in
set_option maxHeartbeats 4000000 in
theorem shape_3_2 (name src : ByteArray) (n : Int) (Ac Ae Ab Al : Option Addr) (nc cc ne ce nb cb nl cl : Nat) (cols : List ByteArray) (w : World) (oks : okS src) (hcl : cols.length = nc) (t0 : freeB src = true) (t1 : noS name = true) (t2 : decide (nc = 0) = false) :
    Calls Try.prog 71 #[.agg #[.int .i64 3, .string name, .string src, .int .i64 n, .slice Ac nc cc, .slice Ae ne ce, .slice Ab nb cb, .slice Al nl cl]] w fun x w' => x = .returned (.bool (shapeR 3 name src n cols ne nb nl)) ∧ Below w.heap.size w w' := by
  have hfin : shapeR 3 name src n cols ne nb nl = false := by
    simp [shapeR, shapeP, hcl, t0, t1, t2]
  have Hfin := Lib.hid hfin
  clear hfin
  obtain ⟨hbase, hX, Hx⟩ := shStart 3 name src n Ac Ae Ab Al nc cc ne ce nb cb nl cl w
  have HF0 := Lib.hid (fun (W : World) A m c (h : LsAt (fun _ => True) W 1 SRow A m c [src]) => free_any _ A m c _ W h)
  rw [freesB_one, t0] at HF0
  clear t0
  replace t1 := str_empty t1
  replace t2 : ((nc : Int) == 0) = false := by simp at t2 ⊢; omega
  clear hcl
  go_enter Try.func71, Try.ntmps71
  go_upto_region 25 with (fail)
  simp only [List.append_eq, List.cons_append, List.nil_append]
  go_wp2_with (first | (go_at_call 88; with_reducible refine (hasT_any src _ oks).mono ?_; rintro x w10 ⟨A0, n0, c0, rfl, hl0, hb0⟩; replace hX := grow hX hb0; obtain ⟨x1, x2, x3, x4, x5, x6, x7, xl⟩ := Hx.out _ hX) | (go_at_call 9; with_reducible refine (HF0.out _ _ _ _ hl0).mono ?_; rintro x w20 ⟨rfl, hc0⟩; replace hX := grow hX hc0; obtain ⟨x1, x2, x3, x4, x5, x6, x7, xl⟩ := Hx.out _ hX) | (go_at_call 88; with_reducible refine (hasF_any name _).mono ?_; rintro x w' ⟨rfl, rfl⟩) | (go_at_call 9; with_reducible refine (freeN_any _).mono ?_; rintro x w6 ⟨rfl, hb6⟩; replace hX := grow hX hb6; obtain ⟨x1, x2, x3, x4, x5, x6, x7, xl⟩ := Hx.out _ hX))
  go_ret
  exact ⟨ret_bool Hfin.out.symm, hbase.trans (hX.mono (by simp))⟩

set_option maxRecDepth 100000 in
set_option maxHeartbeats 4000000 in
theorem shape_3_3 (name src : ByteArray) (n : Int) (Ac Ae Ab Al : Option Addr) (nc cc ne ce nb cb nl cl : Nat) (cols : List ByteArray) (w : World) (oks : okS src) (hcl : cols.length = nc) (t0 : freeB src = true) (t1 : noS name = true) (t2 : decide (nc = 0) = true) (t3 : decide (n = 0) = false) :
    Calls Try.prog 71 #[.agg #[.int .i64 3, .string name, .string src, .int .i64 n, .slice Ac nc cc, .slice Ae ne ce, .slice Ab nb cb, .slice Al nl cl]] w fun x w' => x = .returned (.bool (shapeR 3 name src n cols ne nb nl)) ∧ Below w.heap.size w w' := by
  have hfin : shapeR 3 name src n cols ne nb nl = false := by
    simp [shapeR, shapeP, hcl, t0, t1, t2, t3]
  have Hfin := Lib.hid hfin
  clear hfin
  obtain ⟨hbase, hX, Hx⟩ := shStart 3 name src n Ac Ae Ab Al nc cc ne ce nb cb nl cl w
  have HF0 := Lib.hid (fun (W : World) A m c (h : LsAt (fun _ => True) W 1 SRow A m c [src]) => free_any _ A m c _ W h)
  rw [freesB_one, t0] at HF0
  clear t0
  replace t1 := str_empty t1
  obtain rfl : nc = 0 := by simpa using t2
  clear t2
  replace t3 : (n == 0) = false := by simp at t3 ⊢; omega
  clear hcl
  go_enter Try.func71, Try.ntmps71
  go_upto_region 25 with (fail)
  simp only [List.append_eq, List.cons_append, List.nil_append]
  go_wp2_with (first | (go_at_call 88; with_reducible refine (hasT_any src _ oks).mono ?_; rintro x w10 ⟨A0, n0, c0, rfl, hl0, hb0⟩; replace hX := grow hX hb0; obtain ⟨x1, x2, x3, x4, x5, x6, x7, xl⟩ := Hx.out _ hX) | (go_at_call 9; with_reducible refine (HF0.out _ _ _ _ hl0).mono ?_; rintro x w20 ⟨rfl, hc0⟩; replace hX := grow hX hc0; obtain ⟨x1, x2, x3, x4, x5, x6, x7, xl⟩ := Hx.out _ hX) | (go_at_call 88; with_reducible refine (hasF_any name _).mono ?_; rintro x w' ⟨rfl, rfl⟩) | (go_at_call 9; with_reducible refine (freeN_any _).mono ?_; rintro x w6 ⟨rfl, hb6⟩; replace hX := grow hX hb6; obtain ⟨x1, x2, x3, x4, x5, x6, x7, xl⟩ := Hx.out _ hX))
  go_ret
  exact ⟨ret_bool Hfin.out.symm, hbase.trans (hX.mono (by simp))⟩

set_option maxRecDepth 100000 in
set_option maxHeartbeats 4000000 in
theorem shape_3_4 (name src : ByteArray) (n : Int) (Ac Ae Ab Al : Option Addr) (nc cc ne ce nb cb nl cl : Nat) (cols : List ByteArray) (w : World) (oks : okS src) (hcl : cols.length = nc) (t0 : freeB src = true) (t1 : noS name = true) (t2 : decide (nc = 0) = true) (t3 : decide (n = 0) = true) (t4 : (decide (1 ≤ (ne : Int)) && decide ((ne : Int) ≤ 8)) = false) :
    Calls Try.prog 71 #[.agg #[.int .i64 3, .string name, .string src, .int .i64 n, .slice Ac nc cc, .slice Ae ne ce, .slice Ab nb cb, .slice Al nl cl]] w fun x w' => x = .returned (.bool (shapeR 3 name src n cols ne nb nl)) ∧ Below w.heap.size w w' := by
  have hfin : shapeR 3 name src n cols ne nb nl = false := by
    simp [shapeR, shapeP, hcl, t0, t1, t2, t3, t4]
  have Hfin := Lib.hid hfin
  clear hfin
  obtain ⟨hbase, hX, Hx⟩ := shStart 3 name src n Ac Ae Ab Al nc cc ne ce nb cb nl cl w
  have HF0 := Lib.hid (fun (W : World) A m c (h : LsAt (fun _ => True) W 1 SRow A m c [src]) => free_any _ A m c _ W h)
  rw [freesB_one, t0] at HF0
  clear t0
  replace t1 := str_empty t1
  obtain rfl : nc = 0 := by simpa using t2
  clear t2
  obtain rfl : n = 0 := by simpa using t3
  clear t3
  have HW4 := Lib.hid (fun W => within_any ne 1 8 W)
  rw [t4] at HW4
  clear t4
  clear hcl
  go_enter Try.func71, Try.ntmps71
  go_upto_region 25 with (fail)
  simp only [List.append_eq, List.cons_append, List.nil_append]
  go_wp2_with (first | (go_at_call 88; with_reducible refine (hasT_any src _ oks).mono ?_; rintro x w10 ⟨A0, n0, c0, rfl, hl0, hb0⟩; replace hX := grow hX hb0; obtain ⟨x1, x2, x3, x4, x5, x6, x7, xl⟩ := Hx.out _ hX) | (go_at_call 9; with_reducible refine (HF0.out _ _ _ _ hl0).mono ?_; rintro x w20 ⟨rfl, hc0⟩; replace hX := grow hX hc0; obtain ⟨x1, x2, x3, x4, x5, x6, x7, xl⟩ := Hx.out _ hX) | (go_at_call 54; with_reducible refine (HW4.out _).mono ?_; rintro x w' ⟨rfl, rfl⟩) | (go_at_call 88; with_reducible refine (hasF_any name _).mono ?_; rintro x w' ⟨rfl, rfl⟩) | (go_at_call 9; with_reducible refine (freeN_any _).mono ?_; rintro x w6 ⟨rfl, hb6⟩; replace hX := grow hX hb6; obtain ⟨x1, x2, x3, x4, x5, x6, x7, xl⟩ := Hx.out _ hX))
  go_ret
  exact ⟨ret_bool Hfin.out.symm, hbase.trans (hX.mono (by simp))⟩

set_option maxRecDepth 100000 in
set_option maxHeartbeats 4000000 in
theorem shape_3_5 (name src : ByteArray) (n : Int) (Ac Ae Ab Al : Option Addr) (nc cc ne ce nb cb nl cl : Nat) (cols : List ByteArray) (w : World) (oks : okS src) (hcl : cols.length = nc) (t0 : freeB src = true) (t1 : noS name = true) (t2 : decide (nc = 0) = true) (t3 : decide (n = 0) = true) (t4 : (decide (1 ≤ (ne : Int)) && decide ((ne : Int) ≤ 8)) = true) (t5 : decide (nb = 0) = false) :
    Calls Try.prog 71 #[.agg #[.int .i64 3, .string name, .string src, .int .i64 n, .slice Ac nc cc, .slice Ae ne ce, .slice Ab nb cb, .slice Al nl cl]] w fun x w' => x = .returned (.bool (shapeR 3 name src n cols ne nb nl)) ∧ Below w.heap.size w w' := by
  have hfin : shapeR 3 name src n cols ne nb nl = false := by
    simp [shapeR, shapeP, hcl, t0, t1, t2, t3, t4, t5]
  have Hfin := Lib.hid hfin
  clear hfin
  obtain ⟨hbase, hX, Hx⟩ := shStart 3 name src n Ac Ae Ab Al nc cc ne ce nb cb nl cl w
  have HF0 := Lib.hid (fun (W : World) A m c (h : LsAt (fun _ => True) W 1 SRow A m c [src]) => free_any _ A m c _ W h)
  rw [freesB_one, t0] at HF0
  clear t0
  replace t1 := str_empty t1
  obtain rfl : nc = 0 := by simpa using t2
  clear t2
  obtain rfl : n = 0 := by simpa using t3
  clear t3
  have HW4 := Lib.hid (fun W => within_any ne 1 8 W)
  rw [t4] at HW4
  clear t4
  replace t5 : ((nb : Int) == 0) = false := by simp at t5 ⊢; omega
  clear hcl
  go_enter Try.func71, Try.ntmps71
  go_upto_region 25 with (fail)
  simp only [List.append_eq, List.cons_append, List.nil_append]
  go_wp2_with (first | (go_at_call 88; with_reducible refine (hasT_any src _ oks).mono ?_; rintro x w10 ⟨A0, n0, c0, rfl, hl0, hb0⟩; replace hX := grow hX hb0; obtain ⟨x1, x2, x3, x4, x5, x6, x7, xl⟩ := Hx.out _ hX) | (go_at_call 9; with_reducible refine (HF0.out _ _ _ _ hl0).mono ?_; rintro x w20 ⟨rfl, hc0⟩; replace hX := grow hX hc0; obtain ⟨x1, x2, x3, x4, x5, x6, x7, xl⟩ := Hx.out _ hX) | (go_at_call 54; with_reducible refine (HW4.out _).mono ?_; rintro x w' ⟨rfl, rfl⟩) | (go_at_call 88; with_reducible refine (hasF_any name _).mono ?_; rintro x w' ⟨rfl, rfl⟩) | (go_at_call 9; with_reducible refine (freeN_any _).mono ?_; rintro x w6 ⟨rfl, hb6⟩; replace hX := grow hX hb6; obtain ⟨x1, x2, x3, x4, x5, x6, x7, xl⟩ := Hx.out _ hX))
  go_ret
  exact ⟨ret_bool Hfin.out.symm, hbase.trans (hX.mono (by simp))⟩

set_option maxRecDepth 100000 in
set_option maxHeartbeats 4000000 in
theorem shape_3_6 (name src : ByteArray) (n : Int) (Ac Ae Ab Al : Option Addr) (nc cc ne ce nb cb nl cl : Nat) (cols : List ByteArray) (w : World) (oks : okS src) (hcl : cols.length = nc) (t0 : freeB src = true) (t1 : noS name = true) (t2 : decide (nc = 0) = true) (t3 : decide (n = 0) = true) (t4 : (decide (1 ≤ (ne : Int)) && decide ((ne : Int) ≤ 8)) = true) (t5 : decide (nb = 0) = true) (t6 : decide (nl = 0) = false) :
    Calls Try.prog 71 #[.agg #[.int .i64 3, .string name, .string src, .int .i64 n, .slice Ac nc cc, .slice Ae ne ce, .slice Ab nb cb, .slice Al nl cl]] w fun x w' => x = .returned (.bool (shapeR 3 name src n cols ne nb nl)) ∧ Below w.heap.size w w' := by
  have hfin : shapeR 3 name src n cols ne nb nl = false := by
    simp [shapeR, shapeP, hcl, t0, t1, t2, t3, t4, t5, t6]
  have Hfin := Lib.hid hfin
  clear hfin
  obtain ⟨hbase, hX, Hx⟩ := shStart 3 name src n Ac Ae Ab Al nc cc ne ce nb cb nl cl w
  have HF0 := Lib.hid (fun (W : World) A m c (h : LsAt (fun _ => True) W 1 SRow A m c [src]) => free_any _ A m c _ W h)
  rw [freesB_one, t0] at HF0
  clear t0
  replace t1 := str_empty t1
  obtain rfl : nc = 0 := by simpa using t2
  clear t2
  obtain rfl : n = 0 := by simpa using t3
  clear t3
  have HW4 := Lib.hid (fun W => within_any ne 1 8 W)
  rw [t4] at HW4
  clear t4
  obtain rfl : nb = 0 := by simpa using t5
  clear t5
  replace t6 : ((nl : Int) == 0) = false := by simp at t6 ⊢; omega
  clear hcl
  go_enter Try.func71, Try.ntmps71
  go_upto_region 25 with (fail)
  simp only [List.append_eq, List.cons_append, List.nil_append]
  go_wp2_with (first | (go_at_call 88; with_reducible refine (hasT_any src _ oks).mono ?_; rintro x w10 ⟨A0, n0, c0, rfl, hl0, hb0⟩; replace hX := grow hX hb0; obtain ⟨x1, x2, x3, x4, x5, x6, x7, xl⟩ := Hx.out _ hX) | (go_at_call 9; with_reducible refine (HF0.out _ _ _ _ hl0).mono ?_; rintro x w20 ⟨rfl, hc0⟩; replace hX := grow hX hc0; obtain ⟨x1, x2, x3, x4, x5, x6, x7, xl⟩ := Hx.out _ hX) | (go_at_call 54; with_reducible refine (HW4.out _).mono ?_; rintro x w' ⟨rfl, rfl⟩) | (go_at_call 88; with_reducible refine (hasF_any name _).mono ?_; rintro x w' ⟨rfl, rfl⟩) | (go_at_call 9; with_reducible refine (freeN_any _).mono ?_; rintro x w6 ⟨rfl, hb6⟩; replace hX := grow hX hb6; obtain ⟨x1, x2, x3, x4, x5, x6, x7, xl⟩ := Hx.out _ hX))
  go_ret
  exact ⟨ret_bool Hfin.out.symm, hbase.trans (hX.mono (by simp))⟩

set_option maxRecDepth 100000 in
set_option maxHeartbeats 4000000 in
theorem shape_3_7 (name src : ByteArray) (n : Int) (Ac Ae Ab Al : Option Addr) (nc cc ne ce nb cb nl cl : Nat) (cols : List ByteArray) (w : World) (oks : okS src) (hcl : cols.length = nc) (t0 : freeB src = true) (t1 : noS name = true) (t2 : decide (nc = 0) = true) (t3 : decide (n = 0) = true) (t4 : (decide (1 ≤ (ne : Int)) && decide ((ne : Int) ≤ 8)) = true) (t5 : decide (nb = 0) = true) (t6 : decide (nl = 0) = true) :
    Calls Try.prog 71 #[.agg #[.int .i64 3, .string name, .string src, .int .i64 n, .slice Ac nc cc, .slice Ae ne ce, .slice Ab nb cb, .slice Al nl cl]] w fun x w' => x = .returned (.bool (shapeR 3 name src n cols ne nb nl)) ∧ Below w.heap.size w w' := by
  have hfin : shapeR 3 name src n cols ne nb nl = true := by
    simp [shapeR, shapeP, hcl, t0, t1, t2, t3, t4, t5, t6]
  have Hfin := Lib.hid hfin
  clear hfin
  obtain ⟨hbase, hX, Hx⟩ := shStart 3 name src n Ac Ae Ab Al nc cc ne ce nb cb nl cl w
  have HF0 := Lib.hid (fun (W : World) A m c (h : LsAt (fun _ => True) W 1 SRow A m c [src]) => free_any _ A m c _ W h)
  rw [freesB_one, t0] at HF0
  clear t0
  replace t1 := str_empty t1
  obtain rfl : nc = 0 := by simpa using t2
  clear t2
  obtain rfl : n = 0 := by simpa using t3
  clear t3
  have HW4 := Lib.hid (fun W => within_any ne 1 8 W)
  rw [t4] at HW4
  clear t4
  obtain rfl : nb = 0 := by simpa using t5
  clear t5
  obtain rfl : nl = 0 := by simpa using t6
  clear t6
  clear hcl
  go_enter Try.func71, Try.ntmps71
  go_upto_region 25 with (fail)
  simp only [List.append_eq, List.cons_append, List.nil_append]
  go_wp2_with (first | (go_at_call 88; with_reducible refine (hasT_any src _ oks).mono ?_; rintro x w10 ⟨A0, n0, c0, rfl, hl0, hb0⟩; replace hX := grow hX hb0; obtain ⟨x1, x2, x3, x4, x5, x6, x7, xl⟩ := Hx.out _ hX) | (go_at_call 9; with_reducible refine (HF0.out _ _ _ _ hl0).mono ?_; rintro x w20 ⟨rfl, hc0⟩; replace hX := grow hX hc0; obtain ⟨x1, x2, x3, x4, x5, x6, x7, xl⟩ := Hx.out _ hX) | (go_at_call 54; with_reducible refine (HW4.out _).mono ?_; rintro x w' ⟨rfl, rfl⟩) | (go_at_call 88; with_reducible refine (hasF_any name _).mono ?_; rintro x w' ⟨rfl, rfl⟩) | (go_at_call 9; with_reducible refine (freeN_any _).mono ?_; rintro x w6 ⟨rfl, hb6⟩; replace hX := grow hX hb6; obtain ⟨x1, x2, x3, x4, x5, x6, x7, xl⟩ := Hx.out _ hX))
  go_ret
  exact ⟨ret_bool Hfin.out.symm, hbase.trans (hX.mono (by simp))⟩

theorem shapeK_3 (F : Nat → Prop) (name src : ByteArray) (n : Int) (Ac Ae Ab Al : Option Addr) (nc cc ne ce nb cb nl cl : Nat) (cols : List ByteArray) (w : World) (hc : LsAt F w 1 SRow Ac nc cc cols) (oks : okS src) :
    Calls Try.prog 71 #[.agg #[.int .i64 3, .string name, .string src, .int .i64 n, .slice Ac nc cc, .slice Ae ne ce, .slice Ab nb cb, .slice Al nl cl]] w fun x w' => x = .returned (.bool (shapeR 3 name src n cols ne nb nl)) ∧ Below w.heap.size w w' := by
  have hcl := hc.len
  cases t0 : freeB src
  · exact shape_3_0 name src n Ac Ae Ab Al nc cc ne ce nb cb nl cl cols w oks hcl t0
  cases t1 : noS name
  · exact shape_3_1 name src n Ac Ae Ab Al nc cc ne ce nb cb nl cl cols w oks hcl t0 t1
  cases t2 : decide (nc = 0)
  · exact shape_3_2 name src n Ac Ae Ab Al nc cc ne ce nb cb nl cl cols w oks hcl t0 t1 t2
  cases t3 : decide (n = 0)
  · exact shape_3_3 name src n Ac Ae Ab Al nc cc ne ce nb cb nl cl cols w oks hcl t0 t1 t2 t3
  cases t4 : (decide (1 ≤ (ne : Int)) && decide ((ne : Int) ≤ 8))
  · exact shape_3_4 name src n Ac Ae Ab Al nc cc ne ce nb cb nl cl cols w oks hcl t0 t1 t2 t3 t4
  cases t5 : decide (nb = 0)
  · exact shape_3_5 name src n Ac Ae Ab Al nc cc ne ce nb cb nl cl cols w oks hcl t0 t1 t2 t3 t4 t5
  cases t6 : decide (nl = 0)
  · exact shape_3_6 name src n Ac Ae Ab Al nc cc ne ce nb cb nl cl cols w oks hcl t0 t1 t2 t3 t4 t5 t6
  exact shape_3_7 name src n Ac Ae Ab Al nc cc ne ce nb cb nl cl cols w oks hcl t0 t1 t2 t3 t4 t5 t6

set_option maxRecDepth 100000 in
set_option maxHeartbeats 4000000 in
theorem shape_8_0 (name src : ByteArray) (n : Int) (Ac Ae Ab Al : Option Addr) (nc cc ne ce nb cb nl cl : Nat) (cols : List ByteArray) (w : World) (oks : okS src) (hcl : cols.length = nc) (t0 : freeB src = false) :
    Calls Try.prog 71 #[.agg #[.int .i64 8, .string name, .string src, .int .i64 n, .slice Ac nc cc, .slice Ae ne ce, .slice Ab nb cb, .slice Al nl cl]] w fun x w' => x = .returned (.bool (shapeR 8 name src n cols ne nb nl)) ∧ Below w.heap.size w w' := by
  have hfin : shapeR 8 name src n cols ne nb nl = false := by
    simp [shapeR, shapeP, hcl, t0]
  have Hfin := Lib.hid hfin
  clear hfin
  obtain ⟨hbase, hX, Hx⟩ := shStart 8 name src n Ac Ae Ab Al nc cc ne ce nb cb nl cl w
  have HF0 := Lib.hid (fun (W : World) A m c (h : LsAt (fun _ => True) W 1 SRow A m c [src]) => free_any _ A m c _ W h)
  rw [freesB_one, t0] at HF0
  clear t0
  clear hcl
  go_enter Try.func71, Try.ntmps71
  go_upto_region 25 with (fail)
  simp only [List.append_eq, List.cons_append, List.nil_append]
  go_wp2_with (first | (go_at_call 88; with_reducible refine (hasT_any src _ oks).mono ?_; rintro x w10 ⟨A0, n0, c0, rfl, hl0, hb0⟩; replace hX := grow hX hb0; obtain ⟨x1, x2, x3, x4, x5, x6, x7, xl⟩ := Hx.out _ hX) | (go_at_call 9; with_reducible refine (HF0.out _ _ _ _ hl0).mono ?_; rintro x w20 ⟨rfl, hc0⟩; replace hX := grow hX hc0; obtain ⟨x1, x2, x3, x4, x5, x6, x7, xl⟩ := Hx.out _ hX) | (go_at_call 88; with_reducible refine (hasF_any name _).mono ?_; rintro x w' ⟨rfl, rfl⟩) | (go_at_call 9; with_reducible refine (freeN_any _).mono ?_; rintro x w6 ⟨rfl, hb6⟩; replace hX := grow hX hb6; obtain ⟨x1, x2, x3, x4, x5, x6, x7, xl⟩ := Hx.out _ hX))
  go_ret
  exact ⟨ret_bool Hfin.out.symm, hbase.trans (hX.mono (by simp))⟩

set_option maxRecDepth 100000 in
set_option maxHeartbeats 4000000 in
theorem shape_8_1 (name src : ByteArray) (n : Int) (Ac Ae Ab Al : Option Addr) (nc cc ne ce nb cb nl cl : Nat) (cols : List ByteArray) (w : World) (oks : okS src) (hcl : cols.length = nc) (t0 : freeB src = true) (t1 : noS name = false) :
    Calls Try.prog 71 #[.agg #[.int .i64 8, .string name, .string src, .int .i64 n, .slice Ac nc cc, .slice Ae ne ce, .slice Ab nb cb, .slice Al nl cl]] w fun x w' => x = .returned (.bool (shapeR 8 name src n cols ne nb nl)) ∧ Below w.heap.size w w' := by
  have hfin : shapeR 8 name src n cols ne nb nl = false := by
    simp [shapeR, shapeP, hcl, t0, t1]
  have Hfin := Lib.hid hfin
  clear hfin
  obtain ⟨hbase, hX, Hx⟩ := shStart 8 name src n Ac Ae Ab Al nc cc ne ce nb cb nl cl w
  have HF0 := Lib.hid (fun (W : World) A m c (h : LsAt (fun _ => True) W 1 SRow A m c [src]) => free_any _ A m c _ W h)
  rw [freesB_one, t0] at HF0
  clear t0
  replace t1 := str_some t1
  clear hcl
  go_enter Try.func71, Try.ntmps71
  go_upto_region 25 with (fail)
  simp only [List.append_eq, List.cons_append, List.nil_append]
  go_wp2_with (first | (go_at_call 88; with_reducible refine (hasT_any src _ oks).mono ?_; rintro x w10 ⟨A0, n0, c0, rfl, hl0, hb0⟩; replace hX := grow hX hb0; obtain ⟨x1, x2, x3, x4, x5, x6, x7, xl⟩ := Hx.out _ hX) | (go_at_call 9; with_reducible refine (HF0.out _ _ _ _ hl0).mono ?_; rintro x w20 ⟨rfl, hc0⟩; replace hX := grow hX hc0; obtain ⟨x1, x2, x3, x4, x5, x6, x7, xl⟩ := Hx.out _ hX) | (go_at_call 88; with_reducible refine (hasF_any name _).mono ?_; rintro x w' ⟨rfl, rfl⟩) | (go_at_call 9; with_reducible refine (freeN_any _).mono ?_; rintro x w6 ⟨rfl, hb6⟩; replace hX := grow hX hb6; obtain ⟨x1, x2, x3, x4, x5, x6, x7, xl⟩ := Hx.out _ hX))
  go_ret
  exact ⟨ret_bool Hfin.out.symm, hbase.trans (hX.mono (by simp))⟩

set_option maxRecDepth 100000 in
set_option maxHeartbeats 4000000 in
theorem shape_8_2 (name src : ByteArray) (n : Int) (Ac Ae Ab Al : Option Addr) (nc cc ne ce nb cb nl cl : Nat) (cols : List ByteArray) (w : World) (oks : okS src) (hcl : cols.length = nc) (t0 : freeB src = true) (t1 : noS name = true) (t2 : decide (nc = 0) = false) :
    Calls Try.prog 71 #[.agg #[.int .i64 8, .string name, .string src, .int .i64 n, .slice Ac nc cc, .slice Ae ne ce, .slice Ab nb cb, .slice Al nl cl]] w fun x w' => x = .returned (.bool (shapeR 8 name src n cols ne nb nl)) ∧ Below w.heap.size w w' := by
  have hfin : shapeR 8 name src n cols ne nb nl = false := by
    simp [shapeR, shapeP, hcl, t0, t1, t2]
  have Hfin := Lib.hid hfin
  clear hfin
  obtain ⟨hbase, hX, Hx⟩ := shStart 8 name src n Ac Ae Ab Al nc cc ne ce nb cb nl cl w
  have HF0 := Lib.hid (fun (W : World) A m c (h : LsAt (fun _ => True) W 1 SRow A m c [src]) => free_any _ A m c _ W h)
  rw [freesB_one, t0] at HF0
  clear t0
  replace t1 := str_empty t1
  replace t2 : ((nc : Int) == 0) = false := by simp at t2 ⊢; omega
  clear hcl
  go_enter Try.func71, Try.ntmps71
  go_upto_region 25 with (fail)
  simp only [List.append_eq, List.cons_append, List.nil_append]
  go_wp2_with (first | (go_at_call 88; with_reducible refine (hasT_any src _ oks).mono ?_; rintro x w10 ⟨A0, n0, c0, rfl, hl0, hb0⟩; replace hX := grow hX hb0; obtain ⟨x1, x2, x3, x4, x5, x6, x7, xl⟩ := Hx.out _ hX) | (go_at_call 9; with_reducible refine (HF0.out _ _ _ _ hl0).mono ?_; rintro x w20 ⟨rfl, hc0⟩; replace hX := grow hX hc0; obtain ⟨x1, x2, x3, x4, x5, x6, x7, xl⟩ := Hx.out _ hX) | (go_at_call 88; with_reducible refine (hasF_any name _).mono ?_; rintro x w' ⟨rfl, rfl⟩) | (go_at_call 9; with_reducible refine (freeN_any _).mono ?_; rintro x w6 ⟨rfl, hb6⟩; replace hX := grow hX hb6; obtain ⟨x1, x2, x3, x4, x5, x6, x7, xl⟩ := Hx.out _ hX))
  go_ret
  exact ⟨ret_bool Hfin.out.symm, hbase.trans (hX.mono (by simp))⟩

set_option maxRecDepth 100000 in
set_option maxHeartbeats 4000000 in
theorem shape_8_3 (name src : ByteArray) (n : Int) (Ac Ae Ab Al : Option Addr) (nc cc ne ce nb cb nl cl : Nat) (cols : List ByteArray) (w : World) (oks : okS src) (hcl : cols.length = nc) (t0 : freeB src = true) (t1 : noS name = true) (t2 : decide (nc = 0) = true) (t3 : decide (n = 0) = false) :
    Calls Try.prog 71 #[.agg #[.int .i64 8, .string name, .string src, .int .i64 n, .slice Ac nc cc, .slice Ae ne ce, .slice Ab nb cb, .slice Al nl cl]] w fun x w' => x = .returned (.bool (shapeR 8 name src n cols ne nb nl)) ∧ Below w.heap.size w w' := by
  have hfin : shapeR 8 name src n cols ne nb nl = false := by
    simp [shapeR, shapeP, hcl, t0, t1, t2, t3]
  have Hfin := Lib.hid hfin
  clear hfin
  obtain ⟨hbase, hX, Hx⟩ := shStart 8 name src n Ac Ae Ab Al nc cc ne ce nb cb nl cl w
  have HF0 := Lib.hid (fun (W : World) A m c (h : LsAt (fun _ => True) W 1 SRow A m c [src]) => free_any _ A m c _ W h)
  rw [freesB_one, t0] at HF0
  clear t0
  replace t1 := str_empty t1
  obtain rfl : nc = 0 := by simpa using t2
  clear t2
  replace t3 : (n == 0) = false := by simp at t3 ⊢; omega
  clear hcl
  go_enter Try.func71, Try.ntmps71
  go_upto_region 25 with (fail)
  simp only [List.append_eq, List.cons_append, List.nil_append]
  go_wp2_with (first | (go_at_call 88; with_reducible refine (hasT_any src _ oks).mono ?_; rintro x w10 ⟨A0, n0, c0, rfl, hl0, hb0⟩; replace hX := grow hX hb0; obtain ⟨x1, x2, x3, x4, x5, x6, x7, xl⟩ := Hx.out _ hX) | (go_at_call 9; with_reducible refine (HF0.out _ _ _ _ hl0).mono ?_; rintro x w20 ⟨rfl, hc0⟩; replace hX := grow hX hc0; obtain ⟨x1, x2, x3, x4, x5, x6, x7, xl⟩ := Hx.out _ hX) | (go_at_call 88; with_reducible refine (hasF_any name _).mono ?_; rintro x w' ⟨rfl, rfl⟩) | (go_at_call 9; with_reducible refine (freeN_any _).mono ?_; rintro x w6 ⟨rfl, hb6⟩; replace hX := grow hX hb6; obtain ⟨x1, x2, x3, x4, x5, x6, x7, xl⟩ := Hx.out _ hX))
  go_ret
  exact ⟨ret_bool Hfin.out.symm, hbase.trans (hX.mono (by simp))⟩

set_option maxRecDepth 100000 in
set_option maxHeartbeats 4000000 in
theorem shape_8_4 (name src : ByteArray) (n : Int) (Ac Ae Ab Al : Option Addr) (nc cc ne ce nb cb nl cl : Nat) (cols : List ByteArray) (w : World) (oks : okS src) (hcl : cols.length = nc) (t0 : freeB src = true) (t1 : noS name = true) (t2 : decide (nc = 0) = true) (t3 : decide (n = 0) = true) (t4 : (decide (1 ≤ (ne : Int)) && decide ((ne : Int) ≤ 8)) = false) :
    Calls Try.prog 71 #[.agg #[.int .i64 8, .string name, .string src, .int .i64 n, .slice Ac nc cc, .slice Ae ne ce, .slice Ab nb cb, .slice Al nl cl]] w fun x w' => x = .returned (.bool (shapeR 8 name src n cols ne nb nl)) ∧ Below w.heap.size w w' := by
  have hfin : shapeR 8 name src n cols ne nb nl = false := by
    simp [shapeR, shapeP, hcl, t0, t1, t2, t3, t4]
  have Hfin := Lib.hid hfin
  clear hfin
  obtain ⟨hbase, hX, Hx⟩ := shStart 8 name src n Ac Ae Ab Al nc cc ne ce nb cb nl cl w
  have HF0 := Lib.hid (fun (W : World) A m c (h : LsAt (fun _ => True) W 1 SRow A m c [src]) => free_any _ A m c _ W h)
  rw [freesB_one, t0] at HF0
  clear t0
  replace t1 := str_empty t1
  obtain rfl : nc = 0 := by simpa using t2
  clear t2
  obtain rfl : n = 0 := by simpa using t3
  clear t3
  have HW4 := Lib.hid (fun W => within_any ne 1 8 W)
  rw [t4] at HW4
  clear t4
  clear hcl
  go_enter Try.func71, Try.ntmps71
  go_upto_region 25 with (fail)
  simp only [List.append_eq, List.cons_append, List.nil_append]
  go_wp2_with (first | (go_at_call 88; with_reducible refine (hasT_any src _ oks).mono ?_; rintro x w10 ⟨A0, n0, c0, rfl, hl0, hb0⟩; replace hX := grow hX hb0; obtain ⟨x1, x2, x3, x4, x5, x6, x7, xl⟩ := Hx.out _ hX) | (go_at_call 9; with_reducible refine (HF0.out _ _ _ _ hl0).mono ?_; rintro x w20 ⟨rfl, hc0⟩; replace hX := grow hX hc0; obtain ⟨x1, x2, x3, x4, x5, x6, x7, xl⟩ := Hx.out _ hX) | (go_at_call 54; with_reducible refine (HW4.out _).mono ?_; rintro x w' ⟨rfl, rfl⟩) | (go_at_call 88; with_reducible refine (hasF_any name _).mono ?_; rintro x w' ⟨rfl, rfl⟩) | (go_at_call 9; with_reducible refine (freeN_any _).mono ?_; rintro x w6 ⟨rfl, hb6⟩; replace hX := grow hX hb6; obtain ⟨x1, x2, x3, x4, x5, x6, x7, xl⟩ := Hx.out _ hX))
  go_ret
  exact ⟨ret_bool Hfin.out.symm, hbase.trans (hX.mono (by simp))⟩

set_option maxRecDepth 100000 in
set_option maxHeartbeats 4000000 in
theorem shape_8_5 (name src : ByteArray) (n : Int) (Ac Ae Ab Al : Option Addr) (nc cc ne ce nb cb nl cl : Nat) (cols : List ByteArray) (w : World) (oks : okS src) (hcl : cols.length = nc) (t0 : freeB src = true) (t1 : noS name = true) (t2 : decide (nc = 0) = true) (t3 : decide (n = 0) = true) (t4 : (decide (1 ≤ (ne : Int)) && decide ((ne : Int) ≤ 8)) = true) (t5 : decide (nb = 0) = false) :
    Calls Try.prog 71 #[.agg #[.int .i64 8, .string name, .string src, .int .i64 n, .slice Ac nc cc, .slice Ae ne ce, .slice Ab nb cb, .slice Al nl cl]] w fun x w' => x = .returned (.bool (shapeR 8 name src n cols ne nb nl)) ∧ Below w.heap.size w w' := by
  have hfin : shapeR 8 name src n cols ne nb nl = false := by
    simp [shapeR, shapeP, hcl, t0, t1, t2, t3, t4, t5]
  have Hfin := Lib.hid hfin
  clear hfin
  obtain ⟨hbase, hX, Hx⟩ := shStart 8 name src n Ac Ae Ab Al nc cc ne ce nb cb nl cl w
  have HF0 := Lib.hid (fun (W : World) A m c (h : LsAt (fun _ => True) W 1 SRow A m c [src]) => free_any _ A m c _ W h)
  rw [freesB_one, t0] at HF0
  clear t0
  replace t1 := str_empty t1
  obtain rfl : nc = 0 := by simpa using t2
  clear t2
  obtain rfl : n = 0 := by simpa using t3
  clear t3
  have HW4 := Lib.hid (fun W => within_any ne 1 8 W)
  rw [t4] at HW4
  clear t4
  replace t5 : ((nb : Int) == 0) = false := by simp at t5 ⊢; omega
  clear hcl
  go_enter Try.func71, Try.ntmps71
  go_upto_region 25 with (fail)
  simp only [List.append_eq, List.cons_append, List.nil_append]
  go_wp2_with (first | (go_at_call 88; with_reducible refine (hasT_any src _ oks).mono ?_; rintro x w10 ⟨A0, n0, c0, rfl, hl0, hb0⟩; replace hX := grow hX hb0; obtain ⟨x1, x2, x3, x4, x5, x6, x7, xl⟩ := Hx.out _ hX) | (go_at_call 9; with_reducible refine (HF0.out _ _ _ _ hl0).mono ?_; rintro x w20 ⟨rfl, hc0⟩; replace hX := grow hX hc0; obtain ⟨x1, x2, x3, x4, x5, x6, x7, xl⟩ := Hx.out _ hX) | (go_at_call 54; with_reducible refine (HW4.out _).mono ?_; rintro x w' ⟨rfl, rfl⟩) | (go_at_call 88; with_reducible refine (hasF_any name _).mono ?_; rintro x w' ⟨rfl, rfl⟩) | (go_at_call 9; with_reducible refine (freeN_any _).mono ?_; rintro x w6 ⟨rfl, hb6⟩; replace hX := grow hX hb6; obtain ⟨x1, x2, x3, x4, x5, x6, x7, xl⟩ := Hx.out _ hX))
  go_ret
  exact ⟨ret_bool Hfin.out.symm, hbase.trans (hX.mono (by simp))⟩

set_option maxRecDepth 100000 in
set_option maxHeartbeats 4000000 in
theorem shape_8_6 (name src : ByteArray) (n : Int) (Ac Ae Ab Al : Option Addr) (nc cc ne ce nb cb nl cl : Nat) (cols : List ByteArray) (w : World) (oks : okS src) (hcl : cols.length = nc) (t0 : freeB src = true) (t1 : noS name = true) (t2 : decide (nc = 0) = true) (t3 : decide (n = 0) = true) (t4 : (decide (1 ≤ (ne : Int)) && decide ((ne : Int) ≤ 8)) = true) (t5 : decide (nb = 0) = true) (t6 : decide (nl = 0) = false) :
    Calls Try.prog 71 #[.agg #[.int .i64 8, .string name, .string src, .int .i64 n, .slice Ac nc cc, .slice Ae ne ce, .slice Ab nb cb, .slice Al nl cl]] w fun x w' => x = .returned (.bool (shapeR 8 name src n cols ne nb nl)) ∧ Below w.heap.size w w' := by
  have hfin : shapeR 8 name src n cols ne nb nl = false := by
    simp [shapeR, shapeP, hcl, t0, t1, t2, t3, t4, t5, t6]
  have Hfin := Lib.hid hfin
  clear hfin
  obtain ⟨hbase, hX, Hx⟩ := shStart 8 name src n Ac Ae Ab Al nc cc ne ce nb cb nl cl w
  have HF0 := Lib.hid (fun (W : World) A m c (h : LsAt (fun _ => True) W 1 SRow A m c [src]) => free_any _ A m c _ W h)
  rw [freesB_one, t0] at HF0
  clear t0
  replace t1 := str_empty t1
  obtain rfl : nc = 0 := by simpa using t2
  clear t2
  obtain rfl : n = 0 := by simpa using t3
  clear t3
  have HW4 := Lib.hid (fun W => within_any ne 1 8 W)
  rw [t4] at HW4
  clear t4
  obtain rfl : nb = 0 := by simpa using t5
  clear t5
  replace t6 : ((nl : Int) == 0) = false := by simp at t6 ⊢; omega
  clear hcl
  go_enter Try.func71, Try.ntmps71
  go_upto_region 25 with (fail)
  simp only [List.append_eq, List.cons_append, List.nil_append]
  go_wp2_with (first | (go_at_call 88; with_reducible refine (hasT_any src _ oks).mono ?_; rintro x w10 ⟨A0, n0, c0, rfl, hl0, hb0⟩; replace hX := grow hX hb0; obtain ⟨x1, x2, x3, x4, x5, x6, x7, xl⟩ := Hx.out _ hX) | (go_at_call 9; with_reducible refine (HF0.out _ _ _ _ hl0).mono ?_; rintro x w20 ⟨rfl, hc0⟩; replace hX := grow hX hc0; obtain ⟨x1, x2, x3, x4, x5, x6, x7, xl⟩ := Hx.out _ hX) | (go_at_call 54; with_reducible refine (HW4.out _).mono ?_; rintro x w' ⟨rfl, rfl⟩) | (go_at_call 88; with_reducible refine (hasF_any name _).mono ?_; rintro x w' ⟨rfl, rfl⟩) | (go_at_call 9; with_reducible refine (freeN_any _).mono ?_; rintro x w6 ⟨rfl, hb6⟩; replace hX := grow hX hb6; obtain ⟨x1, x2, x3, x4, x5, x6, x7, xl⟩ := Hx.out _ hX))
  go_ret
  exact ⟨ret_bool Hfin.out.symm, hbase.trans (hX.mono (by simp))⟩

set_option maxRecDepth 100000 in
set_option maxHeartbeats 4000000 in
theorem shape_8_7 (name src : ByteArray) (n : Int) (Ac Ae Ab Al : Option Addr) (nc cc ne ce nb cb nl cl : Nat) (cols : List ByteArray) (w : World) (oks : okS src) (hcl : cols.length = nc) (t0 : freeB src = true) (t1 : noS name = true) (t2 : decide (nc = 0) = true) (t3 : decide (n = 0) = true) (t4 : (decide (1 ≤ (ne : Int)) && decide ((ne : Int) ≤ 8)) = true) (t5 : decide (nb = 0) = true) (t6 : decide (nl = 0) = true) :
    Calls Try.prog 71 #[.agg #[.int .i64 8, .string name, .string src, .int .i64 n, .slice Ac nc cc, .slice Ae ne ce, .slice Ab nb cb, .slice Al nl cl]] w fun x w' => x = .returned (.bool (shapeR 8 name src n cols ne nb nl)) ∧ Below w.heap.size w w' := by
  have hfin : shapeR 8 name src n cols ne nb nl = true := by
    simp [shapeR, shapeP, hcl, t0, t1, t2, t3, t4, t5, t6]
  have Hfin := Lib.hid hfin
  clear hfin
  obtain ⟨hbase, hX, Hx⟩ := shStart 8 name src n Ac Ae Ab Al nc cc ne ce nb cb nl cl w
  have HF0 := Lib.hid (fun (W : World) A m c (h : LsAt (fun _ => True) W 1 SRow A m c [src]) => free_any _ A m c _ W h)
  rw [freesB_one, t0] at HF0
  clear t0
  replace t1 := str_empty t1
  obtain rfl : nc = 0 := by simpa using t2
  clear t2
  obtain rfl : n = 0 := by simpa using t3
  clear t3
  have HW4 := Lib.hid (fun W => within_any ne 1 8 W)
  rw [t4] at HW4
  clear t4
  obtain rfl : nb = 0 := by simpa using t5
  clear t5
  obtain rfl : nl = 0 := by simpa using t6
  clear t6
  clear hcl
  go_enter Try.func71, Try.ntmps71
  go_upto_region 25 with (fail)
  simp only [List.append_eq, List.cons_append, List.nil_append]
  go_wp2_with (first | (go_at_call 88; with_reducible refine (hasT_any src _ oks).mono ?_; rintro x w10 ⟨A0, n0, c0, rfl, hl0, hb0⟩; replace hX := grow hX hb0; obtain ⟨x1, x2, x3, x4, x5, x6, x7, xl⟩ := Hx.out _ hX) | (go_at_call 9; with_reducible refine (HF0.out _ _ _ _ hl0).mono ?_; rintro x w20 ⟨rfl, hc0⟩; replace hX := grow hX hc0; obtain ⟨x1, x2, x3, x4, x5, x6, x7, xl⟩ := Hx.out _ hX) | (go_at_call 54; with_reducible refine (HW4.out _).mono ?_; rintro x w' ⟨rfl, rfl⟩) | (go_at_call 88; with_reducible refine (hasF_any name _).mono ?_; rintro x w' ⟨rfl, rfl⟩) | (go_at_call 9; with_reducible refine (freeN_any _).mono ?_; rintro x w6 ⟨rfl, hb6⟩; replace hX := grow hX hb6; obtain ⟨x1, x2, x3, x4, x5, x6, x7, xl⟩ := Hx.out _ hX))
  go_ret
  exact ⟨ret_bool Hfin.out.symm, hbase.trans (hX.mono (by simp))⟩

theorem shapeK_8 (F : Nat → Prop) (name src : ByteArray) (n : Int) (Ac Ae Ab Al : Option Addr) (nc cc ne ce nb cb nl cl : Nat) (cols : List ByteArray) (w : World) (hc : LsAt F w 1 SRow Ac nc cc cols) (oks : okS src) :
    Calls Try.prog 71 #[.agg #[.int .i64 8, .string name, .string src, .int .i64 n, .slice Ac nc cc, .slice Ae ne ce, .slice Ab nb cb, .slice Al nl cl]] w fun x w' => x = .returned (.bool (shapeR 8 name src n cols ne nb nl)) ∧ Below w.heap.size w w' := by
  have hcl := hc.len
  cases t0 : freeB src
  · exact shape_8_0 name src n Ac Ae Ab Al nc cc ne ce nb cb nl cl cols w oks hcl t0
  cases t1 : noS name
  · exact shape_8_1 name src n Ac Ae Ab Al nc cc ne ce nb cb nl cl cols w oks hcl t0 t1
  cases t2 : decide (nc = 0)
  · exact shape_8_2 name src n Ac Ae Ab Al nc cc ne ce nb cb nl cl cols w oks hcl t0 t1 t2
  cases t3 : decide (n = 0)
  · exact shape_8_3 name src n Ac Ae Ab Al nc cc ne ce nb cb nl cl cols w oks hcl t0 t1 t2 t3
  cases t4 : (decide (1 ≤ (ne : Int)) && decide ((ne : Int) ≤ 8))
  · exact shape_8_4 name src n Ac Ae Ab Al nc cc ne ce nb cb nl cl cols w oks hcl t0 t1 t2 t3 t4
  cases t5 : decide (nb = 0)
  · exact shape_8_5 name src n Ac Ae Ab Al nc cc ne ce nb cb nl cl cols w oks hcl t0 t1 t2 t3 t4 t5
  cases t6 : decide (nl = 0)
  · exact shape_8_6 name src n Ac Ae Ab Al nc cc ne ce nb cb nl cl cols w oks hcl t0 t1 t2 t3 t4 t5 t6
  exact shape_8_7 name src n Ac Ae Ab Al nc cc ne ce nb cb nl cl cols w oks hcl t0 t1 t2 t3 t4 t5 t6

set_option maxRecDepth 100000 in
set_option maxHeartbeats 4000000 in
theorem shape_7_0 (name src : ByteArray) (n : Int) (Ac Ae Ab Al : Option Addr) (nc cc ne ce nb cb nl cl : Nat) (cols : List ByteArray) (w : World)  (hcl : cols.length = nc) (t0 : noS name = false) :
    Calls Try.prog 71 #[.agg #[.int .i64 7, .string name, .string src, .int .i64 n, .slice Ac nc cc, .slice Ae ne ce, .slice Ab nb cb, .slice Al nl cl]] w fun x w' => x = .returned (.bool (shapeR 7 name src n cols ne nb nl)) ∧ Below w.heap.size w w' := by
  have hfin : shapeR 7 name src n cols ne nb nl = false := by
    simp [shapeR, shapeP, hcl, t0]
  have Hfin := Lib.hid hfin
  clear hfin
  obtain ⟨hbase, hX, Hx⟩ := shStart 7 name src n Ac Ae Ab Al nc cc ne ce nb cb nl cl w
  replace t0 := str_some t0
  clear hcl
  go_enter Try.func71, Try.ntmps71
  go_upto_region 25 with (fail)
  simp only [List.append_eq, List.cons_append, List.nil_append]
  go_wp2_with (first | (go_at_call 88; with_reducible refine (hasF_any name _).mono ?_; rintro x w' ⟨rfl, rfl⟩) | (go_at_call 88; with_reducible refine (hasF_any src _).mono ?_; rintro x w' ⟨rfl, rfl⟩) | (go_at_call 9; with_reducible refine (freeN_any _).mono ?_; rintro x w6 ⟨rfl, hb6⟩; replace hX := grow hX hb6; obtain ⟨x1, x2, x3, x4, x5, x6, x7, xl⟩ := Hx.out _ hX))
  go_ret
  exact ⟨ret_bool Hfin.out.symm, hbase.trans (hX.mono (by simp))⟩

set_option maxRecDepth 100000 in
set_option maxHeartbeats 4000000 in
theorem shape_7_1 (name src : ByteArray) (n : Int) (Ac Ae Ab Al : Option Addr) (nc cc ne ce nb cb nl cl : Nat) (cols : List ByteArray) (w : World)  (hcl : cols.length = nc) (t0 : noS name = true) (t1 : noS src = false) :
    Calls Try.prog 71 #[.agg #[.int .i64 7, .string name, .string src, .int .i64 n, .slice Ac nc cc, .slice Ae ne ce, .slice Ab nb cb, .slice Al nl cl]] w fun x w' => x = .returned (.bool (shapeR 7 name src n cols ne nb nl)) ∧ Below w.heap.size w w' := by
  have hfin : shapeR 7 name src n cols ne nb nl = false := by
    simp [shapeR, shapeP, hcl, t0, t1]
  have Hfin := Lib.hid hfin
  clear hfin
  obtain ⟨hbase, hX, Hx⟩ := shStart 7 name src n Ac Ae Ab Al nc cc ne ce nb cb nl cl w
  replace t0 := str_empty t0
  replace t1 := str_some t1
  clear hcl
  go_enter Try.func71, Try.ntmps71
  go_upto_region 25 with (fail)
  simp only [List.append_eq, List.cons_append, List.nil_append]
  go_wp2_with (first | (go_at_call 88; with_reducible refine (hasF_any name _).mono ?_; rintro x w' ⟨rfl, rfl⟩) | (go_at_call 88; with_reducible refine (hasF_any src _).mono ?_; rintro x w' ⟨rfl, rfl⟩) | (go_at_call 9; with_reducible refine (freeN_any _).mono ?_; rintro x w6 ⟨rfl, hb6⟩; replace hX := grow hX hb6; obtain ⟨x1, x2, x3, x4, x5, x6, x7, xl⟩ := Hx.out _ hX))
  go_ret
  exact ⟨ret_bool Hfin.out.symm, hbase.trans (hX.mono (by simp))⟩

set_option maxRecDepth 100000 in
set_option maxHeartbeats 4000000 in
theorem shape_7_2 (name src : ByteArray) (n : Int) (Ac Ae Ab Al : Option Addr) (nc cc ne ce nb cb nl cl : Nat) (cols : List ByteArray) (w : World)  (hcl : cols.length = nc) (t0 : noS name = true) (t1 : noS src = true) (t2 : decide (nc = 0) = false) :
    Calls Try.prog 71 #[.agg #[.int .i64 7, .string name, .string src, .int .i64 n, .slice Ac nc cc, .slice Ae ne ce, .slice Ab nb cb, .slice Al nl cl]] w fun x w' => x = .returned (.bool (shapeR 7 name src n cols ne nb nl)) ∧ Below w.heap.size w w' := by
  have hfin : shapeR 7 name src n cols ne nb nl = false := by
    simp [shapeR, shapeP, hcl, t0, t1, t2]
  have Hfin := Lib.hid hfin
  clear hfin
  obtain ⟨hbase, hX, Hx⟩ := shStart 7 name src n Ac Ae Ab Al nc cc ne ce nb cb nl cl w
  replace t0 := str_empty t0
  replace t1 := str_empty t1
  replace t2 : ((nc : Int) == 0) = false := by simp at t2 ⊢; omega
  clear hcl
  go_enter Try.func71, Try.ntmps71
  go_upto_region 25 with (fail)
  simp only [List.append_eq, List.cons_append, List.nil_append]
  go_wp2_with (first | (go_at_call 88; with_reducible refine (hasF_any name _).mono ?_; rintro x w' ⟨rfl, rfl⟩) | (go_at_call 88; with_reducible refine (hasF_any src _).mono ?_; rintro x w' ⟨rfl, rfl⟩) | (go_at_call 9; with_reducible refine (freeN_any _).mono ?_; rintro x w6 ⟨rfl, hb6⟩; replace hX := grow hX hb6; obtain ⟨x1, x2, x3, x4, x5, x6, x7, xl⟩ := Hx.out _ hX))
  go_ret
  exact ⟨ret_bool Hfin.out.symm, hbase.trans (hX.mono (by simp))⟩

set_option maxRecDepth 100000 in
set_option maxHeartbeats 4000000 in
theorem shape_7_3 (name src : ByteArray) (n : Int) (Ac Ae Ab Al : Option Addr) (nc cc ne ce nb cb nl cl : Nat) (cols : List ByteArray) (w : World)  (hcl : cols.length = nc) (t0 : noS name = true) (t1 : noS src = true) (t2 : decide (nc = 0) = true) (t3 : decide (n = 0) = false) :
    Calls Try.prog 71 #[.agg #[.int .i64 7, .string name, .string src, .int .i64 n, .slice Ac nc cc, .slice Ae ne ce, .slice Ab nb cb, .slice Al nl cl]] w fun x w' => x = .returned (.bool (shapeR 7 name src n cols ne nb nl)) ∧ Below w.heap.size w w' := by
  have hfin : shapeR 7 name src n cols ne nb nl = false := by
    simp [shapeR, shapeP, hcl, t0, t1, t2, t3]
  have Hfin := Lib.hid hfin
  clear hfin
  obtain ⟨hbase, hX, Hx⟩ := shStart 7 name src n Ac Ae Ab Al nc cc ne ce nb cb nl cl w
  replace t0 := str_empty t0
  replace t1 := str_empty t1
  obtain rfl : nc = 0 := by simpa using t2
  clear t2
  replace t3 : (n == 0) = false := by simp at t3 ⊢; omega
  clear hcl
  go_enter Try.func71, Try.ntmps71
  go_upto_region 25 with (fail)
  simp only [List.append_eq, List.cons_append, List.nil_append]
  go_wp2_with (first | (go_at_call 88; with_reducible refine (hasF_any name _).mono ?_; rintro x w' ⟨rfl, rfl⟩) | (go_at_call 88; with_reducible refine (hasF_any src _).mono ?_; rintro x w' ⟨rfl, rfl⟩) | (go_at_call 9; with_reducible refine (freeN_any _).mono ?_; rintro x w6 ⟨rfl, hb6⟩; replace hX := grow hX hb6; obtain ⟨x1, x2, x3, x4, x5, x6, x7, xl⟩ := Hx.out _ hX))
  go_ret
  exact ⟨ret_bool Hfin.out.symm, hbase.trans (hX.mono (by simp))⟩

set_option maxRecDepth 100000 in
set_option maxHeartbeats 4000000 in
theorem shape_7_4 (name src : ByteArray) (n : Int) (Ac Ae Ab Al : Option Addr) (nc cc ne ce nb cb nl cl : Nat) (cols : List ByteArray) (w : World)  (hcl : cols.length = nc) (t0 : noS name = true) (t1 : noS src = true) (t2 : decide (nc = 0) = true) (t3 : decide (n = 0) = true) (t4 : (decide (1 ≤ (ne : Int)) && decide ((ne : Int) ≤ 1)) = false) :
    Calls Try.prog 71 #[.agg #[.int .i64 7, .string name, .string src, .int .i64 n, .slice Ac nc cc, .slice Ae ne ce, .slice Ab nb cb, .slice Al nl cl]] w fun x w' => x = .returned (.bool (shapeR 7 name src n cols ne nb nl)) ∧ Below w.heap.size w w' := by
  have hfin : shapeR 7 name src n cols ne nb nl = false := by
    simp [shapeR, shapeP, hcl, t0, t1, t2, t3, t4]
  have Hfin := Lib.hid hfin
  clear hfin
  obtain ⟨hbase, hX, Hx⟩ := shStart 7 name src n Ac Ae Ab Al nc cc ne ce nb cb nl cl w
  replace t0 := str_empty t0
  replace t1 := str_empty t1
  obtain rfl : nc = 0 := by simpa using t2
  clear t2
  obtain rfl : n = 0 := by simpa using t3
  clear t3
  have HW4 := Lib.hid (fun W => within_any ne 1 1 W)
  rw [t4] at HW4
  clear t4
  clear hcl
  go_enter Try.func71, Try.ntmps71
  go_upto_region 25 with (fail)
  simp only [List.append_eq, List.cons_append, List.nil_append]
  go_wp2_with (first | (go_at_call 54; with_reducible refine (HW4.out _).mono ?_; rintro x w' ⟨rfl, rfl⟩) | (go_at_call 88; with_reducible refine (hasF_any name _).mono ?_; rintro x w' ⟨rfl, rfl⟩) | (go_at_call 88; with_reducible refine (hasF_any src _).mono ?_; rintro x w' ⟨rfl, rfl⟩) | (go_at_call 9; with_reducible refine (freeN_any _).mono ?_; rintro x w6 ⟨rfl, hb6⟩; replace hX := grow hX hb6; obtain ⟨x1, x2, x3, x4, x5, x6, x7, xl⟩ := Hx.out _ hX))
  go_ret
  exact ⟨ret_bool Hfin.out.symm, hbase.trans (hX.mono (by simp))⟩

set_option maxRecDepth 100000 in
set_option maxHeartbeats 4000000 in
theorem shape_7_5 (name src : ByteArray) (n : Int) (Ac Ae Ab Al : Option Addr) (nc cc ne ce nb cb nl cl : Nat) (cols : List ByteArray) (w : World)  (hcl : cols.length = nc) (t0 : noS name = true) (t1 : noS src = true) (t2 : decide (nc = 0) = true) (t3 : decide (n = 0) = true) (t4 : (decide (1 ≤ (ne : Int)) && decide ((ne : Int) ≤ 1)) = true) :
    Calls Try.prog 71 #[.agg #[.int .i64 7, .string name, .string src, .int .i64 n, .slice Ac nc cc, .slice Ae ne ce, .slice Ab nb cb, .slice Al nl cl]] w fun x w' => x = .returned (.bool (shapeR 7 name src n cols ne nb nl)) ∧ Below w.heap.size w w' := by
  have hfin : shapeR 7 name src n cols ne nb nl = true := by
    simp [shapeR, shapeP, hcl, t0, t1, t2, t3, t4]
  have Hfin := Lib.hid hfin
  clear hfin
  obtain ⟨hbase, hX, Hx⟩ := shStart 7 name src n Ac Ae Ab Al nc cc ne ce nb cb nl cl w
  replace t0 := str_empty t0
  replace t1 := str_empty t1
  obtain rfl : nc = 0 := by simpa using t2
  clear t2
  obtain rfl : n = 0 := by simpa using t3
  clear t3
  have HW4 := Lib.hid (fun W => within_any ne 1 1 W)
  rw [t4] at HW4
  clear t4
  clear hcl
  go_enter Try.func71, Try.ntmps71
  go_upto_region 25 with (fail)
  simp only [List.append_eq, List.cons_append, List.nil_append]
  go_wp2_with (first | (go_at_call 54; with_reducible refine (HW4.out _).mono ?_; rintro x w' ⟨rfl, rfl⟩) | (go_at_call 88; with_reducible refine (hasF_any name _).mono ?_; rintro x w' ⟨rfl, rfl⟩) | (go_at_call 88; with_reducible refine (hasF_any src _).mono ?_; rintro x w' ⟨rfl, rfl⟩) | (go_at_call 9; with_reducible refine (freeN_any _).mono ?_; rintro x w6 ⟨rfl, hb6⟩; replace hX := grow hX hb6; obtain ⟨x1, x2, x3, x4, x5, x6, x7, xl⟩ := Hx.out _ hX))
  go_ret
  exact ⟨ret_bool Hfin.out.symm, hbase.trans (hX.mono (by simp))⟩

theorem shapeK_7 (F : Nat → Prop) (name src : ByteArray) (n : Int) (Ac Ae Ab Al : Option Addr) (nc cc ne ce nb cb nl cl : Nat) (cols : List ByteArray) (w : World) (hc : LsAt F w 1 SRow Ac nc cc cols) :
    Calls Try.prog 71 #[.agg #[.int .i64 7, .string name, .string src, .int .i64 n, .slice Ac nc cc, .slice Ae ne ce, .slice Ab nb cb, .slice Al nl cl]] w fun x w' => x = .returned (.bool (shapeR 7 name src n cols ne nb nl)) ∧ Below w.heap.size w w' := by
  have hcl := hc.len
  cases t0 : noS name
  · exact shape_7_0 name src n Ac Ae Ab Al nc cc ne ce nb cb nl cl cols w hcl t0
  cases t1 : noS src
  · exact shape_7_1 name src n Ac Ae Ab Al nc cc ne ce nb cb nl cl cols w hcl t0 t1
  cases t2 : decide (nc = 0)
  · exact shape_7_2 name src n Ac Ae Ab Al nc cc ne ce nb cb nl cl cols w hcl t0 t1 t2
  cases t3 : decide (n = 0)
  · exact shape_7_3 name src n Ac Ae Ab Al nc cc ne ce nb cb nl cl cols w hcl t0 t1 t2 t3
  cases t4 : (decide (1 ≤ (ne : Int)) && decide ((ne : Int) ≤ 1))
  · exact shape_7_4 name src n Ac Ae Ab Al nc cc ne ce nb cb nl cl cols w hcl t0 t1 t2 t3 t4
  exact shape_7_5 name src n Ac Ae Ab Al nc cc ne ce nb cb nl cl cols w hcl t0 t1 t2 t3 t4
end Go.Proofs.Ytgihhkfppnhdpaa

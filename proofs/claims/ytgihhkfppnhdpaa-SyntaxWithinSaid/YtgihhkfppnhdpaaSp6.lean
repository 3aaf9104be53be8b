/- Parts of this proof, one behind the other: SynJ3. -/
import Derived.Test.YtgihhkfppnhdpaaSp3
import Derived.Deep.Cut
namespace Go.Proofs.Ytgihhkfppnhdpaa
open Go.RowKit Go.Afx

set_option maxRecDepth 100000 in
set_option maxHeartbeats 4000000 in
theorem shape_4_0 (name src : ByteArray) (n : Int) (Ac Ae Ab Al : Option Addr) (nc cc ne ce nb cb nl cl : Nat) (cols : List ByteArray) (w : World) (okn : okS name) (hcl : cols.length = nc) (t0 : freeB name = false) :
    Calls Try.prog 71 #[.agg #[.int .i64 4, .string name, .string src, .int .i64 n, .slice Ac nc cc, .slice Ae ne ce, .slice Ab nb cb, .slice Al nl cl]] w fun x w' => x = .returned (.bool (shapeR 4 name src n cols ne nb nl)) ∧ Below w.heap.size w w' := by
  have hfin : shapeR 4 name src n cols ne nb nl = false := by
    simp [shapeR, shapeP, hcl, t0]
  have Hfin := Lib.hid hfin
  clear hfin
  obtain ⟨hbase, hX0, Hx⟩ := shStart4 4 name src n Ac Ae Ab Al nc cc ne ce nb cb nl cl w
  have HF0 := Lib.hid (fun (W : World) A m c (h : LsAt (fun _ => True) W 1 SRow A m c [name]) => free_any _ A m c _ W h)
  rw [freesB_one, t0] at HF0
  clear t0
  clear hcl
  go_enter Try.func71, Try.ntmps71
  go_upto_region 14 with (fail)
  go_quiet (fail)
  go_upto_region 25 with (fail)
  simp only [List.append_eq, List.cons_append, List.nil_append]
  go_wp2_with (first | (go_at_call 88; with_reducible refine (hasT_any name _ okn).mono ?_; rintro x w10 ⟨A0, n0, c0, rfl, hl0, hb0⟩; have hX := grow (hX0 _) hb0; obtain ⟨x1, x2, x3, x4, x5, x6, x7, xl⟩ := Hx.out _ hX) | (go_at_call 9; with_reducible refine (HF0.out _ _ _ _ hl0).mono ?_; rintro x w20 ⟨rfl, hc0⟩; replace hX := grow hX hc0; obtain ⟨x1, x2, x3, x4, x5, x6, x7, xl⟩ := Hx.out _ hX))
  go_ret
  exact ⟨ret_bool Hfin.out.symm, hbase.trans (hX.mono (by simp))⟩

set_option maxRecDepth 100000 in
set_option maxHeartbeats 4000000 in
theorem shape_4_1 (name src : ByteArray) (n : Int) (Ac Ae Ab Al : Option Addr) (nc cc ne ce nb cb nl cl : Nat) (cols : List ByteArray) (w : World) (okn : okS name) (oks : okS src) (hcl : cols.length = nc) (t0 : freeB name = true) (t1 : freeB src = false) :
    Calls Try.prog 71 #[.agg #[.int .i64 4, .string name, .string src, .int .i64 n, .slice Ac nc cc, .slice Ae ne ce, .slice Ab nb cb, .slice Al nl cl]] w fun x w' => x = .returned (.bool (shapeR 4 name src n cols ne nb nl)) ∧ Below w.heap.size w w' := by
  have hfin : shapeR 4 name src n cols ne nb nl = false := by
    simp [shapeR, shapeP, hcl, t0, t1]
  have Hfin := Lib.hid hfin
  clear hfin
  obtain ⟨hbase, hX0, Hx⟩ := shStart4 4 name src n Ac Ae Ab Al nc cc ne ce nb cb nl cl w
  have HF0 := Lib.hid (fun (W : World) A m c (h : LsAt (fun _ => True) W 1 SRow A m c [name]) => free_any _ A m c _ W h)
  rw [freesB_one, t0] at HF0
  clear t0
  have HF1 := Lib.hid (fun (W : World) A m c (h : LsAt (fun _ => True) W 1 SRow A m c [src]) => free_any _ A m c _ W h)
  rw [freesB_one, t1] at HF1
  clear t1
  clear hcl
  go_enter Try.func71, Try.ntmps71
  go_upto_region 14 with (fail)
  go_quiet (fail)
  go_upto_region 25 with (fail)
  simp only [List.append_eq, List.cons_append, List.nil_append]
  go_wp2_with (first | (go_at_call 88; with_reducible refine (hasT_any name _ okn).mono ?_; rintro x w10 ⟨A0, n0, c0, rfl, hl0, hb0⟩; have hX := grow (hX0 _) hb0; obtain ⟨x1, x2, x3, x4, x5, x6, x7, xl⟩ := Hx.out _ hX) | (go_at_call 9; with_reducible refine (HF0.out _ _ _ _ hl0).mono ?_; rintro x w20 ⟨rfl, hc0⟩; replace hX := grow hX hc0; obtain ⟨x1, x2, x3, x4, x5, x6, x7, xl⟩ := Hx.out _ hX) | (go_at_call 88; with_reducible refine (hasT_any src _ oks).mono ?_; rintro x w11 ⟨A1, n1, c1, rfl, hl1, hb1⟩; replace hX := grow hX hb1; obtain ⟨x1, x2, x3, x4, x5, x6, x7, xl⟩ := Hx.out _ hX) | (go_at_call 9; with_reducible refine (HF1.out _ _ _ _ hl1).mono ?_; rintro x w21 ⟨rfl, hc1⟩; replace hX := grow hX hc1; obtain ⟨x1, x2, x3, x4, x5, x6, x7, xl⟩ := Hx.out _ hX))
  go_ret
  exact ⟨ret_bool Hfin.out.symm, hbase.trans (hX.mono (by simp))⟩

set_option maxRecDepth 100000 in
set_option maxHeartbeats 4000000 in
theorem shape_4_2 (name src : ByteArray) (n : Int) (Ac Ae Ab Al : Option Addr) (nc cc ne ce nb cb nl cl : Nat) (cols : List ByteArray) (w : World) (okn : okS name) (oks : okS src) (hcl : cols.length = nc) (t0 : freeB name = true) (t1 : freeB src = true) (t2 : (decide ((1 : Int) ≤ (nc : Int)) && decide ((nc : Int) ≤ 8)) = false) :
    Calls Try.prog 71 #[.agg #[.int .i64 4, .string name, .string src, .int .i64 n, .slice Ac nc cc, .slice Ae ne ce, .slice Ab nb cb, .slice Al nl cl]] w fun x w' => x = .returned (.bool (shapeR 4 name src n cols ne nb nl)) ∧ Below w.heap.size w w' := by
  have hcc : (decide (1 ≤ nc) && decide (nc ≤ 8)) = false := by simp at t2 ⊢; omega
  have hfin : shapeR 4 name src n cols ne nb nl = false := by
    simp [shapeR, shapeP, hcl, t0, t1, hcc]
  clear hcc
  have Hfin := Lib.hid hfin
  clear hfin
  obtain ⟨hbase, hX0, Hx⟩ := shStart4 4 name src n Ac Ae Ab Al nc cc ne ce nb cb nl cl w
  have HF0 := Lib.hid (fun (W : World) A m c (h : LsAt (fun _ => True) W 1 SRow A m c [name]) => free_any _ A m c _ W h)
  rw [freesB_one, t0] at HF0
  clear t0
  have HF1 := Lib.hid (fun (W : World) A m c (h : LsAt (fun _ => True) W 1 SRow A m c [src]) => free_any _ A m c _ W h)
  rw [freesB_one, t1] at HF1
  clear t1
  have HW2 := Lib.hid (fun W => within_any nc 1 8 W)
  rw [t2] at HW2
  clear t2
  clear hcl
  go_enter Try.func71, Try.ntmps71
  go_upto_region 14 with (fail)
  go_quiet (fail)
  go_upto_region 25 with (fail)
  simp only [List.append_eq, List.cons_append, List.nil_append]
  go_wp2_with (first | (go_at_call 88; with_reducible refine (hasT_any name _ okn).mono ?_; rintro x w10 ⟨A0, n0, c0, rfl, hl0, hb0⟩; have hX := grow (hX0 _) hb0; obtain ⟨x1, x2, x3, x4, x5, x6, x7, xl⟩ := Hx.out _ hX) | (go_at_call 9; with_reducible refine (HF0.out _ _ _ _ hl0).mono ?_; rintro x w20 ⟨rfl, hc0⟩; replace hX := grow hX hc0; obtain ⟨x1, x2, x3, x4, x5, x6, x7, xl⟩ := Hx.out _ hX) | (go_at_call 88; with_reducible refine (hasT_any src _ oks).mono ?_; rintro x w11 ⟨A1, n1, c1, rfl, hl1, hb1⟩; replace hX := grow hX hb1; obtain ⟨x1, x2, x3, x4, x5, x6, x7, xl⟩ := Hx.out _ hX) | (go_at_call 9; with_reducible refine (HF1.out _ _ _ _ hl1).mono ?_; rintro x w21 ⟨rfl, hc1⟩; replace hX := grow hX hc1; obtain ⟨x1, x2, x3, x4, x5, x6, x7, xl⟩ := Hx.out _ hX) | (go_at_call 54; with_reducible refine (HW2.out _).mono ?_; rintro x w' ⟨rfl, rfl⟩))
  go_ret
  exact ⟨ret_bool Hfin.out.symm, hbase.trans (hX.mono (by simp))⟩

set_option maxRecDepth 100000 in
set_option maxHeartbeats 4000000 in
theorem shape_4_3 (F : Nat → Prop) (name src : ByteArray) (n : Int) (Ac Ae Ab Al : Option Addr) (nc cc ne ce nb cb nl cl : Nat) (cols : List ByteArray) (w : World) (hc : LsAt F w 1 SRow Ac nc cc cols) (okn : okS name) (oks : okS src) (hcl : cols.length = nc) (t0 : freeB name = true) (t1 : freeB src = true) (t2 : (decide ((1 : Int) ≤ (nc : Int)) && decide ((nc : Int) ≤ 8)) = true) (t3 : freesB cols = false) :
    Calls Try.prog 71 #[.agg #[.int .i64 4, .string name, .string src, .int .i64 n, .slice Ac nc cc, .slice Ae ne ce, .slice Ab nb cb, .slice Al nl cl]] w fun x w' => x = .returned (.bool (shapeR 4 name src n cols ne nb nl)) ∧ Below w.heap.size w w' := by
  have hcc : (decide (1 ≤ nc) && decide (nc ≤ 8)) = true := by simp at t2 ⊢; omega
  have hfin : shapeR 4 name src n cols ne nb nl = false := by
    simp [shapeR, shapeP, hcl, t0, t1, hcc, t3]
  clear hcc
  have Hfin := Lib.hid hfin
  clear hfin
  obtain ⟨hbase, hX0, Hx⟩ := shStart4 4 name src n Ac Ae Ab Al nc cc ne ce nb cb nl cl w
  have HF0 := Lib.hid (fun (W : World) A m c (h : LsAt (fun _ => True) W 1 SRow A m c [name]) => free_any _ A m c _ W h)
  rw [freesB_one, t0] at HF0
  clear t0
  have HF1 := Lib.hid (fun (W : World) A m c (h : LsAt (fun _ => True) W 1 SRow A m c [src]) => free_any _ A m c _ W h)
  rw [freesB_one, t1] at HF1
  clear t1
  have HW2 := Lib.hid (fun W => within_any nc 1 8 W)
  rw [t2] at HW2
  clear t2
  have HF3 := Lib.hid (fun (W : World) (hW : Below w.heap.size w W) => free_any F Ac nc cc cols W (hc.below hW))
  rw [t3] at HF3
  clear t3
  clear hcl hc
  go_enter Try.func71, Try.ntmps71
  go_upto_region 14 with (fail)
  go_quiet (fail)
  go_upto_region 25 with (fail)
  simp only [List.append_eq, List.cons_append, List.nil_append]
  go_wp2_with (first | (go_at_call 88; with_reducible refine (hasT_any name _ okn).mono ?_; rintro x w10 ⟨A0, n0, c0, rfl, hl0, hb0⟩; have hX := grow (hX0 _) hb0; obtain ⟨x1, x2, x3, x4, x5, x6, x7, xl⟩ := Hx.out _ hX) | (go_at_call 9; with_reducible refine (HF0.out _ _ _ _ hl0).mono ?_; rintro x w20 ⟨rfl, hc0⟩; replace hX := grow hX hc0; obtain ⟨x1, x2, x3, x4, x5, x6, x7, xl⟩ := Hx.out _ hX) | (go_at_call 88; with_reducible refine (hasT_any src _ oks).mono ?_; rintro x w11 ⟨A1, n1, c1, rfl, hl1, hb1⟩; replace hX := grow hX hb1; obtain ⟨x1, x2, x3, x4, x5, x6, x7, xl⟩ := Hx.out _ hX) | (go_at_call 9; with_reducible refine (HF1.out _ _ _ _ hl1).mono ?_; rintro x w21 ⟨rfl, hc1⟩; replace hX := grow hX hc1; obtain ⟨x1, x2, x3, x4, x5, x6, x7, xl⟩ := Hx.out _ hX) | (go_at_call 54; with_reducible refine (HW2.out _).mono ?_; rintro x w' ⟨rfl, rfl⟩) | (go_at_call 9; with_reducible refine (HF3.out _ (hbase.trans (hX.mono (by simp)))).mono ?_; rintro x w13 ⟨rfl, hb3⟩; replace hX := grow hX hb3; obtain ⟨x1, x2, x3, x4, x5, x6, x7, xl⟩ := Hx.out _ hX))
  go_ret
  exact ⟨ret_bool Hfin.out.symm, hbase.trans (hX.mono (by simp))⟩

set_option maxRecDepth 100000 in
set_option maxHeartbeats 4000000 in
theorem shape_4_4 (F : Nat → Prop) (name src : ByteArray) (n : Int) (Ac Ae Ab Al : Option Addr) (nc cc ne ce nb cb nl cl : Nat) (cols : List ByteArray) (w : World) (hc : LsAt F w 1 SRow Ac nc cc cols) (okn : okS name) (oks : okS src) (hcl : cols.length = nc) (t0 : freeB name = true) (t1 : freeB src = true) (t2 : (decide ((1 : Int) ≤ (nc : Int)) && decide ((nc : Int) ≤ 8)) = true) (t3 : freesB cols = true) (t4 : decide cols.Nodup = false) :
    Calls Try.prog 71 #[.agg #[.int .i64 4, .string name, .string src, .int .i64 n, .slice Ac nc cc, .slice Ae ne ce, .slice Ab nb cb, .slice Al nl cl]] w fun x w' => x = .returned (.bool (shapeR 4 name src n cols ne nb nl)) ∧ Below w.heap.size w w' := by
  have hcc : (decide (1 ≤ nc) && decide (nc ≤ 8)) = true := by simp at t2 ⊢; omega
  have hfin : shapeR 4 name src n cols ne nb nl = false := by
    simp [shapeR, shapeP, hcl, t0, t1, hcc, t3, t4]
  clear hcc
  have Hfin := Lib.hid hfin
  clear hfin
  obtain ⟨hbase, hX0, Hx⟩ := shStart4 4 name src n Ac Ae Ab Al nc cc ne ce nb cb nl cl w
  have HF0 := Lib.hid (fun (W : World) A m c (h : LsAt (fun _ => True) W 1 SRow A m c [name]) => free_any _ A m c _ W h)
  rw [freesB_one, t0] at HF0
  clear t0
  have HF1 := Lib.hid (fun (W : World) A m c (h : LsAt (fun _ => True) W 1 SRow A m c [src]) => free_any _ A m c _ W h)
  rw [freesB_one, t1] at HF1
  clear t1
  have h8 : nc ≤ 1000000 := by simp at t2; omega
  have HW2 := Lib.hid (fun W => within_any nc 1 8 W)
  rw [t2] at HW2
  clear t2
  have HF3 := Lib.hid (fun (W : World) (hW : Below w.heap.size w W) => free_any F Ac nc cc cols W (hc.below hW))
  rw [t3] at HF3
  clear t3
  have HF4 := Lib.hid (fun (W : World) (hW : Below w.heap.size w W) => unlike_any F Ac nc cc cols W (hc.below hW) h8)
  rw [t4] at HF4
  clear t4
  clear hcl hc
  go_enter Try.func71, Try.ntmps71
  go_upto_region 14 with (fail)
  go_quiet (fail)
  go_upto_region 25 with (fail)
  simp only [List.append_eq, List.cons_append, List.nil_append]
  go_wp2_with (first | (go_at_call 88; with_reducible refine (hasT_any name _ okn).mono ?_; rintro x w10 ⟨A0, n0, c0, rfl, hl0, hb0⟩; have hX := grow (hX0 _) hb0; obtain ⟨x1, x2, x3, x4, x5, x6, x7, xl⟩ := Hx.out _ hX) | (go_at_call 9; with_reducible refine (HF0.out _ _ _ _ hl0).mono ?_; rintro x w20 ⟨rfl, hc0⟩; replace hX := grow hX hc0; obtain ⟨x1, x2, x3, x4, x5, x6, x7, xl⟩ := Hx.out _ hX) | (go_at_call 88; with_reducible refine (hasT_any src _ oks).mono ?_; rintro x w11 ⟨A1, n1, c1, rfl, hl1, hb1⟩; replace hX := grow hX hb1; obtain ⟨x1, x2, x3, x4, x5, x6, x7, xl⟩ := Hx.out _ hX) | (go_at_call 9; with_reducible refine (HF1.out _ _ _ _ hl1).mono ?_; rintro x w21 ⟨rfl, hc1⟩; replace hX := grow hX hc1; obtain ⟨x1, x2, x3, x4, x5, x6, x7, xl⟩ := Hx.out _ hX) | (go_at_call 54; with_reducible refine (HW2.out _).mono ?_; rintro x w' ⟨rfl, rfl⟩) | (go_at_call 9; with_reducible refine (HF3.out _ (hbase.trans (hX.mono (by simp)))).mono ?_; rintro x w13 ⟨rfl, hb3⟩; replace hX := grow hX hb3; obtain ⟨x1, x2, x3, x4, x5, x6, x7, xl⟩ := Hx.out _ hX) | (go_at_call 55; with_reducible refine (HF4.out _ (hbase.trans (hX.mono (by simp)))).mono ?_; rintro x w14 ⟨rfl, hb4⟩; replace hX := grow hX hb4; obtain ⟨x1, x2, x3, x4, x5, x6, x7, xl⟩ := Hx.out _ hX))
  go_ret
  exact ⟨ret_bool Hfin.out.symm, hbase.trans (hX.mono (by simp))⟩

set_option maxRecDepth 100000 in
set_option maxHeartbeats 4000000 in
theorem shape_4_5 (F : Nat → Prop) (name src : ByteArray) (n : Int) (Ac Ae Ab Al : Option Addr) (nc cc ne ce nb cb nl cl : Nat) (cols : List ByteArray) (w : World) (hc : LsAt F w 1 SRow Ac nc cc cols) (okn : okS name) (oks : okS src) (hcl : cols.length = nc) (t0 : freeB name = true) (t1 : freeB src = true) (t2 : (decide ((1 : Int) ≤ (nc : Int)) && decide ((nc : Int) ≤ 8)) = true) (t3 : freesB cols = true) (t4 : decide cols.Nodup = true) (t5 : decide (n = 0) = false) :
    Calls Try.prog 71 #[.agg #[.int .i64 4, .string name, .string src, .int .i64 n, .slice Ac nc cc, .slice Ae ne ce, .slice Ab nb cb, .slice Al nl cl]] w fun x w' => x = .returned (.bool (shapeR 4 name src n cols ne nb nl)) ∧ Below w.heap.size w w' := by
  have hcc : (decide (1 ≤ nc) && decide (nc ≤ 8)) = true := by simp at t2 ⊢; omega
  have hfin : shapeR 4 name src n cols ne nb nl = false := by
    simp [shapeR, shapeP, hcl, t0, t1, hcc, t3, t4, t5]
  clear hcc
  have Hfin := Lib.hid hfin
  clear hfin
  obtain ⟨hbase, hX0, Hx⟩ := shStart4 4 name src n Ac Ae Ab Al nc cc ne ce nb cb nl cl w
  have HF0 := Lib.hid (fun (W : World) A m c (h : LsAt (fun _ => True) W 1 SRow A m c [name]) => free_any _ A m c _ W h)
  rw [freesB_one, t0] at HF0
  clear t0
  have HF1 := Lib.hid (fun (W : World) A m c (h : LsAt (fun _ => True) W 1 SRow A m c [src]) => free_any _ A m c _ W h)
  rw [freesB_one, t1] at HF1
  clear t1
  have h8 : nc ≤ 1000000 := by simp at t2; omega
  have HW2 := Lib.hid (fun W => within_any nc 1 8 W)
  rw [t2] at HW2
  clear t2
  have HF3 := Lib.hid (fun (W : World) (hW : Below w.heap.size w W) => free_any F Ac nc cc cols W (hc.below hW))
  rw [t3] at HF3
  clear t3
  have HF4 := Lib.hid (fun (W : World) (hW : Below w.heap.size w W) => unlike_any F Ac nc cc cols W (hc.below hW) h8)
  rw [t4] at HF4
  clear t4
  replace t5 : (n == 0) = false := by simp at t5 ⊢; omega
  clear hcl hc
  go_enter Try.func71, Try.ntmps71
  go_upto_region 14 with (fail)
  go_quiet (fail)
  go_upto_region 25 with (fail)
  simp only [List.append_eq, List.cons_append, List.nil_append]
  go_wp2_with (first | (go_at_call 88; with_reducible refine (hasT_any name _ okn).mono ?_; rintro x w10 ⟨A0, n0, c0, rfl, hl0, hb0⟩; have hX := grow (hX0 _) hb0; obtain ⟨x1, x2, x3, x4, x5, x6, x7, xl⟩ := Hx.out _ hX) | (go_at_call 9; with_reducible refine (HF0.out _ _ _ _ hl0).mono ?_; rintro x w20 ⟨rfl, hc0⟩; replace hX := grow hX hc0; obtain ⟨x1, x2, x3, x4, x5, x6, x7, xl⟩ := Hx.out _ hX) | (go_at_call 88; with_reducible refine (hasT_any src _ oks).mono ?_; rintro x w11 ⟨A1, n1, c1, rfl, hl1, hb1⟩; replace hX := grow hX hb1; obtain ⟨x1, x2, x3, x4, x5, x6, x7, xl⟩ := Hx.out _ hX) | (go_at_call 9; with_reducible refine (HF1.out _ _ _ _ hl1).mono ?_; rintro x w21 ⟨rfl, hc1⟩; replace hX := grow hX hc1; obtain ⟨x1, x2, x3, x4, x5, x6, x7, xl⟩ := Hx.out _ hX) | (go_at_call 54; with_reducible refine (HW2.out _).mono ?_; rintro x w' ⟨rfl, rfl⟩) | (go_at_call 9; with_reducible refine (HF3.out _ (hbase.trans (hX.mono (by simp)))).mono ?_; rintro x w13 ⟨rfl, hb3⟩; replace hX := grow hX hb3; obtain ⟨x1, x2, x3, x4, x5, x6, x7, xl⟩ := Hx.out _ hX) | (go_at_call 55; with_reducible refine (HF4.out _ (hbase.trans (hX.mono (by simp)))).mono ?_; rintro x w14 ⟨rfl, hb4⟩; replace hX := grow hX hb4; obtain ⟨x1, x2, x3, x4, x5, x6, x7, xl⟩ := Hx.out _ hX))
  go_ret
  exact ⟨ret_bool Hfin.out.symm, hbase.trans (hX.mono (by simp))⟩

set_option maxRecDepth 100000 in
set_option maxHeartbeats 4000000 in
theorem shape_4_6 (F : Nat → Prop) (name src : ByteArray) (n : Int) (Ac Ae Ab Al : Option Addr) (nc cc ne ce nb cb nl cl : Nat) (cols : List ByteArray) (w : World) (hc : LsAt F w 1 SRow Ac nc cc cols) (okn : okS name) (oks : okS src) (hcl : cols.length = nc) (t0 : freeB name = true) (t1 : freeB src = true) (t2 : (decide ((1 : Int) ≤ (nc : Int)) && decide ((nc : Int) ≤ 8)) = true) (t3 : freesB cols = true) (t4 : decide cols.Nodup = true) (t5 : decide (n = 0) = true) (t6 : (decide (((nc : Int) + 1) ≤ (ne : Int)) && decide ((ne : Int) ≤ ((nc : Int) + 1))) = false) :
    Calls Try.prog 71 #[.agg #[.int .i64 4, .string name, .string src, .int .i64 n, .slice Ac nc cc, .slice Ae ne ce, .slice Ab nb cb, .slice Al nl cl]] w fun x w' => x = .returned (.bool (shapeR 4 name src n cols ne nb nl)) ∧ Below w.heap.size w w' := by
  have hcc : (decide (1 ≤ nc) && decide (nc ≤ 8)) = true := by simp at t2 ⊢; omega
  have hfin : shapeR 4 name src n cols ne nb nl = false := by
    simp [shapeR, shapeP, hcl, t0, t1, hcc, t3, t4, t5, t6]
  clear hcc
  have Hfin := Lib.hid hfin
  clear hfin
  obtain ⟨hbase, hX0, Hx⟩ := shStart4 4 name src n Ac Ae Ab Al nc cc ne ce nb cb nl cl w
  have HF0 := Lib.hid (fun (W : World) A m c (h : LsAt (fun _ => True) W 1 SRow A m c [name]) => free_any _ A m c _ W h)
  rw [freesB_one, t0] at HF0
  clear t0
  have HF1 := Lib.hid (fun (W : World) A m c (h : LsAt (fun _ => True) W 1 SRow A m c [src]) => free_any _ A m c _ W h)
  rw [freesB_one, t1] at HF1
  clear t1
  have h8 : nc ≤ 1000000 := by simp at t2; omega
  have HW2 := Lib.hid (fun W => within_any nc 1 8 W)
  rw [t2] at HW2
  clear t2
  have HF3 := Lib.hid (fun (W : World) (hW : Below w.heap.size w W) => free_any F Ac nc cc cols W (hc.below hW))
  rw [t3] at HF3
  clear t3
  have HF4 := Lib.hid (fun (W : World) (hW : Below w.heap.size w W) => unlike_any F Ac nc cc cols W (hc.below hW) h8)
  rw [t4] at HF4
  clear t4
  obtain rfl : n = 0 := by simpa using t5
  clear t5
  have HW6 := Lib.hid (fun W => within_any ne ((nc : Int) + 1) ((nc : Int) + 1) W)
  rw [t6] at HW6
  clear t6
  clear hcl hc
  go_enter Try.func71, Try.ntmps71
  go_upto_region 14 with (fail)
  go_quiet (fail)
  go_upto_region 25 with (fail)
  simp only [List.append_eq, List.cons_append, List.nil_append]
  go_wp2_with (first | (go_at_call 88; with_reducible refine (hasT_any name _ okn).mono ?_; rintro x w10 ⟨A0, n0, c0, rfl, hl0, hb0⟩; have hX := grow (hX0 _) hb0; obtain ⟨x1, x2, x3, x4, x5, x6, x7, xl⟩ := Hx.out _ hX) | (go_at_call 9; with_reducible refine (HF0.out _ _ _ _ hl0).mono ?_; rintro x w20 ⟨rfl, hc0⟩; replace hX := grow hX hc0; obtain ⟨x1, x2, x3, x4, x5, x6, x7, xl⟩ := Hx.out _ hX) | (go_at_call 88; with_reducible refine (hasT_any src _ oks).mono ?_; rintro x w11 ⟨A1, n1, c1, rfl, hl1, hb1⟩; replace hX := grow hX hb1; obtain ⟨x1, x2, x3, x4, x5, x6, x7, xl⟩ := Hx.out _ hX) | (go_at_call 9; with_reducible refine (HF1.out _ _ _ _ hl1).mono ?_; rintro x w21 ⟨rfl, hc1⟩; replace hX := grow hX hc1; obtain ⟨x1, x2, x3, x4, x5, x6, x7, xl⟩ := Hx.out _ hX) | (go_at_call 54; with_reducible refine (HW2.out _).mono ?_; rintro x w' ⟨rfl, rfl⟩) | (go_at_call 9; with_reducible refine (HF3.out _ (hbase.trans (hX.mono (by simp)))).mono ?_; rintro x w13 ⟨rfl, hb3⟩; replace hX := grow hX hb3; obtain ⟨x1, x2, x3, x4, x5, x6, x7, xl⟩ := Hx.out _ hX) | (go_at_call 55; with_reducible refine (HF4.out _ (hbase.trans (hX.mono (by simp)))).mono ?_; rintro x w14 ⟨rfl, hb4⟩; replace hX := grow hX hb4; obtain ⟨x1, x2, x3, x4, x5, x6, x7, xl⟩ := Hx.out _ hX) | (go_at_call 54; with_reducible refine (HW6.out _).mono ?_; rintro x w' ⟨rfl, rfl⟩))
  go_ret
  exact ⟨ret_bool Hfin.out.symm, hbase.trans (hX.mono (by simp))⟩

set_option maxRecDepth 100000 in
set_option maxHeartbeats 4000000 in
theorem shape_4_7 (F : Nat → Prop) (name src : ByteArray) (n : Int) (Ac Ae Ab Al : Option Addr) (nc cc ne ce nb cb nl cl : Nat) (cols : List ByteArray) (w : World) (hc : LsAt F w 1 SRow Ac nc cc cols) (okn : okS name) (oks : okS src) (hcl : cols.length = nc) (t0 : freeB name = true) (t1 : freeB src = true) (t2 : (decide ((1 : Int) ≤ (nc : Int)) && decide ((nc : Int) ≤ 8)) = true) (t3 : freesB cols = true) (t4 : decide cols.Nodup = true) (t5 : decide (n = 0) = true) (t6 : (decide (((nc : Int) + 1) ≤ (ne : Int)) && decide ((ne : Int) ≤ ((nc : Int) + 1))) = true) (t7 : decide (nb = 0) = false) :
    Calls Try.prog 71 #[.agg #[.int .i64 4, .string name, .string src, .int .i64 n, .slice Ac nc cc, .slice Ae ne ce, .slice Ab nb cb, .slice Al nl cl]] w fun x w' => x = .returned (.bool (shapeR 4 name src n cols ne nb nl)) ∧ Below w.heap.size w w' := by
  have hcc : (decide (1 ≤ nc) && decide (nc ≤ 8)) = true := by simp at t2 ⊢; omega
  have hfin : shapeR 4 name src n cols ne nb nl = false := by
    simp [shapeR, shapeP, hcl, t0, t1, hcc, t3, t4, t5, t6, t7]
  clear hcc
  have Hfin := Lib.hid hfin
  clear hfin
  obtain ⟨hbase, hX0, Hx⟩ := shStart4 4 name src n Ac Ae Ab Al nc cc ne ce nb cb nl cl w
  have HF0 := Lib.hid (fun (W : World) A m c (h : LsAt (fun _ => True) W 1 SRow A m c [name]) => free_any _ A m c _ W h)
  rw [freesB_one, t0] at HF0
  clear t0
  have HF1 := Lib.hid (fun (W : World) A m c (h : LsAt (fun _ => True) W 1 SRow A m c [src]) => free_any _ A m c _ W h)
  rw [freesB_one, t1] at HF1
  clear t1
  have h8 : nc ≤ 1000000 := by simp at t2; omega
  have HW2 := Lib.hid (fun W => within_any nc 1 8 W)
  rw [t2] at HW2
  clear t2
  have HF3 := Lib.hid (fun (W : World) (hW : Below w.heap.size w W) => free_any F Ac nc cc cols W (hc.below hW))
  rw [t3] at HF3
  clear t3
  have HF4 := Lib.hid (fun (W : World) (hW : Below w.heap.size w W) => unlike_any F Ac nc cc cols W (hc.below hW) h8)
  rw [t4] at HF4
  clear t4
  obtain rfl : n = 0 := by simpa using t5
  clear t5
  have HW6 := Lib.hid (fun W => within_any ne ((nc : Int) + 1) ((nc : Int) + 1) W)
  rw [t6] at HW6
  clear t6
  replace t7 : ((nb : Int) == 0) = false := by simp at t7 ⊢; omega
  clear hcl hc
  go_enter Try.func71, Try.ntmps71
  go_upto_region 14 with (fail)
  go_quiet (fail)
  go_upto_region 25 with (fail)
  simp only [List.append_eq, List.cons_append, List.nil_append]
  go_wp2_with (first | (go_at_call 88; with_reducible refine (hasT_any name _ okn).mono ?_; rintro x w10 ⟨A0, n0, c0, rfl, hl0, hb0⟩; have hX := grow (hX0 _) hb0; obtain ⟨x1, x2, x3, x4, x5, x6, x7, xl⟩ := Hx.out _ hX) | (go_at_call 9; with_reducible refine (HF0.out _ _ _ _ hl0).mono ?_; rintro x w20 ⟨rfl, hc0⟩; replace hX := grow hX hc0; obtain ⟨x1, x2, x3, x4, x5, x6, x7, xl⟩ := Hx.out _ hX) | (go_at_call 88; with_reducible refine (hasT_any src _ oks).mono ?_; rintro x w11 ⟨A1, n1, c1, rfl, hl1, hb1⟩; replace hX := grow hX hb1; obtain ⟨x1, x2, x3, x4, x5, x6, x7, xl⟩ := Hx.out _ hX) | (go_at_call 9; with_reducible refine (HF1.out _ _ _ _ hl1).mono ?_; rintro x w21 ⟨rfl, hc1⟩; replace hX := grow hX hc1; obtain ⟨x1, x2, x3, x4, x5, x6, x7, xl⟩ := Hx.out _ hX) | (go_at_call 54; with_reducible refine (HW2.out _).mono ?_; rintro x w' ⟨rfl, rfl⟩) | (go_at_call 9; with_reducible refine (HF3.out _ (hbase.trans (hX.mono (by simp)))).mono ?_; rintro x w13 ⟨rfl, hb3⟩; replace hX := grow hX hb3; obtain ⟨x1, x2, x3, x4, x5, x6, x7, xl⟩ := Hx.out _ hX) | (go_at_call 55; with_reducible refine (HF4.out _ (hbase.trans (hX.mono (by simp)))).mono ?_; rintro x w14 ⟨rfl, hb4⟩; replace hX := grow hX hb4; obtain ⟨x1, x2, x3, x4, x5, x6, x7, xl⟩ := Hx.out _ hX) | (go_at_call 54; with_reducible refine (HW6.out _).mono ?_; rintro x w' ⟨rfl, rfl⟩))
  go_ret
  exact ⟨ret_bool Hfin.out.symm, hbase.trans (hX.mono (by simp))⟩

set_option maxRecDepth 100000 in
set_option maxHeartbeats 4000000 in
theorem shape_4_8 (F : Nat → Prop) (name src : ByteArray) (n : Int) (Ac Ae Ab Al : Option Addr) (nc cc ne ce nb cb nl cl : Nat) (cols : List ByteArray) (w : World) (hc : LsAt F w 1 SRow Ac nc cc cols) (okn : okS name) (oks : okS src) (hcl : cols.length = nc) (t0 : freeB name = true) (t1 : freeB src = true) (t2 : (decide ((1 : Int) ≤ (nc : Int)) && decide ((nc : Int) ≤ 8)) = true) (t3 : freesB cols = true) (t4 : decide cols.Nodup = true) (t5 : decide (n = 0) = true) (t6 : (decide (((nc : Int) + 1) ≤ (ne : Int)) && decide ((ne : Int) ≤ ((nc : Int) + 1))) = true) (t7 : decide (nb = 0) = true) (t8 : decide (nl = 0) = false) :
    Calls Try.prog 71 #[.agg #[.int .i64 4, .string name, .string src, .int .i64 n, .slice Ac nc cc, .slice Ae ne ce, .slice Ab nb cb, .slice Al nl cl]] w fun x w' => x = .returned (.bool (shapeR 4 name src n cols ne nb nl)) ∧ Below w.heap.size w w' := by
  have hcc : (decide (1 ≤ nc) && decide (nc ≤ 8)) = true := by simp at t2 ⊢; omega
  have hfin : shapeR 4 name src n cols ne nb nl = false := by
    simp [shapeR, shapeP, hcl, t0, t1, hcc, t3, t4, t5, t6, t7, t8]
  clear hcc
  have Hfin := Lib.hid hfin
  clear hfin
  obtain ⟨hbase, hX0, Hx⟩ := shStart4 4 name src n Ac Ae Ab Al nc cc ne ce nb cb nl cl w
  have HF0 := Lib.hid (fun (W : World) A m c (h : LsAt (fun _ => True) W 1 SRow A m c [name]) => free_any _ A m c _ W h)
  rw [freesB_one, t0] at HF0
  clear t0
  have HF1 := Lib.hid (fun (W : World) A m c (h : LsAt (fun _ => True) W 1 SRow A m c [src]) => free_any _ A m c _ W h)
  rw [freesB_one, t1] at HF1
  clear t1
  have h8 : nc ≤ 1000000 := by simp at t2; omega
  have HW2 := Lib.hid (fun W => within_any nc 1 8 W)
  rw [t2] at HW2
  clear t2
  have HF3 := Lib.hid (fun (W : World) (hW : Below w.heap.size w W) => free_any F Ac nc cc cols W (hc.below hW))
  rw [t3] at HF3
  clear t3
  have HF4 := Lib.hid (fun (W : World) (hW : Below w.heap.size w W) => unlike_any F Ac nc cc cols W (hc.below hW) h8)
  rw [t4] at HF4
  clear t4
  obtain rfl : n = 0 := by simpa using t5
  clear t5
  have HW6 := Lib.hid (fun W => within_any ne ((nc : Int) + 1) ((nc : Int) + 1) W)
  rw [t6] at HW6
  clear t6
  obtain rfl : nb = 0 := by simpa using t7
  clear t7
  replace t8 : ((nl : Int) == 0) = false := by simp at t8 ⊢; omega
  clear hcl hc
  go_enter Try.func71, Try.ntmps71
  go_upto_region 14 with (fail)
  go_quiet (fail)
  go_upto_region 25 with (fail)
  simp only [List.append_eq, List.cons_append, List.nil_append]
  go_wp2_with (first | (go_at_call 88; with_reducible refine (hasT_any name _ okn).mono ?_; rintro x w10 ⟨A0, n0, c0, rfl, hl0, hb0⟩; have hX := grow (hX0 _) hb0; obtain ⟨x1, x2, x3, x4, x5, x6, x7, xl⟩ := Hx.out _ hX) | (go_at_call 9; with_reducible refine (HF0.out _ _ _ _ hl0).mono ?_; rintro x w20 ⟨rfl, hc0⟩; replace hX := grow hX hc0; obtain ⟨x1, x2, x3, x4, x5, x6, x7, xl⟩ := Hx.out _ hX) | (go_at_call 88; with_reducible refine (hasT_any src _ oks).mono ?_; rintro x w11 ⟨A1, n1, c1, rfl, hl1, hb1⟩; replace hX := grow hX hb1; obtain ⟨x1, x2, x3, x4, x5, x6, x7, xl⟩ := Hx.out _ hX) | (go_at_call 9; with_reducible refine (HF1.out _ _ _ _ hl1).mono ?_; rintro x w21 ⟨rfl, hc1⟩; replace hX := grow hX hc1; obtain ⟨x1, x2, x3, x4, x5, x6, x7, xl⟩ := Hx.out _ hX) | (go_at_call 54; with_reducible refine (HW2.out _).mono ?_; rintro x w' ⟨rfl, rfl⟩) | (go_at_call 9; with_reducible refine (HF3.out _ (hbase.trans (hX.mono (by simp)))).mono ?_; rintro x w13 ⟨rfl, hb3⟩; replace hX := grow hX hb3; obtain ⟨x1, x2, x3, x4, x5, x6, x7, xl⟩ := Hx.out _ hX) | (go_at_call 55; with_reducible refine (HF4.out _ (hbase.trans (hX.mono (by simp)))).mono ?_; rintro x w14 ⟨rfl, hb4⟩; replace hX := grow hX hb4; obtain ⟨x1, x2, x3, x4, x5, x6, x7, xl⟩ := Hx.out _ hX) | (go_at_call 54; with_reducible refine (HW6.out _).mono ?_; rintro x w' ⟨rfl, rfl⟩))
  go_ret
  exact ⟨ret_bool Hfin.out.symm, hbase.trans (hX.mono (by simp))⟩

set_option maxRecDepth 100000 in
set_option maxHeartbeats 4000000 in
theorem shape_4_9 (F : Nat → Prop) (name src : ByteArray) (n : Int) (Ac Ae Ab Al : Option Addr) (nc cc ne ce nb cb nl cl : Nat) (cols : List ByteArray) (w : World) (hc : LsAt F w 1 SRow Ac nc cc cols) (okn : okS name) (oks : okS src) (hcl : cols.length = nc) (t0 : freeB name = true) (t1 : freeB src = true) (t2 : (decide ((1 : Int) ≤ (nc : Int)) && decide ((nc : Int) ≤ 8)) = true) (t3 : freesB cols = true) (t4 : decide cols.Nodup = true) (t5 : decide (n = 0) = true) (t6 : (decide (((nc : Int) + 1) ≤ (ne : Int)) && decide ((ne : Int) ≤ ((nc : Int) + 1))) = true) (t7 : decide (nb = 0) = true) (t8 : decide (nl = 0) = true) :
    Calls Try.prog 71 #[.agg #[.int .i64 4, .string name, .string src, .int .i64 n, .slice Ac nc cc, .slice Ae ne ce, .slice Ab nb cb, .slice Al nl cl]] w fun x w' => x = .returned (.bool (shapeR 4 name src n cols ne nb nl)) ∧ Below w.heap.size w w' := by
  have hcc : (decide (1 ≤ nc) && decide (nc ≤ 8)) = true := by simp at t2 ⊢; omega
  have hfin : shapeR 4 name src n cols ne nb nl = true := by
    simp [shapeR, shapeP, hcl, t0, t1, hcc, t3, t4, t5, t6, t7, t8]
  clear hcc
  have Hfin := Lib.hid hfin
  clear hfin
  obtain ⟨hbase, hX0, Hx⟩ := shStart4 4 name src n Ac Ae Ab Al nc cc ne ce nb cb nl cl w
  have HF0 := Lib.hid (fun (W : World) A m c (h : LsAt (fun _ => True) W 1 SRow A m c [name]) => free_any _ A m c _ W h)
  rw [freesB_one, t0] at HF0
  clear t0
  have HF1 := Lib.hid (fun (W : World) A m c (h : LsAt (fun _ => True) W 1 SRow A m c [src]) => free_any _ A m c _ W h)
  rw [freesB_one, t1] at HF1
  clear t1
  have h8 : nc ≤ 1000000 := by simp at t2; omega
  have HW2 := Lib.hid (fun W => within_any nc 1 8 W)
  rw [t2] at HW2
  clear t2
  have HF3 := Lib.hid (fun (W : World) (hW : Below w.heap.size w W) => free_any F Ac nc cc cols W (hc.below hW))
  rw [t3] at HF3
  clear t3
  have HF4 := Lib.hid (fun (W : World) (hW : Below w.heap.size w W) => unlike_any F Ac nc cc cols W (hc.below hW) h8)
  rw [t4] at HF4
  clear t4
  obtain rfl : n = 0 := by simpa using t5
  clear t5
  have HW6 := Lib.hid (fun W => within_any ne ((nc : Int) + 1) ((nc : Int) + 1) W)
  rw [t6] at HW6
  clear t6
  obtain rfl : nb = 0 := by simpa using t7
  clear t7
  obtain rfl : nl = 0 := by simpa using t8
  clear t8
  clear hcl hc
  go_enter Try.func71, Try.ntmps71
  go_upto_region 14 with (fail)
  go_quiet (fail)
  go_upto_region 25 with (fail)
  simp only [List.append_eq, List.cons_append, List.nil_append]
  go_wp2_with (first | (go_at_call 88; with_reducible refine (hasT_any name _ okn).mono ?_; rintro x w10 ⟨A0, n0, c0, rfl, hl0, hb0⟩; have hX := grow (hX0 _) hb0; obtain ⟨x1, x2, x3, x4, x5, x6, x7, xl⟩ := Hx.out _ hX) | (go_at_call 9; with_reducible refine (HF0.out _ _ _ _ hl0).mono ?_; rintro x w20 ⟨rfl, hc0⟩; replace hX := grow hX hc0; obtain ⟨x1, x2, x3, x4, x5, x6, x7, xl⟩ := Hx.out _ hX) | (go_at_call 88; with_reducible refine (hasT_any src _ oks).mono ?_; rintro x w11 ⟨A1, n1, c1, rfl, hl1, hb1⟩; replace hX := grow hX hb1; obtain ⟨x1, x2, x3, x4, x5, x6, x7, xl⟩ := Hx.out _ hX) | (go_at_call 9; with_reducible refine (HF1.out _ _ _ _ hl1).mono ?_; rintro x w21 ⟨rfl, hc1⟩; replace hX := grow hX hc1; obtain ⟨x1, x2, x3, x4, x5, x6, x7, xl⟩ := Hx.out _ hX) | (go_at_call 54; with_reducible refine (HW2.out _).mono ?_; rintro x w' ⟨rfl, rfl⟩) | (go_at_call 9; with_reducible refine (HF3.out _ (hbase.trans (hX.mono (by simp)))).mono ?_; rintro x w13 ⟨rfl, hb3⟩; replace hX := grow hX hb3; obtain ⟨x1, x2, x3, x4, x5, x6, x7, xl⟩ := Hx.out _ hX) | (go_at_call 55; with_reducible refine (HF4.out _ (hbase.trans (hX.mono (by simp)))).mono ?_; rintro x w14 ⟨rfl, hb4⟩; replace hX := grow hX hb4; obtain ⟨x1, x2, x3, x4, x5, x6, x7, xl⟩ := Hx.out _ hX) | (go_at_call 54; with_reducible refine (HW6.out _).mono ?_; rintro x w' ⟨rfl, rfl⟩))
  go_ret
  exact ⟨ret_bool Hfin.out.symm, hbase.trans (hX.mono (by simp))⟩

theorem shapeK_4 (F : Nat → Prop) (name src : ByteArray) (n : Int) (Ac Ae Ab Al : Option Addr) (nc cc ne ce nb cb nl cl : Nat) (cols : List ByteArray) (w : World) (hc : LsAt F w 1 SRow Ac nc cc cols) (okn : okS name) (oks : okS src) :
    Calls Try.prog 71 #[.agg #[.int .i64 4, .string name, .string src, .int .i64 n, .slice Ac nc cc, .slice Ae ne ce, .slice Ab nb cb, .slice Al nl cl]] w fun x w' => x = .returned (.bool (shapeR 4 name src n cols ne nb nl)) ∧ Below w.heap.size w w' := by
  have hcl := hc.len
  cases t0 : freeB name
  · exact shape_4_0 name src n Ac Ae Ab Al nc cc ne ce nb cb nl cl cols w okn hcl t0
  cases t1 : freeB src
  · exact shape_4_1 name src n Ac Ae Ab Al nc cc ne ce nb cb nl cl cols w okn oks hcl t0 t1
  cases t2 : (decide ((1 : Int) ≤ (nc : Int)) && decide ((nc : Int) ≤ 8))
  · exact shape_4_2 name src n Ac Ae Ab Al nc cc ne ce nb cb nl cl cols w okn oks hcl t0 t1 t2
  cases t3 : freesB cols
  · exact shape_4_3 F name src n Ac Ae Ab Al nc cc ne ce nb cb nl cl cols w hc okn oks hcl t0 t1 t2 t3
  cases t4 : decide cols.Nodup
  · exact shape_4_4 F name src n Ac Ae Ab Al nc cc ne ce nb cb nl cl cols w hc okn oks hcl t0 t1 t2 t3 t4
  cases t5 : decide (n = 0)
  · exact shape_4_5 F name src n Ac Ae Ab Al nc cc ne ce nb cb nl cl cols w hc okn oks hcl t0 t1 t2 t3 t4 t5
  cases t6 : (decide (((nc : Int) + 1) ≤ (ne : Int)) && decide ((ne : Int) ≤ ((nc : Int) + 1)))
  · exact shape_4_6 F name src n Ac Ae Ab Al nc cc ne ce nb cb nl cl cols w hc okn oks hcl t0 t1 t2 t3 t4 t5 t6
  cases t7 : decide (nb = 0)
  · exact shape_4_7 F name src n Ac Ae Ab Al nc cc ne ce nb cb nl cl cols w hc okn oks hcl t0 t1 t2 t3 t4 t5 t6 t7
  cases t8 : decide (nl = 0)
  · exact shape_4_8 F name src n Ac Ae Ab Al nc cc ne ce nb cb nl cl cols w hc okn oks hcl t0 t1 t2 t3 t4 t5 t6 t7 t8
  exact shape_4_9 F name src n Ac Ae Ab Al nc cc ne ce nb cb nl cl cols w hc okn oks hcl t0 t1 t2 t3 t4 t5 t6 t7 t8

set_option maxRecDepth 100000 in
set_option maxHeartbeats 4000000 in
theorem shape_6_0 (name src : ByteArray) (n : Int) (Ac Ae Ab Al : Option Addr) (nc cc ne ce nb cb nl cl : Nat) (cols : List ByteArray) (w : World) (okn : okS name) (hcl : cols.length = nc) (t0 : freeB name = false) :
    Calls Try.prog 71 #[.agg #[.int .i64 6, .string name, .string src, .int .i64 n, .slice Ac nc cc, .slice Ae ne ce, .slice Ab nb cb, .slice Al nl cl]] w fun x w' => x = .returned (.bool (shapeR 6 name src n cols ne nb nl)) ∧ Below w.heap.size w w' := by
  have hfin : shapeR 6 name src n cols ne nb nl = false := by
    simp [shapeR, shapeP, hcl, t0]
  have Hfin := Lib.hid hfin
  clear hfin
  obtain ⟨hbase, hX, Hx⟩ := shStart 6 name src n Ac Ae Ab Al nc cc ne ce nb cb nl cl w
  have HF0 := Lib.hid (fun (W : World) A m c (h : LsAt (fun _ => True) W 1 SRow A m c [name]) => free_any _ A m c _ W h)
  rw [freesB_one, t0] at HF0
  clear t0
  clear hcl
  go_enter Try.func71, Try.ntmps71
  go_upto_region 25 with (fail)
  simp only [List.append_eq, List.cons_append, List.nil_append]
  go_wp2_with (first | (go_at_call 88; with_reducible refine (hasT_any name _ okn).mono ?_; rintro x w10 ⟨A0, n0, c0, rfl, hl0, hb0⟩; replace hX := grow hX hb0; obtain ⟨x1, x2, x3, x4, x5, x6, x7, xl⟩ := Hx.out _ hX) | (go_at_call 9; with_reducible refine (HF0.out _ _ _ _ hl0).mono ?_; rintro x w20 ⟨rfl, hc0⟩; replace hX := grow hX hc0; obtain ⟨x1, x2, x3, x4, x5, x6, x7, xl⟩ := Hx.out _ hX))
  go_ret
  exact ⟨ret_bool Hfin.out.symm, hbase.trans (hX.mono (by simp))⟩

set_option maxRecDepth 100000 in
set_option maxHeartbeats 4000000 in
theorem shape_6_1 (name src : ByteArray) (n : Int) (Ac Ae Ab Al : Option Addr) (nc cc ne ce nb cb nl cl : Nat) (cols : List ByteArray) (w : World) (okn : okS name) (oks : okS src) (hcl : cols.length = nc) (t0 : freeB name = true) (t1 : freeB src = false) :
    Calls Try.prog 71 #[.agg #[.int .i64 6, .string name, .string src, .int .i64 n, .slice Ac nc cc, .slice Ae ne ce, .slice Ab nb cb, .slice Al nl cl]] w fun x w' => x = .returned (.bool (shapeR 6 name src n cols ne nb nl)) ∧ Below w.heap.size w w' := by
  have hfin : shapeR 6 name src n cols ne nb nl = false := by
    simp [shapeR, shapeP, hcl, t0, t1]
  have Hfin := Lib.hid hfin
  clear hfin
  obtain ⟨hbase, hX, Hx⟩ := shStart 6 name src n Ac Ae Ab Al nc cc ne ce nb cb nl cl w
  have HF0 := Lib.hid (fun (W : World) A m c (h : LsAt (fun _ => True) W 1 SRow A m c [name]) => free_any _ A m c _ W h)
  rw [freesB_one, t0] at HF0
  clear t0
  have HF1 := Lib.hid (fun (W : World) A m c (h : LsAt (fun _ => True) W 1 SRow A m c [src]) => free_any _ A m c _ W h)
  rw [freesB_one, t1] at HF1
  clear t1
  clear hcl
  go_enter Try.func71, Try.ntmps71
  go_upto_region 25 with (fail)
  simp only [List.append_eq, List.cons_append, List.nil_append]
  go_wp2_with (first | (go_at_call 88; with_reducible refine (hasT_any name _ okn).mono ?_; rintro x w10 ⟨A0, n0, c0, rfl, hl0, hb0⟩; replace hX := grow hX hb0; obtain ⟨x1, x2, x3, x4, x5, x6, x7, xl⟩ := Hx.out _ hX) | (go_at_call 9; with_reducible refine (HF0.out _ _ _ _ hl0).mono ?_; rintro x w20 ⟨rfl, hc0⟩; replace hX := grow hX hc0; obtain ⟨x1, x2, x3, x4, x5, x6, x7, xl⟩ := Hx.out _ hX) | (go_at_call 88; with_reducible refine (hasT_any src _ oks).mono ?_; rintro x w11 ⟨A1, n1, c1, rfl, hl1, hb1⟩; replace hX := grow hX hb1; obtain ⟨x1, x2, x3, x4, x5, x6, x7, xl⟩ := Hx.out _ hX) | (go_at_call 9; with_reducible refine (HF1.out _ _ _ _ hl1).mono ?_; rintro x w21 ⟨rfl, hc1⟩; replace hX := grow hX hc1; obtain ⟨x1, x2, x3, x4, x5, x6, x7, xl⟩ := Hx.out _ hX))
  go_ret
  exact ⟨ret_bool Hfin.out.symm, hbase.trans (hX.mono (by simp))⟩

set_option maxRecDepth 100000 in
set_option maxHeartbeats 4000000 in
theorem shape_6_2 (name src : ByteArray) (n : Int) (Ac Ae Ab Al : Option Addr) (nc cc ne ce nb cb nl cl : Nat) (cols : List ByteArray) (w : World) (okn : okS name) (oks : okS src) (hcl : cols.length = nc) (t0 : freeB name = true) (t1 : freeB src = true) (t2 : decide (nc = 0) = false) :
    Calls Try.prog 71 #[.agg #[.int .i64 6, .string name, .string src, .int .i64 n, .slice Ac nc cc, .slice Ae ne ce, .slice Ab nb cb, .slice Al nl cl]] w fun x w' => x = .returned (.bool (shapeR 6 name src n cols ne nb nl)) ∧ Below w.heap.size w w' := by
  have hfin : shapeR 6 name src n cols ne nb nl = false := by
    simp [shapeR, shapeP, hcl, t0, t1, t2]
  have Hfin := Lib.hid hfin
  clear hfin
  obtain ⟨hbase, hX, Hx⟩ := shStart 6 name src n Ac Ae Ab Al nc cc ne ce nb cb nl cl w
  have HF0 := Lib.hid (fun (W : World) A m c (h : LsAt (fun _ => True) W 1 SRow A m c [name]) => free_any _ A m c _ W h)
  rw [freesB_one, t0] at HF0
  clear t0
  have HF1 := Lib.hid (fun (W : World) A m c (h : LsAt (fun _ => True) W 1 SRow A m c [src]) => free_any _ A m c _ W h)
  rw [freesB_one, t1] at HF1
  clear t1
  replace t2 : ((nc : Int) == 0) = false := by simp at t2 ⊢; omega
  clear hcl
  go_enter Try.func71, Try.ntmps71
  go_upto_region 25 with (fail)
  simp only [List.append_eq, List.cons_append, List.nil_append]
  go_wp2_with (first | (go_at_call 88; with_reducible refine (hasT_any name _ okn).mono ?_; rintro x w10 ⟨A0, n0, c0, rfl, hl0, hb0⟩; replace hX := grow hX hb0; obtain ⟨x1, x2, x3, x4, x5, x6, x7, xl⟩ := Hx.out _ hX) | (go_at_call 9; with_reducible refine (HF0.out _ _ _ _ hl0).mono ?_; rintro x w20 ⟨rfl, hc0⟩; replace hX := grow hX hc0; obtain ⟨x1, x2, x3, x4, x5, x6, x7, xl⟩ := Hx.out _ hX) | (go_at_call 88; with_reducible refine (hasT_any src _ oks).mono ?_; rintro x w11 ⟨A1, n1, c1, rfl, hl1, hb1⟩; replace hX := grow hX hb1; obtain ⟨x1, x2, x3, x4, x5, x6, x7, xl⟩ := Hx.out _ hX) | (go_at_call 9; with_reducible refine (HF1.out _ _ _ _ hl1).mono ?_; rintro x w21 ⟨rfl, hc1⟩; replace hX := grow hX hc1; obtain ⟨x1, x2, x3, x4, x5, x6, x7, xl⟩ := Hx.out _ hX))
  go_ret
  exact ⟨ret_bool Hfin.out.symm, hbase.trans (hX.mono (by simp))⟩

set_option maxRecDepth 100000 in
set_option maxHeartbeats 4000000 in
theorem shape_6_3 (name src : ByteArray) (n : Int) (Ac Ae Ab Al : Option Addr) (nc cc ne ce nb cb nl cl : Nat) (cols : List ByteArray) (w : World) (okn : okS name) (oks : okS src) (hcl : cols.length = nc) (t0 : freeB name = true) (t1 : freeB src = true) (t2 : decide (nc = 0) = true) (t3 : (decide (0 ≤ n) && decide (n ≤ 1000)) = false) :
    Calls Try.prog 71 #[.agg #[.int .i64 6, .string name, .string src, .int .i64 n, .slice Ac nc cc, .slice Ae ne ce, .slice Ab nb cb, .slice Al nl cl]] w fun x w' => x = .returned (.bool (shapeR 6 name src n cols ne nb nl)) ∧ Below w.heap.size w w' := by
  have hfin : shapeR 6 name src n cols ne nb nl = false := by
    simp [shapeR, shapeP, hcl, t0, t1, t2, t3]
  have Hfin := Lib.hid hfin
  clear hfin
  obtain ⟨hbase, hX, Hx⟩ := shStart 6 name src n Ac Ae Ab Al nc cc ne ce nb cb nl cl w
  have HF0 := Lib.hid (fun (W : World) A m c (h : LsAt (fun _ => True) W 1 SRow A m c [name]) => free_any _ A m c _ W h)
  rw [freesB_one, t0] at HF0
  clear t0
  have HF1 := Lib.hid (fun (W : World) A m c (h : LsAt (fun _ => True) W 1 SRow A m c [src]) => free_any _ A m c _ W h)
  rw [freesB_one, t1] at HF1
  clear t1
  obtain rfl : nc = 0 := by simpa using t2
  clear t2
  have HW3 := Lib.hid (fun W => within_any n 0 1000 W)
  rw [t3] at HW3
  clear t3
  clear hcl
  go_enter Try.func71, Try.ntmps71
  go_upto_region 25 with (fail)
  simp only [List.append_eq, List.cons_append, List.nil_append]
  go_wp2_with (first | (go_at_call 88; with_reducible refine (hasT_any name _ okn).mono ?_; rintro x w10 ⟨A0, n0, c0, rfl, hl0, hb0⟩; replace hX := grow hX hb0; obtain ⟨x1, x2, x3, x4, x5, x6, x7, xl⟩ := Hx.out _ hX) | (go_at_call 9; with_reducible refine (HF0.out _ _ _ _ hl0).mono ?_; rintro x w20 ⟨rfl, hc0⟩; replace hX := grow hX hc0; obtain ⟨x1, x2, x3, x4, x5, x6, x7, xl⟩ := Hx.out _ hX) | (go_at_call 88; with_reducible refine (hasT_any src _ oks).mono ?_; rintro x w11 ⟨A1, n1, c1, rfl, hl1, hb1⟩; replace hX := grow hX hb1; obtain ⟨x1, x2, x3, x4, x5, x6, x7, xl⟩ := Hx.out _ hX) | (go_at_call 9; with_reducible refine (HF1.out _ _ _ _ hl1).mono ?_; rintro x w21 ⟨rfl, hc1⟩; replace hX := grow hX hc1; obtain ⟨x1, x2, x3, x4, x5, x6, x7, xl⟩ := Hx.out _ hX) | (go_at_call 54; with_reducible refine (HW3.out _).mono ?_; rintro x w' ⟨rfl, rfl⟩))
  go_ret
  exact ⟨ret_bool Hfin.out.symm, hbase.trans (hX.mono (by simp))⟩

set_option maxRecDepth 100000 in
set_option maxHeartbeats 4000000 in
theorem shape_6_4 (name src : ByteArray) (n : Int) (Ac Ae Ab Al : Option Addr) (nc cc ne ce nb cb nl cl : Nat) (cols : List ByteArray) (w : World) (okn : okS name) (oks : okS src) (hcl : cols.length = nc) (t0 : freeB name = true) (t1 : freeB src = true) (t2 : decide (nc = 0) = true) (t3 : (decide (0 ≤ n) && decide (n ≤ 1000)) = true) (t4 : (decide (1 ≤ (ne : Int)) && decide ((ne : Int) ≤ 1)) = false) :
    Calls Try.prog 71 #[.agg #[.int .i64 6, .string name, .string src, .int .i64 n, .slice Ac nc cc, .slice Ae ne ce, .slice Ab nb cb, .slice Al nl cl]] w fun x w' => x = .returned (.bool (shapeR 6 name src n cols ne nb nl)) ∧ Below w.heap.size w w' := by
  have hfin : shapeR 6 name src n cols ne nb nl = false := by
    simp [shapeR, shapeP, hcl, t0, t1, t2, t3, t4]
  have Hfin := Lib.hid hfin
  clear hfin
  obtain ⟨hbase, hX, Hx⟩ := shStart 6 name src n Ac Ae Ab Al nc cc ne ce nb cb nl cl w
  have HF0 := Lib.hid (fun (W : World) A m c (h : LsAt (fun _ => True) W 1 SRow A m c [name]) => free_any _ A m c _ W h)
  rw [freesB_one, t0] at HF0
  clear t0
  have HF1 := Lib.hid (fun (W : World) A m c (h : LsAt (fun _ => True) W 1 SRow A m c [src]) => free_any _ A m c _ W h)
  rw [freesB_one, t1] at HF1
  clear t1
  obtain rfl : nc = 0 := by simpa using t2
  clear t2
  have HW3 := Lib.hid (fun W => within_any n 0 1000 W)
  rw [t3] at HW3
  clear t3
  have HW4 := Lib.hid (fun W => within_any ne 1 1 W)
  rw [t4] at HW4
  clear t4
  clear hcl
  go_enter Try.func71, Try.ntmps71
  go_upto_region 25 with (fail)
  simp only [List.append_eq, List.cons_append, List.nil_append]
  go_wp2_with (first | (go_at_call 88; with_reducible refine (hasT_any name _ okn).mono ?_; rintro x w10 ⟨A0, n0, c0, rfl, hl0, hb0⟩; replace hX := grow hX hb0; obtain ⟨x1, x2, x3, x4, x5, x6, x7, xl⟩ := Hx.out _ hX) | (go_at_call 9; with_reducible refine (HF0.out _ _ _ _ hl0).mono ?_; rintro x w20 ⟨rfl, hc0⟩; replace hX := grow hX hc0; obtain ⟨x1, x2, x3, x4, x5, x6, x7, xl⟩ := Hx.out _ hX) | (go_at_call 88; with_reducible refine (hasT_any src _ oks).mono ?_; rintro x w11 ⟨A1, n1, c1, rfl, hl1, hb1⟩; replace hX := grow hX hb1; obtain ⟨x1, x2, x3, x4, x5, x6, x7, xl⟩ := Hx.out _ hX) | (go_at_call 9; with_reducible refine (HF1.out _ _ _ _ hl1).mono ?_; rintro x w21 ⟨rfl, hc1⟩; replace hX := grow hX hc1; obtain ⟨x1, x2, x3, x4, x5, x6, x7, xl⟩ := Hx.out _ hX) | (go_at_call 54; with_reducible refine (HW3.out _).mono ?_; rintro x w' ⟨rfl, rfl⟩) | (go_at_call 54; with_reducible refine (HW4.out _).mono ?_; rintro x w' ⟨rfl, rfl⟩))
  go_ret
  exact ⟨ret_bool Hfin.out.symm, hbase.trans (hX.mono (by simp))⟩

set_option maxRecDepth 100000 in
set_option maxHeartbeats 4000000 in
theorem shape_6_5 (name src : ByteArray) (n : Int) (Ac Ae Ab Al : Option Addr) (nc cc ne ce nb cb nl cl : Nat) (cols : List ByteArray) (w : World) (okn : okS name) (oks : okS src) (hcl : cols.length = nc) (t0 : freeB name = true) (t1 : freeB src = true) (t2 : decide (nc = 0) = true) (t3 : (decide (0 ≤ n) && decide (n ≤ 1000)) = true) (t4 : (decide (1 ≤ (ne : Int)) && decide ((ne : Int) ≤ 1)) = true) (t5 : decide (nl = 0) = false) :
    Calls Try.prog 71 #[.agg #[.int .i64 6, .string name, .string src, .int .i64 n, .slice Ac nc cc, .slice Ae ne ce, .slice Ab nb cb, .slice Al nl cl]] w fun x w' => x = .returned (.bool (shapeR 6 name src n cols ne nb nl)) ∧ Below w.heap.size w w' := by
  have hfin : shapeR 6 name src n cols ne nb nl = false := by
    simp [shapeR, shapeP, hcl, t0, t1, t2, t3, t4, t5]
  have Hfin := Lib.hid hfin
  clear hfin
  obtain ⟨hbase, hX, Hx⟩ := shStart 6 name src n Ac Ae Ab Al nc cc ne ce nb cb nl cl w
  have HF0 := Lib.hid (fun (W : World) A m c (h : LsAt (fun _ => True) W 1 SRow A m c [name]) => free_any _ A m c _ W h)
  rw [freesB_one, t0] at HF0
  clear t0
  have HF1 := Lib.hid (fun (W : World) A m c (h : LsAt (fun _ => True) W 1 SRow A m c [src]) => free_any _ A m c _ W h)
  rw [freesB_one, t1] at HF1
  clear t1
  obtain rfl : nc = 0 := by simpa using t2
  clear t2
  have HW3 := Lib.hid (fun W => within_any n 0 1000 W)
  rw [t3] at HW3
  clear t3
  have HW4 := Lib.hid (fun W => within_any ne 1 1 W)
  rw [t4] at HW4
  clear t4
  replace t5 : ((nl : Int) == 0) = false := by simp at t5 ⊢; omega
  clear hcl
  go_enter Try.func71, Try.ntmps71
  go_upto_region 25 with (fail)
  simp only [List.append_eq, List.cons_append, List.nil_append]
  go_wp2_with (first | (go_at_call 88; with_reducible refine (hasT_any name _ okn).mono ?_; rintro x w10 ⟨A0, n0, c0, rfl, hl0, hb0⟩; replace hX := grow hX hb0; obtain ⟨x1, x2, x3, x4, x5, x6, x7, xl⟩ := Hx.out _ hX) | (go_at_call 9; with_reducible refine (HF0.out _ _ _ _ hl0).mono ?_; rintro x w20 ⟨rfl, hc0⟩; replace hX := grow hX hc0; obtain ⟨x1, x2, x3, x4, x5, x6, x7, xl⟩ := Hx.out _ hX) | (go_at_call 88; with_reducible refine (hasT_any src _ oks).mono ?_; rintro x w11 ⟨A1, n1, c1, rfl, hl1, hb1⟩; replace hX := grow hX hb1; obtain ⟨x1, x2, x3, x4, x5, x6, x7, xl⟩ := Hx.out _ hX) | (go_at_call 9; with_reducible refine (HF1.out _ _ _ _ hl1).mono ?_; rintro x w21 ⟨rfl, hc1⟩; replace hX := grow hX hc1; obtain ⟨x1, x2, x3, x4, x5, x6, x7, xl⟩ := Hx.out _ hX) | (go_at_call 54; with_reducible refine (HW3.out _).mono ?_; rintro x w' ⟨rfl, rfl⟩) | (go_at_call 54; with_reducible refine (HW4.out _).mono ?_; rintro x w' ⟨rfl, rfl⟩))
  go_ret
  exact ⟨ret_bool Hfin.out.symm, hbase.trans (hX.mono (by simp))⟩

set_option maxRecDepth 100000 in
set_option maxHeartbeats 4000000 in
theorem shape_6_6 (name src : ByteArray) (n : Int) (Ac Ae Ab Al : Option Addr) (nc cc ne ce nb cb nl cl : Nat) (cols : List ByteArray) (w : World) (okn : okS name) (oks : okS src) (hcl : cols.length = nc) (t0 : freeB name = true) (t1 : freeB src = true) (t2 : decide (nc = 0) = true) (t3 : (decide (0 ≤ n) && decide (n ≤ 1000)) = true) (t4 : (decide (1 ≤ (ne : Int)) && decide ((ne : Int) ≤ 1)) = true) (t5 : decide (nl = 0) = true) :
    Calls Try.prog 71 #[.agg #[.int .i64 6, .string name, .string src, .int .i64 n, .slice Ac nc cc, .slice Ae ne ce, .slice Ab nb cb, .slice Al nl cl]] w fun x w' => x = .returned (.bool (shapeR 6 name src n cols ne nb nl)) ∧ Below w.heap.size w w' := by
  have hfin : shapeR 6 name src n cols ne nb nl = true := by
    simp [shapeR, shapeP, hcl, t0, t1, t2, t3, t4, t5]
  have Hfin := Lib.hid hfin
  clear hfin
  obtain ⟨hbase, hX, Hx⟩ := shStart 6 name src n Ac Ae Ab Al nc cc ne ce nb cb nl cl w
  have HF0 := Lib.hid (fun (W : World) A m c (h : LsAt (fun _ => True) W 1 SRow A m c [name]) => free_any _ A m c _ W h)
  rw [freesB_one, t0] at HF0
  clear t0
  have HF1 := Lib.hid (fun (W : World) A m c (h : LsAt (fun _ => True) W 1 SRow A m c [src]) => free_any _ A m c _ W h)
  rw [freesB_one, t1] at HF1
  clear t1
  obtain rfl : nc = 0 := by simpa using t2
  clear t2
  have HW3 := Lib.hid (fun W => within_any n 0 1000 W)
  rw [t3] at HW3
  clear t3
  have HW4 := Lib.hid (fun W => within_any ne 1 1 W)
  rw [t4] at HW4
  clear t4
  obtain rfl : nl = 0 := by simpa using t5
  clear t5
  clear hcl
  go_enter Try.func71, Try.ntmps71
  go_upto_region 25 with (fail)
  simp only [List.append_eq, List.cons_append, List.nil_append]
  go_wp2_with (first | (go_at_call 88; with_reducible refine (hasT_any name _ okn).mono ?_; rintro x w10 ⟨A0, n0, c0, rfl, hl0, hb0⟩; replace hX := grow hX hb0; obtain ⟨x1, x2, x3, x4, x5, x6, x7, xl⟩ := Hx.out _ hX) | (go_at_call 9; with_reducible refine (HF0.out _ _ _ _ hl0).mono ?_; rintro x w20 ⟨rfl, hc0⟩; replace hX := grow hX hc0; obtain ⟨x1, x2, x3, x4, x5, x6, x7, xl⟩ := Hx.out _ hX) | (go_at_call 88; with_reducible refine (hasT_any src _ oks).mono ?_; rintro x w11 ⟨A1, n1, c1, rfl, hl1, hb1⟩; replace hX := grow hX hb1; obtain ⟨x1, x2, x3, x4, x5, x6, x7, xl⟩ := Hx.out _ hX) | (go_at_call 9; with_reducible refine (HF1.out _ _ _ _ hl1).mono ?_; rintro x w21 ⟨rfl, hc1⟩; replace hX := grow hX hc1; obtain ⟨x1, x2, x3, x4, x5, x6, x7, xl⟩ := Hx.out _ hX) | (go_at_call 54; with_reducible refine (HW3.out _).mono ?_; rintro x w' ⟨rfl, rfl⟩) | (go_at_call 54; with_reducible refine (HW4.out _).mono ?_; rintro x w' ⟨rfl, rfl⟩))
  go_ret
  exact ⟨ret_bool Hfin.out.symm, hbase.trans (hX.mono (by simp))⟩

theorem shapeK_6 (F : Nat → Prop) (name src : ByteArray) (n : Int) (Ac Ae Ab Al : Option Addr) (nc cc ne ce nb cb nl cl : Nat) (cols : List ByteArray) (w : World) (hc : LsAt F w 1 SRow Ac nc cc cols) (okn : okS name) (oks : okS src) :
    Calls Try.prog 71 #[.agg #[.int .i64 6, .string name, .string src, .int .i64 n, .slice Ac nc cc, .slice Ae ne ce, .slice Ab nb cb, .slice Al nl cl]] w fun x w' => x = .returned (.bool (shapeR 6 name src n cols ne nb nl)) ∧ Below w.heap.size w w' := by
  have hcl := hc.len
  cases t0 : freeB name
  · exact shape_6_0 name src n Ac Ae Ab Al nc cc ne ce nb cb nl cl cols w okn hcl t0
  cases t1 : freeB src
  · exact shape_6_1 name src n Ac Ae Ab Al nc cc ne ce nb cb nl cl cols w okn oks hcl t0 t1
  cases t2 : decide (nc = 0)
  · exact shape_6_2 name src n Ac Ae Ab Al nc cc ne ce nb cb nl cl cols w okn oks hcl t0 t1 t2
  cases t3 : (decide (0 ≤ n) && decide (n ≤ 1000))
  · exact shape_6_3 name src n Ac Ae Ab Al nc cc ne ce nb cb nl cl cols w okn oks hcl t0 t1 t2 t3
  cases t4 : (decide (1 ≤ (ne : Int)) && decide ((ne : Int) ≤ 1))
  · exact shape_6_4 name src n Ac Ae Ab Al nc cc ne ce nb cb nl cl cols w okn oks hcl t0 t1 t2 t3 t4
  cases t5 : decide (nl = 0)
  · exact shape_6_5 name src n Ac Ae Ab Al nc cc ne ce nb cb nl cl cols w okn oks hcl t0 t1 t2 t3 t4 t5
  exact shape_6_6 name src n Ac Ae Ab Al nc cc ne ce nb cb nl cl cols w okn oks hcl t0 t1 t2 t3 t4 t5
end Go.Proofs.Ytgihhkfppnhdpaa

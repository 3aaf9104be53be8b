/- Parts of this proof, one behind the other: SynJ4, SynK, SynL. -/
import Derived.Test.YtgihhkfppnhdpaaSp3
import Derived.Deep.Cut
import Derived.Test.YtgihhkfppnhdpaaSp4
import Derived.Test.YtgihhkfppnhdpaaSp5
import Derived.Test.YtgihhkfppnhdpaaSp6
namespace Go.Proofs.Ytgihhkfppnhdpaa
open Go.RowKit Go.Afx

set_option maxRecDepth 100000 in
set_option maxHeartbeats 4000000 in
theorem shape_9_0 (name src : ByteArray) (n : Int) (Ac Ae Ab Al : Option Addr) (nc cc ne ce nb cb nl cl : Nat) (cols : List ByteArray) (w : World)  (hcl : cols.length = nc) (t0 : noS name = false) :
    Calls Try.prog 71 #[.agg #[.int .i64 9, .string name, .string src, .int .i64 n, .slice Ac nc cc, .slice Ae ne ce, .slice Ab nb cb, .slice Al nl cl]] w fun x w' => x = .returned (.bool (shapeR 9 name src n cols ne nb nl)) ∧ Below w.heap.size w w' := by
  have hfin : shapeR 9 name src n cols ne nb nl = false := by
    simp [shapeR, shapeP, hcl, t0]
  have Hfin := Lib.hid hfin
  clear hfin
  obtain ⟨hbase, hX, Hx⟩ := shStart 9 name src n Ac Ae Ab Al nc cc ne ce nb cb nl cl w
  replace t0 := str_some t0
  clear hcl
  go_enter Try.func71, Try.ntmps71
  go_upto_region 25 with (fail)
  simp only [List.append_eq, List.cons_append, List.nil_append]
  go_wp2_with (first | (go_at_call 88; with_reducible refine (hasF_any name _).mono ?_; rintro x w' ⟨rfl, rfl⟩) | (go_at_call 88; with_reducible refine (hasF_any src _).mono ?_; rintro x w' ⟨rfl, rfl⟩) | (go_at_call 9; with_reducible refine (freeN_any _).mono ?_; rintro x w6 ⟨rfl, hb6⟩; replace hX := grow hX hb6; obtain ⟨x1, x2, x3, x4, x5, x6, x7, xl⟩ := Hx.out _ hX))
  go_ret
  exact ⟨ret_bool Hfin.out.symm, hbase.trans (hX.mono (by simp))⟩

set_option maxRecDepth 100000 in
set_option maxHeartbeats 4000000 in
theorem shape_9_1 (name src : ByteArray) (n : Int) (Ac Ae Ab Al : Option Addr) (nc cc ne ce nb cb nl cl : Nat) (cols : List ByteArray) (w : World)  (hcl : cols.length = nc) (t0 : noS name = true) (t1 : noS src = false) :
    Calls Try.prog 71 #[.agg #[.int .i64 9, .string name, .string src, .int .i64 n, .slice Ac nc cc, .slice Ae ne ce, .slice Ab nb cb, .slice Al nl cl]] w fun x w' => x = .returned (.bool (shapeR 9 name src n cols ne nb nl)) ∧ Below w.heap.size w w' := by
  have hfin : shapeR 9 name src n cols ne nb nl = false := by
    simp [shapeR, shapeP, hcl, t0, t1]
  have Hfin := Lib.hid hfin
  clear hfin
  obtain ⟨hbase, hX, Hx⟩ := shStart 9 name src n Ac Ae Ab Al nc cc ne ce nb cb nl cl w
  replace t0 := str_empty t0
  replace t1 := str_some t1
  clear hcl
  go_enter Try.func71, Try.ntmps71
  go_upto_region 25 with (fail)
  simp only [List.append_eq, List.cons_append, List.nil_append]
  go_wp2_with (first | (go_at_call 88; with_reducible refine (hasF_any name _).mono ?_; rintro x w' ⟨rfl, rfl⟩) | (go_at_call 88; with_reducible refine (hasF_any src _).mono ?_; rintro x w' ⟨rfl, rfl⟩) | (go_at_call 9; with_reducible refine (freeN_any _).mono ?_; rintro x w6 ⟨rfl, hb6⟩; replace hX := grow hX hb6; obtain ⟨x1, x2, x3, x4, x5, x6, x7, xl⟩ := Hx.out _ hX))
  go_ret
  exact ⟨ret_bool Hfin.out.symm, hbase.trans (hX.mono (by simp))⟩

set_option maxRecDepth 100000 in
set_option maxHeartbeats 4000000 in
theorem shape_9_2 (name src : ByteArray) (n : Int) (Ac Ae Ab Al : Option Addr) (nc cc ne ce nb cb nl cl : Nat) (cols : List ByteArray) (w : World)  (hcl : cols.length = nc) (t0 : noS name = true) (t1 : noS src = true) (t2 : decide (nc = 0) = false) :
    Calls Try.prog 71 #[.agg #[.int .i64 9, .string name, .string src, .int .i64 n, .slice Ac nc cc, .slice Ae ne ce, .slice Ab nb cb, .slice Al nl cl]] w fun x w' => x = .returned (.bool (shapeR 9 name src n cols ne nb nl)) ∧ Below w.heap.size w w' := by
  have hfin : shapeR 9 name src n cols ne nb nl = false := by
    simp [shapeR, shapeP, hcl, t0, t1, t2]
  have Hfin := Lib.hid hfin
  clear hfin
  obtain ⟨hbase, hX, Hx⟩ := shStart 9 name src n Ac Ae Ab Al nc cc ne ce nb cb nl cl w
  replace t0 := str_empty t0
  replace t1 := str_empty t1
  replace t2 : ((nc : Int) == 0) = false := by simp at t2 ⊢; omega
  clear hcl
  go_enter Try.func71, Try.ntmps71
  go_upto_region 25 with (fail)
  simp only [List.append_eq, List.cons_append, List.nil_append]
  go_wp2_with (first | (go_at_call 88; with_reducible refine (hasF_any name _).mono ?_; rintro x w' ⟨rfl, rfl⟩) | (go_at_call 88; with_reducible refine (hasF_any src _).mono ?_; rintro x w' ⟨rfl, rfl⟩) | (go_at_call 9; with_reducible refine (freeN_any _).mono ?_; rintro x w6 ⟨rfl, hb6⟩; replace hX := grow hX hb6; obtain ⟨x1, x2, x3, x4, x5, x6, x7, xl⟩ := Hx.out _ hX))
  go_ret
  exact ⟨ret_bool Hfin.out.symm, hbase.trans (hX.mono (by simp))⟩

set_option maxRecDepth 100000 in
set_option maxHeartbeats 4000000 in
theorem shape_9_3 (name src : ByteArray) (n : Int) (Ac Ae Ab Al : Option Addr) (nc cc ne ce nb cb nl cl : Nat) (cols : List ByteArray) (w : World)  (hcl : cols.length = nc) (t0 : noS name = true) (t1 : noS src = true) (t2 : decide (nc = 0) = true) (t3 : decide (n = 0) = false) :
    Calls Try.prog 71 #[.agg #[.int .i64 9, .string name, .string src, .int .i64 n, .slice Ac nc cc, .slice Ae ne ce, .slice Ab nb cb, .slice Al nl cl]] w fun x w' => x = .returned (.bool (shapeR 9 name src n cols ne nb nl)) ∧ Below w.heap.size w w' := by
  have hfin : shapeR 9 name src n cols ne nb nl = false := by
    simp [shapeR, shapeP, hcl, t0, t1, t2, t3]
  have Hfin := Lib.hid hfin
  clear hfin
  obtain ⟨hbase, hX, Hx⟩ := shStart 9 name src n Ac Ae Ab Al nc cc ne ce nb cb nl cl w
  replace t0 := str_empty t0
  replace t1 := str_empty t1
  obtain rfl : nc = 0 := by simpa using t2
  clear t2
  replace t3 : (n == 0) = false := by simp at t3 ⊢; omega
  clear hcl
  go_enter Try.func71, Try.ntmps71
  go_upto_region 25 with (fail)
  simp only [List.append_eq, List.cons_append, List.nil_append]
  go_wp2_with (first | (go_at_call 88; with_reducible refine (hasF_any name _).mono ?_; rintro x w' ⟨rfl, rfl⟩) | (go_at_call 88; with_reducible refine (hasF_any src _).mono ?_; rintro x w' ⟨rfl, rfl⟩) | (go_at_call 9; with_reducible refine (freeN_any _).mono ?_; rintro x w6 ⟨rfl, hb6⟩; replace hX := grow hX hb6; obtain ⟨x1, x2, x3, x4, x5, x6, x7, xl⟩ := Hx.out _ hX))
  go_ret
  exact ⟨ret_bool Hfin.out.symm, hbase.trans (hX.mono (by simp))⟩

set_option maxRecDepth 100000 in
set_option maxHeartbeats 4000000 in
theorem shape_9_4 (name src : ByteArray) (n : Int) (Ac Ae Ab Al : Option Addr) (nc cc ne ce nb cb nl cl : Nat) (cols : List ByteArray) (w : World)  (hcl : cols.length = nc) (t0 : noS name = true) (t1 : noS src = true) (t2 : decide (nc = 0) = true) (t3 : decide (n = 0) = true) (t4 : (decide (1 ≤ (ne : Int)) && decide ((ne : Int) ≤ 1)) = false) :
    Calls Try.prog 71 #[.agg #[.int .i64 9, .string name, .string src, .int .i64 n, .slice Ac nc cc, .slice Ae ne ce, .slice Ab nb cb, .slice Al nl cl]] w fun x w' => x = .returned (.bool (shapeR 9 name src n cols ne nb nl)) ∧ Below w.heap.size w w' := by
  have hfin : shapeR 9 name src n cols ne nb nl = false := by
    simp [shapeR, shapeP, hcl, t0, t1, t2, t3, t4]
  have Hfin := Lib.hid hfin
  clear hfin
  obtain ⟨hbase, hX, Hx⟩ := shStart 9 name src n Ac Ae Ab Al nc cc ne ce nb cb nl cl w
  replace t0 := str_empty t0
  replace t1 := str_empty t1
  obtain rfl : nc = 0 := by simpa using t2
  clear t2
  obtain rfl : n = 0 := by simpa using t3
  clear t3
  have HW4 := Lib.hid (fun W => within_any ne 1 1 W)
  rw [t4] at HW4
  clear t4
  clear hcl
  go_enter Try.func71, Try.ntmps71
  go_upto_region 25 with (fail)
  simp only [List.append_eq, List.cons_append, List.nil_append]
  go_wp2_with (first | (go_at_call 54; with_reducible refine (HW4.out _).mono ?_; rintro x w' ⟨rfl, rfl⟩) | (go_at_call 88; with_reducible refine (hasF_any name _).mono ?_; rintro x w' ⟨rfl, rfl⟩) | (go_at_call 88; with_reducible refine (hasF_any src _).mono ?_; rintro x w' ⟨rfl, rfl⟩) | (go_at_call 9; with_reducible refine (freeN_any _).mono ?_; rintro x w6 ⟨rfl, hb6⟩; replace hX := grow hX hb6; obtain ⟨x1, x2, x3, x4, x5, x6, x7, xl⟩ := Hx.out _ hX))
  go_ret
  exact ⟨ret_bool Hfin.out.symm, hbase.trans (hX.mono (by simp))⟩

set_option maxRecDepth 100000 in
set_option maxHeartbeats 4000000 in
theorem shape_9_5 (name src : ByteArray) (n : Int) (Ac Ae Ab Al : Option Addr) (nc cc ne ce nb cb nl cl : Nat) (cols : List ByteArray) (w : World)  (hcl : cols.length = nc) (t0 : noS name = true) (t1 : noS src = true) (t2 : decide (nc = 0) = true) (t3 : decide (n = 0) = true) (t4 : (decide (1 ≤ (ne : Int)) && decide ((ne : Int) ≤ 1)) = true) (t5 : decide (nb = 0) = false) :
    Calls Try.prog 71 #[.agg #[.int .i64 9, .string name, .string src, .int .i64 n, .slice Ac nc cc, .slice Ae ne ce, .slice Ab nb cb, .slice Al nl cl]] w fun x w' => x = .returned (.bool (shapeR 9 name src n cols ne nb nl)) ∧ Below w.heap.size w w' := by
  have hfin : shapeR 9 name src n cols ne nb nl = false := by
    simp [shapeR, shapeP, hcl, t0, t1, t2, t3, t4, t5]
  have Hfin := Lib.hid hfin
  clear hfin
  obtain ⟨hbase, hX, Hx⟩ := shStart 9 name src n Ac Ae Ab Al nc cc ne ce nb cb nl cl w
  replace t0 := str_empty t0
  replace t1 := str_empty t1
  obtain rfl : nc = 0 := by simpa using t2
  clear t2
  obtain rfl : n = 0 := by simpa using t3
  clear t3
  have HW4 := Lib.hid (fun W => within_any ne 1 1 W)
  rw [t4] at HW4
  clear t4
  replace t5 : ((nb : Int) == 0) = false := by simp at t5 ⊢; omega
  clear hcl
  go_enter Try.func71, Try.ntmps71
  go_upto_region 25 with (fail)
  simp only [List.append_eq, List.cons_append, List.nil_append]
  go_wp2_with (first | (go_at_call 54; with_reducible refine (HW4.out _).mono ?_; rintro x w' ⟨rfl, rfl⟩) | (go_at_call 88; with_reducible refine (hasF_any name _).mono ?_; rintro x w' ⟨rfl, rfl⟩) | (go_at_call 88; with_reducible refine (hasF_any src _).mono ?_; rintro x w' ⟨rfl, rfl⟩) | (go_at_call 9; with_reducible refine (freeN_any _).mono ?_; rintro x w6 ⟨rfl, hb6⟩; replace hX := grow hX hb6; obtain ⟨x1, x2, x3, x4, x5, x6, x7, xl⟩ := Hx.out _ hX))
  go_ret
  exact ⟨ret_bool Hfin.out.symm, hbase.trans (hX.mono (by simp))⟩

set_option maxRecDepth 100000 in
set_option maxHeartbeats 4000000 in
theorem shape_9_6 (name src : ByteArray) (n : Int) (Ac Ae Ab Al : Option Addr) (nc cc ne ce nb cb nl cl : Nat) (cols : List ByteArray) (w : World)  (hcl : cols.length = nc) (t0 : noS name = true) (t1 : noS src = true) (t2 : decide (nc = 0) = true) (t3 : decide (n = 0) = true) (t4 : (decide (1 ≤ (ne : Int)) && decide ((ne : Int) ≤ 1)) = true) (t5 : decide (nb = 0) = true) (t6 : decide (nl = 0) = false) :
    Calls Try.prog 71 #[.agg #[.int .i64 9, .string name, .string src, .int .i64 n, .slice Ac nc cc, .slice Ae ne ce, .slice Ab nb cb, .slice Al nl cl]] w fun x w' => x = .returned (.bool (shapeR 9 name src n cols ne nb nl)) ∧ Below w.heap.size w w' := by
  have hfin : shapeR 9 name src n cols ne nb nl = false := by
    simp [shapeR, shapeP, hcl, t0, t1, t2, t3, t4, t5, t6]
  have Hfin := Lib.hid hfin
  clear hfin
  obtain ⟨hbase, hX, Hx⟩ := shStart 9 name src n Ac Ae Ab Al nc cc ne ce nb cb nl cl w
  replace t0 := str_empty t0
  replace t1 := str_empty t1
  obtain rfl : nc = 0 := by simpa using t2
  clear t2
  obtain rfl : n = 0 := by simpa using t3
  clear t3
  have HW4 := Lib.hid (fun W => within_any ne 1 1 W)
  rw [t4] at HW4
  clear t4
  obtain rfl : nb = 0 := by simpa using t5
  clear t5
  replace t6 : ((nl : Int) == 0) = false := by simp at t6 ⊢; omega
  clear hcl
  go_enter Try.func71, Try.ntmps71
  go_upto_region 25 with (fail)
  simp only [List.append_eq, List.cons_append, List.nil_append]
  go_wp2_with (first | (go_at_call 54; with_reducible refine (HW4.out _).mono ?_; rintro x w' ⟨rfl, rfl⟩) | (go_at_call 88; with_reducible refine (hasF_any name _).mono ?_; rintro x w' ⟨rfl, rfl⟩) | (go_at_call 88; with_reducible refine (hasF_any src _).mono ?_; rintro x w' ⟨rfl, rfl⟩) | (go_at_call 9; with_reducible refine (freeN_any _).mono ?_; rintro x w6 ⟨rfl, hb6⟩; replace hX := grow hX hb6; obtain ⟨x1, x2, x3, x4, x5, x6, x7, xl⟩ := Hx.out _ hX))
  go_ret
  exact ⟨ret_bool Hfin.out.symm, hbase.trans (hX.mono (by simp))⟩

set_option maxRecDepth 100000 in
set_option maxHeartbeats 4000000 in
theorem shape_9_7 (name src : ByteArray) (n : Int) (Ac Ae Ab Al : Option Addr) (nc cc ne ce nb cb nl cl : Nat) (cols : List ByteArray) (w : World)  (hcl : cols.length = nc) (t0 : noS name = true) (t1 : noS src = true) (t2 : decide (nc = 0) = true) (t3 : decide (n = 0) = true) (t4 : (decide (1 ≤ (ne : Int)) && decide ((ne : Int) ≤ 1)) = true) (t5 : decide (nb = 0) = true) (t6 : decide (nl = 0) = true) :
    Calls Try.prog 71 #[.agg #[.int .i64 9, .string name, .string src, .int .i64 n, .slice Ac nc cc, .slice Ae ne ce, .slice Ab nb cb, .slice Al nl cl]] w fun x w' => x = .returned (.bool (shapeR 9 name src n cols ne nb nl)) ∧ Below w.heap.size w w' := by
  have hfin : shapeR 9 name src n cols ne nb nl = true := by
    simp [shapeR, shapeP, hcl, t0, t1, t2, t3, t4, t5, t6]
  have Hfin := Lib.hid hfin
  clear hfin
  obtain ⟨hbase, hX, Hx⟩ := shStart 9 name src n Ac Ae Ab Al nc cc ne ce nb cb nl cl w
  replace t0 := str_empty t0
  replace t1 := str_empty t1
  obtain rfl : nc = 0 := by simpa using t2
  clear t2
  obtain rfl : n = 0 := by simpa using t3
  clear t3
  have HW4 := Lib.hid (fun W => within_any ne 1 1 W)
  rw [t4] at HW4
  clear t4
  obtain rfl : nb = 0 := by simpa using t5
  clear t5
  obtain rfl : nl = 0 := by simpa using t6
  clear t6
  clear hcl
  go_enter Try.func71, Try.ntmps71
  go_upto_region 25 with (fail)
  simp only [List.append_eq, List.cons_append, List.nil_append]
  go_wp2_with (first | (go_at_call 54; with_reducible refine (HW4.out _).mono ?_; rintro x w' ⟨rfl, rfl⟩) | (go_at_call 88; with_reducible refine (hasF_any name _).mono ?_; rintro x w' ⟨rfl, rfl⟩) | (go_at_call 88; with_reducible refine (hasF_any src _).mono ?_; rintro x w' ⟨rfl, rfl⟩) | (go_at_call 9; with_reducible refine (freeN_any _).mono ?_; rintro x w6 ⟨rfl, hb6⟩; replace hX := grow hX hb6; obtain ⟨x1, x2, x3, x4, x5, x6, x7, xl⟩ := Hx.out _ hX))
  go_ret
  exact ⟨ret_bool Hfin.out.symm, hbase.trans (hX.mono (by simp))⟩

theorem shapeK_9 (F : Nat → Prop) (name src : ByteArray) (n : Int) (Ac Ae Ab Al : Option Addr) (nc cc ne ce nb cb nl cl : Nat) (cols : List ByteArray) (w : World) (hc : LsAt F w 1 SRow Ac nc cc cols) :
    Calls Try.prog 71 #[.agg #[.int .i64 9, .string name, .string src, .int .i64 n, .slice Ac nc cc, .slice Ae ne ce, .slice Ab nb cb, .slice Al nl cl]] w fun x w' => x = .returned (.bool (shapeR 9 name src n cols ne nb nl)) ∧ Below w.heap.size w w' := by
  have hcl := hc.len
  cases t0 : noS name
  · exact shape_9_0 name src n Ac Ae Ab Al nc cc ne ce nb cb nl cl cols w hcl t0
  cases t1 : noS src
  · exact shape_9_1 name src n Ac Ae Ab Al nc cc ne ce nb cb nl cl cols w hcl t0 t1
  cases t2 : decide (nc = 0)
  · exact shape_9_2 name src n Ac Ae Ab Al nc cc ne ce nb cb nl cl cols w hcl t0 t1 t2
  cases t3 : decide (n = 0)
  · exact shape_9_3 name src n Ac Ae Ab Al nc cc ne ce nb cb nl cl cols w hcl t0 t1 t2 t3
  cases t4 : (decide (1 ≤ (ne : Int)) && decide ((ne : Int) ≤ 1))
  · exact shape_9_4 name src n Ac Ae Ab Al nc cc ne ce nb cb nl cl cols w hcl t0 t1 t2 t3 t4
  cases t5 : decide (nb = 0)
  · exact shape_9_5 name src n Ac Ae Ab Al nc cc ne ce nb cb nl cl cols w hcl t0 t1 t2 t3 t4 t5
  cases t6 : decide (nl = 0)
  · exact shape_9_6 name src n Ac Ae Ab Al nc cc ne ce nb cb nl cl cols w hcl t0 t1 t2 t3 t4 t5 t6
  exact shape_9_7 name src n Ac Ae Ab Al nc cc ne ce nb cb nl cl cols w hcl t0 t1 t2 t3 t4 t5 t6

set_option maxRecDepth 100000 in
set_option maxHeartbeats 4000000 in
theorem shape_10_0 (name src : ByteArray) (n : Int) (Ac Ae Ab Al : Option Addr) (nc cc ne ce nb cb nl cl : Nat) (cols : List ByteArray) (w : World)  (hcl : cols.length = nc) (t0 : noS name = false) :
    Calls Try.prog 71 #[.agg #[.int .i64 10, .string name, .string src, .int .i64 n, .slice Ac nc cc, .slice Ae ne ce, .slice Ab nb cb, .slice Al nl cl]] w fun x w' => x = .returned (.bool (shapeR 10 name src n cols ne nb nl)) ∧ Below w.heap.size w w' := by
  have hfin : shapeR 10 name src n cols ne nb nl = false := by
    simp [shapeR, shapeP, hcl, t0]
  have Hfin := Lib.hid hfin
  clear hfin
  obtain ⟨hbase, hX, Hx⟩ := shStart 10 name src n Ac Ae Ab Al nc cc ne ce nb cb nl cl w
  replace t0 := str_some t0
  clear hcl
  go_enter Try.func71, Try.ntmps71
  go_upto_region 25 with (fail)
  simp only [List.append_eq, List.cons_append, List.nil_append]
  go_wp2_with (first | (go_at_call 88; with_reducible refine (hasF_any name _).mono ?_; rintro x w' ⟨rfl, rfl⟩) | (go_at_call 88; with_reducible refine (hasF_any src _).mono ?_; rintro x w' ⟨rfl, rfl⟩) | (go_at_call 9; with_reducible refine (freeN_any _).mono ?_; rintro x w6 ⟨rfl, hb6⟩; replace hX := grow hX hb6; obtain ⟨x1, x2, x3, x4, x5, x6, x7, xl⟩ := Hx.out _ hX))
  go_ret
  exact ⟨ret_bool Hfin.out.symm, hbase.trans (hX.mono (by simp))⟩

set_option maxRecDepth 100000 in
set_option maxHeartbeats 4000000 in
theorem shape_10_1 (name src : ByteArray) (n : Int) (Ac Ae Ab Al : Option Addr) (nc cc ne ce nb cb nl cl : Nat) (cols : List ByteArray) (w : World)  (hcl : cols.length = nc) (t0 : noS name = true) (t1 : noS src = false) :
    Calls Try.prog 71 #[.agg #[.int .i64 10, .string name, .string src, .int .i64 n, .slice Ac nc cc, .slice Ae ne ce, .slice Ab nb cb, .slice Al nl cl]] w fun x w' => x = .returned (.bool (shapeR 10 name src n cols ne nb nl)) ∧ Below w.heap.size w w' := by
  have hfin : shapeR 10 name src n cols ne nb nl = false := by
    simp [shapeR, shapeP, hcl, t0, t1]
  have Hfin := Lib.hid hfin
  clear hfin
  obtain ⟨hbase, hX, Hx⟩ := shStart 10 name src n Ac Ae Ab Al nc cc ne ce nb cb nl cl w
  replace t0 := str_empty t0
  replace t1 := str_some t1
  clear hcl
  go_enter Try.func71, Try.ntmps71
  go_upto_region 25 with (fail)
  simp only [List.append_eq, List.cons_append, List.nil_append]
  go_wp2_with (first | (go_at_call 88; with_reducible refine (hasF_any name _).mono ?_; rintro x w' ⟨rfl, rfl⟩) | (go_at_call 88; with_reducible refine (hasF_any src _).mono ?_; rintro x w' ⟨rfl, rfl⟩) | (go_at_call 9; with_reducible refine (freeN_any _).mono ?_; rintro x w6 ⟨rfl, hb6⟩; replace hX := grow hX hb6; obtain ⟨x1, x2, x3, x4, x5, x6, x7, xl⟩ := Hx.out _ hX))
  go_ret
  exact ⟨ret_bool Hfin.out.symm, hbase.trans (hX.mono (by simp))⟩

set_option maxRecDepth 100000 in
set_option maxHeartbeats 4000000 in
theorem shape_10_2 (name src : ByteArray) (n : Int) (Ac Ae Ab Al : Option Addr) (nc cc ne ce nb cb nl cl : Nat) (cols : List ByteArray) (w : World)  (hcl : cols.length = nc) (t0 : noS name = true) (t1 : noS src = true) (t2 : decide (nc = 0) = false) :
    Calls Try.prog 71 #[.agg #[.int .i64 10, .string name, .string src, .int .i64 n, .slice Ac nc cc, .slice Ae ne ce, .slice Ab nb cb, .slice Al nl cl]] w fun x w' => x = .returned (.bool (shapeR 10 name src n cols ne nb nl)) ∧ Below w.heap.size w w' := by
  have hfin : shapeR 10 name src n cols ne nb nl = false := by
    simp [shapeR, shapeP, hcl, t0, t1, t2]
  have Hfin := Lib.hid hfin
  clear hfin
  obtain ⟨hbase, hX, Hx⟩ := shStart 10 name src n Ac Ae Ab Al nc cc ne ce nb cb nl cl w
  replace t0 := str_empty t0
  replace t1 := str_empty t1
  replace t2 : ((nc : Int) == 0) = false := by simp at t2 ⊢; omega
  clear hcl
  go_enter Try.func71, Try.ntmps71
  go_upto_region 25 with (fail)
  simp only [List.append_eq, List.cons_append, List.nil_append]
  go_wp2_with (first | (go_at_call 88; with_reducible refine (hasF_any name _).mono ?_; rintro x w' ⟨rfl, rfl⟩) | (go_at_call 88; with_reducible refine (hasF_any src _).mono ?_; rintro x w' ⟨rfl, rfl⟩) | (go_at_call 9; with_reducible refine (freeN_any _).mono ?_; rintro x w6 ⟨rfl, hb6⟩; replace hX := grow hX hb6; obtain ⟨x1, x2, x3, x4, x5, x6, x7, xl⟩ := Hx.out _ hX))
  go_ret
  exact ⟨ret_bool Hfin.out.symm, hbase.trans (hX.mono (by simp))⟩

set_option maxRecDepth 100000 in
set_option maxHeartbeats 4000000 in
theorem shape_10_3 (name src : ByteArray) (n : Int) (Ac Ae Ab Al : Option Addr) (nc cc ne ce nb cb nl cl : Nat) (cols : List ByteArray) (w : World)  (hcl : cols.length = nc) (t0 : noS name = true) (t1 : noS src = true) (t2 : decide (nc = 0) = true) (t3 : decide (n = 0) = false) :
    Calls Try.prog 71 #[.agg #[.int .i64 10, .string name, .string src, .int .i64 n, .slice Ac nc cc, .slice Ae ne ce, .slice Ab nb cb, .slice Al nl cl]] w fun x w' => x = .returned (.bool (shapeR 10 name src n cols ne nb nl)) ∧ Below w.heap.size w w' := by
  have hfin : shapeR 10 name src n cols ne nb nl = false := by
    simp [shapeR, shapeP, hcl, t0, t1, t2, t3]
  have Hfin := Lib.hid hfin
  clear hfin
  obtain ⟨hbase, hX, Hx⟩ := shStart 10 name src n Ac Ae Ab Al nc cc ne ce nb cb nl cl w
  replace t0 := str_empty t0
  replace t1 := str_empty t1
  obtain rfl : nc = 0 := by simpa using t2
  clear t2
  replace t3 : (n == 0) = false := by simp at t3 ⊢; omega
  clear hcl
  go_enter Try.func71, Try.ntmps71
  go_upto_region 25 with (fail)
  simp only [List.append_eq, List.cons_append, List.nil_append]
  go_wp2_with (first | (go_at_call 88; with_reducible refine (hasF_any name _).mono ?_; rintro x w' ⟨rfl, rfl⟩) | (go_at_call 88; with_reducible refine (hasF_any src _).mono ?_; rintro x w' ⟨rfl, rfl⟩) | (go_at_call 9; with_reducible refine (freeN_any _).mono ?_; rintro x w6 ⟨rfl, hb6⟩; replace hX := grow hX hb6; obtain ⟨x1, x2, x3, x4, x5, x6, x7, xl⟩ := Hx.out _ hX))
  go_ret
  exact ⟨ret_bool Hfin.out.symm, hbase.trans (hX.mono (by simp))⟩

set_option maxRecDepth 100000 in
set_option maxHeartbeats 4000000 in
theorem shape_10_4 (name src : ByteArray) (n : Int) (Ac Ae Ab Al : Option Addr) (nc cc ne ce nb cb nl cl : Nat) (cols : List ByteArray) (w : World)  (hcl : cols.length = nc) (t0 : noS name = true) (t1 : noS src = true) (t2 : decide (nc = 0) = true) (t3 : decide (n = 0) = true) (t4 : (decide (1 ≤ (ne : Int)) && decide ((ne : Int) ≤ 8)) = false) :
    Calls Try.prog 71 #[.agg #[.int .i64 10, .string name, .string src, .int .i64 n, .slice Ac nc cc, .slice Ae ne ce, .slice Ab nb cb, .slice Al nl cl]] w fun x w' => x = .returned (.bool (shapeR 10 name src n cols ne nb nl)) ∧ Below w.heap.size w w' := by
  have hfin : shapeR 10 name src n cols ne nb nl = false := by
    simp [shapeR, shapeP, hcl, t0, t1, t2, t3, t4]
  have Hfin := Lib.hid hfin
  clear hfin
  obtain ⟨hbase, hX, Hx⟩ := shStart 10 name src n Ac Ae Ab Al nc cc ne ce nb cb nl cl w
  replace t0 := str_empty t0
  replace t1 := str_empty t1
  obtain rfl : nc = 0 := by simpa using t2
  clear t2
  obtain rfl : n = 0 := by simpa using t3
  clear t3
  have HW4 := Lib.hid (fun W => within_any ne 1 8 W)
  rw [t4] at HW4
  clear t4
  clear hcl
  go_enter Try.func71, Try.ntmps71
  go_upto_region 25 with (fail)
  simp only [List.append_eq, List.cons_append, List.nil_append]
  go_wp2_with (first | (go_at_call 54; with_reducible refine (HW4.out _).mono ?_; rintro x w' ⟨rfl, rfl⟩) | (go_at_call 88; with_reducible refine (hasF_any name _).mono ?_; rintro x w' ⟨rfl, rfl⟩) | (go_at_call 88; with_reducible refine (hasF_any src _).mono ?_; rintro x w' ⟨rfl, rfl⟩) | (go_at_call 9; with_reducible refine (freeN_any _).mono ?_; rintro x w6 ⟨rfl, hb6⟩; replace hX := grow hX hb6; obtain ⟨x1, x2, x3, x4, x5, x6, x7, xl⟩ := Hx.out _ hX))
  go_ret
  exact ⟨ret_bool Hfin.out.symm, hbase.trans (hX.mono (by simp))⟩

set_option maxRecDepth 100000 in
set_option maxHeartbeats 4000000 in
theorem shape_10_5 (name src : ByteArray) (n : Int) (Ac Ae Ab Al : Option Addr) (nc cc ne ce nb cb nl cl : Nat) (cols : List ByteArray) (w : World)  (hcl : cols.length = nc) (t0 : noS name = true) (t1 : noS src = true) (t2 : decide (nc = 0) = true) (t3 : decide (n = 0) = true) (t4 : (decide (1 ≤ (ne : Int)) && decide ((ne : Int) ≤ 8)) = true) (t5 : decide (nb = 0) = false) :
    Calls Try.prog 71 #[.agg #[.int .i64 10, .string name, .string src, .int .i64 n, .slice Ac nc cc, .slice Ae ne ce, .slice Ab nb cb, .slice Al nl cl]] w fun x w' => x = .returned (.bool (shapeR 10 name src n cols ne nb nl)) ∧ Below w.heap.size w w' := by
  have hfin : shapeR 10 name src n cols ne nb nl = false := by
    simp [shapeR, shapeP, hcl, t0, t1, t2, t3, t4, t5]
  have Hfin := Lib.hid hfin
  clear hfin
  obtain ⟨hbase, hX, Hx⟩ := shStart 10 name src n Ac Ae Ab Al nc cc ne ce nb cb nl cl w
  replace t0 := str_empty t0
  replace t1 := str_empty t1
  obtain rfl : nc = 0 := by simpa using t2
  clear t2
  obtain rfl : n = 0 := by simpa using t3
  clear t3
  have HW4 := Lib.hid (fun W => within_any ne 1 8 W)
  rw [t4] at HW4
  clear t4
  replace t5 : ((nb : Int) == 0) = false := by simp at t5 ⊢; omega
  clear hcl
  go_enter Try.func71, Try.ntmps71
  go_upto_region 25 with (fail)
  simp only [List.append_eq, List.cons_append, List.nil_append]
  go_wp2_with (first | (go_at_call 54; with_reducible refine (HW4.out _).mono ?_; rintro x w' ⟨rfl, rfl⟩) | (go_at_call 88; with_reducible refine (hasF_any name _).mono ?_; rintro x w' ⟨rfl, rfl⟩) | (go_at_call 88; with_reducible refine (hasF_any src _).mono ?_; rintro x w' ⟨rfl, rfl⟩) | (go_at_call 9; with_reducible refine (freeN_any _).mono ?_; rintro x w6 ⟨rfl, hb6⟩; replace hX := grow hX hb6; obtain ⟨x1, x2, x3, x4, x5, x6, x7, xl⟩ := Hx.out _ hX))
  go_ret
  exact ⟨ret_bool Hfin.out.symm, hbase.trans (hX.mono (by simp))⟩

set_option maxRecDepth 100000 in
set_option maxHeartbeats 4000000 in
theorem shape_10_6 (name src : ByteArray) (n : Int) (Ac Ae Ab Al : Option Addr) (nc cc ne ce nb cb nl cl : Nat) (cols : List ByteArray) (w : World)  (hcl : cols.length = nc) (t0 : noS name = true) (t1 : noS src = true) (t2 : decide (nc = 0) = true) (t3 : decide (n = 0) = true) (t4 : (decide (1 ≤ (ne : Int)) && decide ((ne : Int) ≤ 8)) = true) (t5 : decide (nb = 0) = true) (t6 : decide (nl = 0) = false) :
    Calls Try.prog 71 #[.agg #[.int .i64 10, .string name, .string src, .int .i64 n, .slice Ac nc cc, .slice Ae ne ce, .slice Ab nb cb, .slice Al nl cl]] w fun x w' => x = .returned (.bool (shapeR 10 name src n cols ne nb nl)) ∧ Below w.heap.size w w' := by
  have hfin : shapeR 10 name src n cols ne nb nl = false := by
    simp [shapeR, shapeP, hcl, t0, t1, t2, t3, t4, t5, t6]
  have Hfin := Lib.hid hfin
  clear hfin
  obtain ⟨hbase, hX, Hx⟩ := shStart 10 name src n Ac Ae Ab Al nc cc ne ce nb cb nl cl w
  replace t0 := str_empty t0
  replace t1 := str_empty t1
  obtain rfl : nc = 0 := by simpa using t2
  clear t2
  obtain rfl : n = 0 := by simpa using t3
  clear t3
  have HW4 := Lib.hid (fun W => within_any ne 1 8 W)
  rw [t4] at HW4
  clear t4
  obtain rfl : nb = 0 := by simpa using t5
  clear t5
  replace t6 : ((nl : Int) == 0) = false := by simp at t6 ⊢; omega
  clear hcl
  go_enter Try.func71, Try.ntmps71
  go_upto_region 25 with (fail)
  simp only [List.append_eq, List.cons_append, List.nil_append]
  go_wp2_with (first | (go_at_call 54; with_reducible refine (HW4.out _).mono ?_; rintro x w' ⟨rfl, rfl⟩) | (go_at_call 88; with_reducible refine (hasF_any name _).mono ?_; rintro x w' ⟨rfl, rfl⟩) | (go_at_call 88; with_reducible refine (hasF_any src _).mono ?_; rintro x w' ⟨rfl, rfl⟩) | (go_at_call 9; with_reducible refine (freeN_any _).mono ?_; rintro x w6 ⟨rfl, hb6⟩; replace hX := grow hX hb6; obtain ⟨x1, x2, x3, x4, x5, x6, x7, xl⟩ := Hx.out _ hX))
  go_ret
  exact ⟨ret_bool Hfin.out.symm, hbase.trans (hX.mono (by simp))⟩

set_option maxRecDepth 100000 in
set_option maxHeartbeats 4000000 in
theorem shape_10_7 (name src : ByteArray) (n : Int) (Ac Ae Ab Al : Option Addr) (nc cc ne ce nb cb nl cl : Nat) (cols : List ByteArray) (w : World)  (hcl : cols.length = nc) (t0 : noS name = true) (t1 : noS src = true) (t2 : decide (nc = 0) = true) (t3 : decide (n = 0) = true) (t4 : (decide (1 ≤ (ne : Int)) && decide ((ne : Int) ≤ 8)) = true) (t5 : decide (nb = 0) = true) (t6 : decide (nl = 0) = true) :
    Calls Try.prog 71 #[.agg #[.int .i64 10, .string name, .string src, .int .i64 n, .slice Ac nc cc, .slice Ae ne ce, .slice Ab nb cb, .slice Al nl cl]] w fun x w' => x = .returned (.bool (shapeR 10 name src n cols ne nb nl)) ∧ Below w.heap.size w w' := by
  have hfin : shapeR 10 name src n cols ne nb nl = true := by
    simp [shapeR, shapeP, hcl, t0, t1, t2, t3, t4, t5, t6]
  have Hfin := Lib.hid hfin
  clear hfin
  obtain ⟨hbase, hX, Hx⟩ := shStart 10 name src n Ac Ae Ab Al nc cc ne ce nb cb nl cl w
  replace t0 := str_empty t0
  replace t1 := str_empty t1
  obtain rfl : nc = 0 := by simpa using t2
  clear t2
  obtain rfl : n = 0 := by simpa using t3
  clear t3
  have HW4 := Lib.hid (fun W => within_any ne 1 8 W)
  rw [t4] at HW4
  clear t4
  obtain rfl : nb = 0 := by simpa using t5
  clear t5
  obtain rfl : nl = 0 := by simpa using t6
  clear t6
  clear hcl
  go_enter Try.func71, Try.ntmps71
  go_upto_region 25 with (fail)
  simp only [List.append_eq, List.cons_append, List.nil_append]
  go_wp2_with (first | (go_at_call 54; with_reducible refine (HW4.out _).mono ?_; rintro x w' ⟨rfl, rfl⟩) | (go_at_call 88; with_reducible refine (hasF_any name _).mono ?_; rintro x w' ⟨rfl, rfl⟩) | (go_at_call 88; with_reducible refine (hasF_any src _).mono ?_; rintro x w' ⟨rfl, rfl⟩) | (go_at_call 9; with_reducible refine (freeN_any _).mono ?_; rintro x w6 ⟨rfl, hb6⟩; replace hX := grow hX hb6; obtain ⟨x1, x2, x3, x4, x5, x6, x7, xl⟩ := Hx.out _ hX))
  go_ret
  exact ⟨ret_bool Hfin.out.symm, hbase.trans (hX.mono (by simp))⟩

theorem shapeK_10 (F : Nat → Prop) (name src : ByteArray) (n : Int) (Ac Ae Ab Al : Option Addr) (nc cc ne ce nb cb nl cl : Nat) (cols : List ByteArray) (w : World) (hc : LsAt F w 1 SRow Ac nc cc cols) :
    Calls Try.prog 71 #[.agg #[.int .i64 10, .string name, .string src, .int .i64 n, .slice Ac nc cc, .slice Ae ne ce, .slice Ab nb cb, .slice Al nl cl]] w fun x w' => x = .returned (.bool (shapeR 10 name src n cols ne nb nl)) ∧ Below w.heap.size w w' := by
  have hcl := hc.len
  cases t0 : noS name
  · exact shape_10_0 name src n Ac Ae Ab Al nc cc ne ce nb cb nl cl cols w hcl t0
  cases t1 : noS src
  · exact shape_10_1 name src n Ac Ae Ab Al nc cc ne ce nb cb nl cl cols w hcl t0 t1
  cases t2 : decide (nc = 0)
  · exact shape_10_2 name src n Ac Ae Ab Al nc cc ne ce nb cb nl cl cols w hcl t0 t1 t2
  cases t3 : decide (n = 0)
  · exact shape_10_3 name src n Ac Ae Ab Al nc cc ne ce nb cb nl cl cols w hcl t0 t1 t2 t3
  cases t4 : (decide (1 ≤ (ne : Int)) && decide ((ne : Int) ≤ 8))
  · exact shape_10_4 name src n Ac Ae Ab Al nc cc ne ce nb cb nl cl cols w hcl t0 t1 t2 t3 t4
  cases t5 : decide (nb = 0)
  · exact shape_10_5 name src n Ac Ae Ab Al nc cc ne ce nb cb nl cl cols w hcl t0 t1 t2 t3 t4 t5
  cases t6 : decide (nl = 0)
  · exact shape_10_6 name src n Ac Ae Ab Al nc cc ne ce nb cb nl cl cols w hcl t0 t1 t2 t3 t4 t5 t6
  exact shape_10_7 name src n Ac Ae Ab Al nc cc ne ce nb cb nl cl cols w hcl t0 t1 t2 t3 t4 t5 t6
end Go.Proofs.Ytgihhkfppnhdpaa

namespace Go.Proofs.Ytgihhkfppnhdpaa
open Go.RowKit Go.Afx

theorem shape_any (F : Nat → Prop) (name src : ByteArray) (n : Int) (Ac Ae Ab Al : Option Addr) (nc cc ne ce nb cb nl cl : Nat) (cols : List ByteArray) (w : World) (op : Int) (hc : LsAt F w 1 SRow Ac nc cc cols) (okn : okS name) (oks : okS src) :
    Calls Try.prog 71 #[.agg #[.int .i64 op, .string name, .string src, .int .i64 n, .slice Ac nc cc, .slice Ae ne ce, .slice Ab nb cb, .slice Al nl cl]] w fun x w' => x = .returned (.bool (shapeR op name src n cols ne nb nl)) ∧ Below w.heap.size w w' := by
  by_cases e1 : op = 1
  · subst e1; exact shapeK_1 F name src n Ac Ae Ab Al nc cc ne ce nb cb nl cl cols w hc okn
  by_cases e2 : op = 2
  · subst e2; exact shapeK_2 F name src n Ac Ae Ab Al nc cc ne ce nb cb nl cl cols w hc okn
  by_cases e3 : op = 3
  · subst e3; exact shapeK_3 F name src n Ac Ae Ab Al nc cc ne ce nb cb nl cl cols w hc oks
  by_cases e4 : op = 4
  · subst e4; exact shapeK_4 F name src n Ac Ae Ab Al nc cc ne ce nb cb nl cl cols w hc okn oks
  by_cases e5 : op = 5
  · subst e5; exact shapeK_5 F name src n Ac Ae Ab Al nc cc ne ce nb cb nl cl cols w hc okn oks
  by_cases e6 : op = 6
  · subst e6; exact shapeK_6 F name src n Ac Ae Ab Al nc cc ne ce nb cb nl cl cols w hc okn oks
  by_cases e7 : op = 7
  · subst e7; exact shapeK_7 F name src n Ac Ae Ab Al nc cc ne ce nb cb nl cl cols w hc
  by_cases e8 : op = 8
  · subst e8; exact shapeK_8 F name src n Ac Ae Ab Al nc cc ne ce nb cb nl cl cols w hc oks
  by_cases e9 : op = 9
  · subst e9; exact shapeK_9 F name src n Ac Ae Ab Al nc cc ne ce nb cb nl cl cols w hc
  by_cases e10 : op = 10
  · subst e10; exact shapeK_10 F name src n Ac Ae Ab Al nc cc ne ce nb cb nl cl cols w hc
  have hr : shapeR op name src n cols ne nb nl = false := by
    unfold shapeR
    repeat (rw [if_neg (by omega)])
  have Hr := Lib.hid hr
  clear hr hc
  have d1 : (op == 1) = false := by simpa using e1
  have d2 : (op == 2) = false := by simpa using e2
  have d3 : (op == 3) = false := by simpa using e3
  have d4 : (op == 4) = false := by simpa using e4
  have d5 : (op == 5) = false := by simpa using e5
  have d6 : (op == 6) = false := by simpa using e6
  have d7 : (op == 7) = false := by simpa using e7
  have d8 : (op == 8) = false := by simpa using e8
  have d9 : (op == 9) = false := by simpa using e9
  have d10 : (op == 10) = false := by simpa using e10
  go_enter Try.func71, Try.ntmps71
  go_wp2
  go_ret
  exact ⟨ret_bool Hr.out.symm, (Below.refl _ _).alloc (Nat.le_refl _) _⟩
end Go.Proofs.Ytgihhkfppnhdpaa

namespace Go.Proofs.Ytgihhkfppnhdpaa
open Go.RowKit Go.Afx

theorem builtC2_any (F : Nat → Prop) (d : Nat) (ih : BuiltsE F d) (e : Ex) (row : List Value) (w : World) (h : ExAt F d w row e) :
    Calls Try.prog 73 #[.agg row.toArray] w fun x w' => x = .returned (.bool (!builtE d e)) ∧ Below w.heap.size w w' := by
  cases d with
  | zero => exact h.elim
  | succ d =>
    have h' := h
    obtain ⟨A, m, c, rfl, hl⟩ := h.open_.2.2.2.2.2
    have hb1 : Below w.heap.size w (w.alloc (.cells #[.int .i64 e.op, .int .i64 e.n, .string e.s, .string e.name, .string e.src, .slice A m c] 50)) := (Below.refl _ _).alloc (Nat.le_refl _) _
    have Hc := Lib.hid (ih e _ _ (h'.below hb1))
    generalize builtE (d + 1) e = r at *
    go_enter Try.func73, Try.ntmps73
    go_wp2_with (go_at_call 74; refine Hc.out.mono ?_; rintro x w1 ⟨rfl, hb⟩)
    go_ret
    exact ⟨ret_bool (by simp), hb1.trans (hb.mono hb1.size)⟩

set_option maxHeartbeats 400000 in
theorem indexBuilt2_any (F : Nat → Prop) (d : Nat) (ih : BuiltsE F d) (A : Option Addr) (n c : Nat) (es : List Ex) (w : World) (h : ExsAt F d w A n c es) :
    Calls Try.prog 89 #[.slice A n c, .func (.func 73) #[] #[]] w fun x w' => x = .returned (.int .i64 (posB (fun e => !builtE d e) es)) ∧ Below w.heap.size w w' := by
  have hn := LsAt.n_le h
  have Hl := Lib.hid (LsAt.len h)
  go_enter Try.func89, Try.ntmps89
  go_wp2
  go_loopw [8] (fun i wr => ∃ k : Nat, k ≤ n ∧ i = .int .i64 k ∧ (∀ y ∈ es.take k, (!builtE d y) = false) ∧ Below w.heap.size w wr) (fun i _ => n - (intOf i).toNat)
  case atStart => exact ⟨0, Nat.zero_le _, rfl, by simp, Below.refl _ _⟩
  case round =>
    obtain ⟨k, hk, rfl, hall, hb⟩ := hrel
    have Hall := Lib.hid hall; clear hall
    by_cases hlt : k < n
    · cases d with
      | zero =>
        obtain ⟨b, o, r, e, hA, hbl, _, he, hl, hp, hc⟩ := LsAt.get (h.below hb) hlt
        exact hp.elim
      | succ d =>
        obtain ⟨b, o, e, A2, m2, c2, rfl, hbl, hx, hc0, hc1, hc2, hc3, hc4, hc5, hp, _⟩ := ExsAt.get (h.below hb) hlt
        have hc := builtC2_any F (d + 1) ih e _ wr hp
        obtain ⟨q, hq⟩ : ∃ q, (!builtE (d + 1) e) = q := ⟨_, rfl⟩
        rw [hq] at hc
        have Hc := Lib.hid hc
        have Hq := Lib.hid hq
        have Hx := Lib.hid hx
        clear hc hq hx
        cases q
        · have Hnx := Lib.hid (mem_take_succ Hx.out Hall.out Hq.out)
          go_wp2_with (go_at_call 73; refine Hc.out.mono ?_; rintro y w1 ⟨rfl, hb1⟩)
          go_roundw
          case rel => exact ⟨k + 1, by omega, by go_num, Hnx.out, hb.trans (hb1.mono hb.size)⟩
          case measure => simp [intOf]; omega
        · have Hf := Lib.hid (posB_yes (p := fun e => !builtE (d + 1) e) Hx.out Hq.out Hall.out)
          go_wp2_with (go_at_call 73; refine Hc.out.mono ?_; rintro y w1 ⟨rfl, hb1⟩)
          go_ret
          exact ⟨by rw [Hf.out]; rfl, hb.trans (hb1.mono hb.size)⟩
    · go_wp2
      go_ret
      have h1 := Hall.out
      rw [List.take_of_length_le (by rw [Hl.out]; omega)] at h1
      exact ⟨by rw [posB_no h1]; rfl, hb⟩

theorem containsBuilt2_any (F : Nat → Prop) (d : Nat) (ih : BuiltsE F d) (A : Option Addr) (n c : Nat) (es : List Ex) (w : World) (h : ExsAt F d w A n c es) :
    Calls Try.prog 72 #[.slice A n c, .func (.func 73) #[] #[]] w fun x w' => x = .returned (.bool (!es.all (builtE d))) ∧ Below w.heap.size w w' := by
  have hi := indexBuilt2_any F d ih A n c es w h
  have hp := posB_any (fun e => !builtE d e) es
  have hq : (es.any fun e => !builtE d e) = !es.all (builtE d) := by
    induction es with
    | nil => rfl
    | cons a r _ => simp [List.any_eq_not_all_not]
  rw [hq] at hp
  generalize es.all (builtE d) = r at *
  generalize posB (fun e => !builtE d e) es = i at *
  have Hp := Lib.hid hp
  have Hi := Lib.hid hi
  clear hp hi hq
  go_enter Try.func72, Try.ntmps72
  go_wp2_with (go_at_call 89; refine Hi.out.mono ?_; rintro x w' ⟨rfl, hb⟩)
  go_ret
  exact ⟨ret_bool Hp.out, hb⟩

def BuiltsS (F : Nat → Prop) (d : Nat) : Prop := ∀ (e : St) (row : List Value) (w : World), StAt F d w row e →
  Calls Try.prog 58 #[.agg row.toArray] w fun x w' => x = .returned (.bool (builtS d e)) ∧ Below w.heap.size w w'

theorem blocksC_any (F : Nat → Prop) (d : Nat) (ih : BuiltsS F d) (e : St) (row : List Value) (w : World) (h : StAt F d w row e) :
    Calls Try.prog 57 #[.agg row.toArray] w fun x w' => x = .returned (.bool (!builtS d e)) ∧ Below w.heap.size w w' := by
  cases d with
  | zero => exact h.elim
  | succ d =>
    have h' := h
    obtain ⟨Ac, nc, cc, Ae, ne, ce, Ab, nb, cb, Al, nl, cl, rfl, _⟩ := h.open_.2.2.2.2
    have hb1 : Below w.heap.size w (w.alloc (.cells #[.int .i64 e.op, .string e.name, .string e.src, .int .i64 e.n, .slice Ac nc cc, .slice Ae ne ce, .slice Ab nb cb, .slice Al nl cl] 52)) := (Below.refl _ _).alloc (Nat.le_refl _) _
    have Hc := Lib.hid (ih e _ _ (h'.below hb1))
    generalize builtS (d + 1) e = r at *
    go_enter Try.func57, Try.ntmps57
    go_wp2_with (go_at_call 58; refine Hc.out.mono ?_; rintro x w1 ⟨rfl, hb⟩)
    go_ret
    exact ⟨ret_bool (by simp), hb1.trans (hb.mono hb1.size)⟩

set_option maxHeartbeats 400000 in
theorem indexBlocks_any (F : Nat → Prop) (d : Nat) (ih : BuiltsS F d) (A : Option Addr) (n c : Nat) (es : List St) (w : World) (h : StsAt F d w A n c es) :
    Calls Try.prog 70 #[.slice A n c, .func (.func 57) #[] #[]] w fun x w' => x = .returned (.int .i64 (posB (fun e => !builtS d e) es)) ∧ Below w.heap.size w w' := by
  have hn := LsAt.n_le h
  have Hl := Lib.hid (LsAt.len h)
  go_enter Try.func70, Try.ntmps70
  go_wp2
  go_loopw [8] (fun i wr => ∃ k : Nat, k ≤ n ∧ i = .int .i64 k ∧ (∀ y ∈ es.take k, (!builtS d y) = false) ∧ Below w.heap.size w wr) (fun i _ => n - (intOf i).toNat)
  case atStart => exact ⟨0, Nat.zero_le _, rfl, by simp, Below.refl _ _⟩
  case round =>
    obtain ⟨k, hk, rfl, hall, hb⟩ := hrel
    have Hall := Lib.hid hall; clear hall
    by_cases hlt : k < n
    · cases d with
      | zero =>
        obtain ⟨b, o, r, e, hA, hbl, _, he, hl, hp, hc⟩ := LsAt.get (h.below hb) hlt
        exact hp.elim
      | succ d =>
        obtain ⟨b, o, e, Ac, nc, cc, Ae, ne, ce, Ab, nb, cb, Al, nl, cl, rfl, hbl, hx, hc0, hc1, hc2, hc3, hc4, hc5, hc6, hc7, hp, _⟩ := StsAt.get (h.below hb) hlt
        have hc := blocksC_any F (d + 1) ih e _ wr hp
        obtain ⟨q, hq⟩ : ∃ q, (!builtS (d + 1) e) = q := ⟨_, rfl⟩
        rw [hq] at hc
        have Hc := Lib.hid hc
        have Hq := Lib.hid hq
        have Hx := Lib.hid hx
        clear hc hq hx
        cases q
        · have Hnx := Lib.hid (mem_take_succ Hx.out Hall.out Hq.out)
          go_wp2_with (go_at_call 57; refine Hc.out.mono ?_; rintro y w1 ⟨rfl, hb1⟩)
          go_roundw
          case rel => exact ⟨k + 1, by omega, by go_num, Hnx.out, hb.trans (hb1.mono hb.size)⟩
          case measure => simp [intOf]; omega
        · have Hf := Lib.hid (posB_yes (p := fun e => !builtS (d + 1) e) Hx.out Hq.out Hall.out)
          go_wp2_with (go_at_call 57; refine Hc.out.mono ?_; rintro y w1 ⟨rfl, hb1⟩)
          go_ret
          exact ⟨by rw [Hf.out]; rfl, hb.trans (hb1.mono hb.size)⟩
    · go_wp2
      go_ret
      have h1 := Hall.out
      rw [List.take_of_length_le (by rw [Hl.out]; omega)] at h1
      exact ⟨by rw [posB_no h1]; rfl, hb⟩

theorem containsBlocks_any (F : Nat → Prop) (d : Nat) (ih : BuiltsS F d) (A : Option Addr) (n c : Nat) (es : List St) (w : World) (h : StsAt F d w A n c es) :
    Calls Try.prog 56 #[.slice A n c, .func (.func 57) #[] #[]] w fun x w' => x = .returned (.bool (!es.all (builtS d))) ∧ Below w.heap.size w w' := by
  have hi := indexBlocks_any F d ih A n c es w h
  have hp := posB_any (fun e => !builtS d e) es
  have hq : (es.any fun e => !builtS d e) = !es.all (builtS d) := by
    induction es with
    | nil => rfl
    | cons a r _ => simp [List.any_eq_not_all_not]
  rw [hq] at hp
  generalize es.all (builtS d) = r at *
  generalize posB (fun e => !builtS d e) es = i at *
  have Hp := Lib.hid hp
  have Hi := Lib.hid hi
  clear hp hi hq
  go_enter Try.func56, Try.ntmps56
  go_wp2_with (go_at_call 70; refine Hi.out.mono ?_; rintro x w' ⟨rfl, hb⟩)
  go_ret
  exact ⟨ret_bool Hp.out, hb⟩

theorem blocks_of (F : Nat → Prop) (d : Nat) (ih : BuiltsS F d) (A : Option Addr) (n c : Nat) (es : List St) (w : World) (h : StsAt F d w A n c es) :
    Calls Try.prog 38 #[.slice A n c] w fun x w' => x = .returned (.bool (es.all (builtS d))) ∧ Below w.heap.size w w' := by
  have Hc := Lib.hid (containsBlocks_any F d ih A n c es w h)
  generalize es.all (builtS d) = r at *
  go_enter Try.func38, Try.ntmps38
  go_wp2_with (go_at_call 56; refine Hc.out.mono ?_; rintro x w1 ⟨rfl, hb⟩)
  go_ret
  exact ⟨ret_bool (by simp), hb⟩

set_option maxHeartbeats 1000000 in
theorem builtS_any (F : Nat → Prop) (d : Nat) : BuiltsS F d := by
  induction d with
  | zero => intro e row w h; exact h.elim
  | succ d ih =>
    intro e row w h
    obtain ⟨ho, hn, hnm, hsr, Ac, nc, cc, Ae, ne, ce, Ab, nb, cb, Al, nl, cl, rfl, hcl, hel, hbl, hll⟩ := h.open_
    have hx1 : IsBlk (w.alloc (.cells #[.int .i64 e.op, .string e.name, .string e.src, .int .i64 e.n, .slice Ac nc cc, .slice Ae ne ce, .slice Ab nb cb, .slice Al nl cl] 52)) w.heap.size 52 #[.int .i64 e.op, .string e.name, .string e.src, .int .i64 e.n, .slice Ac nc cc, .slice Ae ne ce, .slice Ab nb cb, .slice Al nl cl] := IsBlk.laid _ _ _
    have hX : Below (w.heap.size + 1) (w.alloc (.cells #[.int .i64 e.op, .string e.name, .string e.src, .int .i64 e.n, .slice Ac nc cc, .slice Ae ne ce, .slice Ab nb cb, .slice Al nl cl] 52)) (w.alloc (.cells #[.int .i64 e.op, .string e.name, .string e.src, .int .i64 e.n, .slice Ac nc cc, .slice Ae ne ce, .slice Ab nb cb, .slice Al nl cl] 52)) := Below.refl _ _
    have hb1 : Below w.heap.size w (w.alloc (.cells #[.int .i64 e.op, .string e.name, .string e.src, .int .i64 e.n, .slice Ac nc cc, .slice Ae ne ce, .slice Ab nb cb, .slice Al nl cl] 52)) := (Below.refl _ _).alloc (Nat.le_refl _) _
    have Hx := Lib.hid (fun W (hW : Below (w.heap.size + 1) (w.alloc (.cells #[.int .i64 e.op, .string e.name, .string e.src, .int .i64 e.n, .slice Ac nc cc, .slice Ae ne ce, .slice Ab nb cb, .slice Al nl cl] 52)) W) => stBox (hx1.as_was (hW.block _ (Nat.lt_succ_self _))))
    have HB := Lib.hid (fun W (hW : Below (w.heap.size + 1) (w.alloc (.cells #[.int .i64 e.op, .string e.name, .string e.src, .int .i64 e.n, .slice Ac nc cc, .slice Ae ne ce, .slice Ab nb cb, .slice Al nl cl] 52)) W) => hb1.trans (hW.mono (by simp)))
    have Hs := Lib.hid (fun W (hW : Below w.heap.size w W) => shape_any F e.name e.src e.n Ac Ae Ab Al nc cc ne ce nb cb nl cl e.cols W e.op (hcl.below hW) hnm hsr)
    have He := Lib.hid (fun W (hW : Below w.heap.size w W) => containsBuilt2_any F d (builtE_any F d) Ae ne ce e.exprs W (hel.below hW))
    have Hb := Lib.hid (fun W (hW : Below w.heap.size w W) => blocks_of F d ih Ab nb cb e.body W (hbl.below hW))
    have Hl := Lib.hid (fun W (hW : Below w.heap.size w W) => blocks_of F d ih Al nl cl e.els W (hll.below hW))
    have hfin : builtS (d + 1) e = (shapeR e.op e.name e.src e.n e.cols ne nb nl && e.exprs.all (builtE d) && e.body.all (builtS d) && e.els.all (builtS d)) := by
      rw [builtS, shapeB, LsAt.len hel, LsAt.len hbl, LsAt.len hll]
    generalize shapeR e.op e.name e.src e.n e.cols ne nb nl = qs at *
    generalize e.exprs.all (builtE d) = qe at *
    generalize e.body.all (builtS d) = qb at *
    generalize e.els.all (builtS d) = ql at *
    generalize builtS (d + 1) e = fin at *
    have Hfin := Lib.hid hfin
    clear hfin hx1 hcl hel hbl hll ih
    cases qs <;> cases qe <;> cases qb
    all_goals
      go_enter Try.func58, Try.ntmps58
      go_wp2_with (first | (go_at_call 71; refine (Hs.out _ (HB.out _ hX)).mono ?_; rintro x w2 ⟨rfl, hb2⟩; replace hX := hX.trans (hb2.mono (by first | (simp; done) | (have := hX.size; simp at this; omega))); obtain ⟨x1, x2, x3, x4, x5, x6, x7, xl⟩ := Hx.out _ hX) | (go_at_call 72; refine (He.out _ (HB.out _ hX)).mono ?_; rintro x w3 ⟨rfl, hb3⟩; replace hX := hX.trans (hb3.mono (by first | (simp; done) | (have := hX.size; simp at this; omega))); obtain ⟨x1, x2, x3, x4, x5, x6, x7, xl⟩ := Hx.out _ hX) | (go_at_call 38; with_reducible refine (Hb.out _ (HB.out _ hX)).mono ?_; rintro x w4 ⟨rfl, hb4⟩; replace hX := hX.trans (hb4.mono (by first | (simp; done) | (have := hX.size; simp at this; omega))); obtain ⟨x1, x2, x3, x4, x5, x6, x7, xl⟩ := Hx.out _ hX) | (go_at_call 38; with_reducible refine (Hl.out _ (HB.out _ hX)).mono ?_; rintro x w5 ⟨rfl, hb5⟩; replace hX := hX.trans (hb5.mono (by first | (simp; done) | (have := hX.size; simp at this; omega))); obtain ⟨x1, x2, x3, x4, x5, x6, x7, xl⟩ := Hx.out _ hX))
      go_ret
      exact ⟨ret_bool (by rw [Hfin.out]; simp), HB.out _ hX⟩
theorem blocks_any (F : Nat → Prop) (d : Nat) (A : Option Addr) (n c : Nat) (es : List St) (w : World) (h : StsAt F d w A n c es) :
    Calls Try.prog 38 #[.slice A n c] w fun x w' => x = .returned (.bool (es.all (builtS d))) ∧ Below w.heap.size w w' := blocks_of F d (builtS_any F d) A n c es w h
end Go.Proofs.Ytgihhkfppnhdpaa

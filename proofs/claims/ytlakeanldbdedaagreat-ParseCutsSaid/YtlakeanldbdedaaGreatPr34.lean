/- Parts of this proof, one behind the other: SynJ3, SynJ4, SynK. -/
import Derived.Test.YtlakeanldbdedaaGreatPr33
import Derived.Deep.Cut
namespace Go.Proofs.YtlakeanldbdedaaGreat
open Go.RowKit Go.Afx

set_option maxRecDepth 100000 in
set_option maxHeartbeats 40000000 in
theorem shapeK_4 (F : Nat → Prop) (name src : ByteArray) (n : Int) (Ac Ae Ab Al : Option Addr) (nc cc ne ce nb cb nl cl : Nat) (cols : List ByteArray) (w : World) (hc : LsAt F w 1 SRow Ac nc cc cols) (okn : okS name) (oks : okS src) :
    Calls Tryz.prog 96 #[.agg #[.int .i64 4, .string name, .string src, .int .i64 n, .slice Ac nc cc, .slice Ae ne ce, .slice Ab nb cb, .slice Al nl cl]] w fun x w' => x = .returned (.bool (shapeR 4 name src n cols ne nb nl)) ∧ Below w.heap.size w w' := by
  have hcl := hc.len
  have hcc : (decide (1 ≤ nc) && decide (nc ≤ 8)) = (decide ((1 : Int) ≤ (nc : Int)) && decide ((nc : Int) ≤ 8)) := by rw [Bool.eq_iff_iff]; simp; omega
  obtain ⟨hbase, hX0, Hx⟩ := shStart4 4 name src n Ac Ae Ab Al nc cc ne ce nb cb nl cl w
  have HF0 := Lib.hid (fun (W : World) A m c (h : LsAt (fun _ => True) W 1 SRow A m c [name]) => free_any _ A m c _ W h)
  rw [freesB_one] at HF0
  have HF1 := Lib.hid (fun (W : World) A m c (h : LsAt (fun _ => True) W 1 SRow A m c [src]) => free_any _ A m c _ W h)
  rw [freesB_one] at HF1
  have HW2 := Lib.hid (fun W => within_any nc 1 8 W)
  have HF3 := Lib.hid (fun (W : World) (hW : Below w.heap.size w W) => free_any F Ac nc cc cols W (hc.below hW))
  have HF4 := Lib.hid (fun (h8 : nc ≤ 1000000) (W : World) (hW : Below w.heap.size w W) => unlike_any F Ac nc cc cols W (hc.below hW) h8)
  have HW6 := Lib.hid (fun W => within_any ne ((nc : Int) + 1) ((nc : Int) + 1) W)
  generalize hfin : shapeR 4 name src n cols ne nb nl = fin
  cases t0 : freeB name
  rotate_left
  cases t1 : freeB src
  rotate_left
  (cases t2 : (decide ((1 : Int) ≤ (nc : Int)) && decide ((nc : Int) ≤ 8)) <;> rw [t2] at hcc)
  rotate_left
  have h8 : nc ≤ 1000000 := by simp at t2; omega
  cases t3 : freesB cols
  rotate_left
  cases t4 : decide cols.Nodup
  rotate_left
  cases t5 : decide (n = 0)
  rotate_left
  cases t6 : (decide (((nc : Int) + 1) ≤ (ne : Int)) && decide ((ne : Int) ≤ ((nc : Int) + 1)))
  rotate_left
  cases t7 : decide (nb = 0)
  rotate_left
  cases t8 : decide (nl = 0)
  rotate_left
  all_goals
    simp [shapeR, shapeP, *] at hfin
    subst hfin
    try (rw [t0] at HF0; clear t0)
    try (rw [t1] at HF1; clear t1)
    try (rw [t2] at HW2; clear t2)
    try (rw [t3] at HF3; clear t3)
    try (rw [t4] at HF4; clear t4)
    first | (obtain rfl := of_decide_eq_true t5; clear t5) | replace t5 := int_nz t5 | skip
    try (rw [t6] at HW6; clear t6)
    first | (obtain rfl := of_decide_eq_true t7; clear t7) | replace t7 := nat_nz t7 | skip
    first | (obtain rfl := of_decide_eq_true t8; clear t8) | replace t8 := nat_nz t8 | skip
    clear hcc
    clear hcl hc
    go_enter Tryz.func96, Tryz.ntmps96
    go_upto_region 14 with (fail)
    go_quiet (fail)
    go_upto_region 25 with (fail)
    simp only [List.append_eq, List.cons_append, List.nil_append]
    go_wp2_with (first | (go_at_call 127; with_reducible refine (hasT_any name _ okn).mono ?_; rintro x w10 ⟨A0, n0, c0, rfl, hl0, hb0⟩; have hX := grow (hX0 _) hb0; obtain ⟨x1, x2, x3, x4, x5, x6, x7, xl⟩ := Hx.out _ hX) | (go_at_call 55; with_reducible refine (HF0.out _ _ _ _ hl0).mono ?_; rintro x w20 ⟨rfl, hc0⟩; replace hX := grow hX hc0; obtain ⟨x1, x2, x3, x4, x5, x6, x7, xl⟩ := Hx.out _ hX) | (go_at_call 127; with_reducible refine (hasT_any src _ oks).mono ?_; rintro x w11 ⟨A1, n1, c1, rfl, hl1, hb1⟩; replace hX := grow hX hb1; obtain ⟨x1, x2, x3, x4, x5, x6, x7, xl⟩ := Hx.out _ hX) | (go_at_call 55; with_reducible refine (HF1.out _ _ _ _ hl1).mono ?_; rintro x w21 ⟨rfl, hc1⟩; replace hX := grow hX hc1; obtain ⟨x1, x2, x3, x4, x5, x6, x7, xl⟩ := Hx.out _ hX) | (go_at_call 54; with_reducible refine (HW2.out _).mono ?_; rintro x w' ⟨rfl, rfl⟩) | (go_at_call 55; with_reducible refine (HF3.out _ (hbase.trans (hX.mono (by simp)))).mono ?_; rintro x w13 ⟨rfl, hb3⟩; replace hX := grow hX hb3; obtain ⟨x1, x2, x3, x4, x5, x6, x7, xl⟩ := Hx.out _ hX) | (go_at_call 56; with_reducible refine (HF4.out h8 _ (hbase.trans (hX.mono (by simp)))).mono ?_; rintro x w14 ⟨rfl, hb4⟩; replace hX := grow hX hb4; obtain ⟨x1, x2, x3, x4, x5, x6, x7, xl⟩ := Hx.out _ hX) | (go_at_call 54; with_reducible refine (HW6.out _).mono ?_; rintro x w' ⟨rfl, rfl⟩))
    go_ret
    exact ⟨rfl, hbase.trans (hX.mono (by simp))⟩

set_option maxRecDepth 100000 in
set_option maxHeartbeats 40000000 in
theorem shapeK_6 (F : Nat → Prop) (name src : ByteArray) (n : Int) (Ac Ae Ab Al : Option Addr) (nc cc ne ce nb cb nl cl : Nat) (cols : List ByteArray) (w : World) (hc : LsAt F w 1 SRow Ac nc cc cols) (okn : okS name) (oks : okS src) :
    Calls Tryz.prog 96 #[.agg #[.int .i64 6, .string name, .string src, .int .i64 n, .slice Ac nc cc, .slice Ae ne ce, .slice Ab nb cb, .slice Al nl cl]] w fun x w' => x = .returned (.bool (shapeR 6 name src n cols ne nb nl)) ∧ Below w.heap.size w w' := by
  have hcl := hc.len
  obtain ⟨hbase, hX, Hx⟩ := shStart 6 name src n Ac Ae Ab Al nc cc ne ce nb cb nl cl w
  have HF0 := Lib.hid (fun (W : World) A m c (h : LsAt (fun _ => True) W 1 SRow A m c [name]) => free_any _ A m c _ W h)
  rw [freesB_one] at HF0
  have HF1 := Lib.hid (fun (W : World) A m c (h : LsAt (fun _ => True) W 1 SRow A m c [src]) => free_any _ A m c _ W h)
  rw [freesB_one] at HF1
  have HW3 := Lib.hid (fun W => within_any n 0 1000 W)
  have HW4 := Lib.hid (fun W => within_any ne 1 1 W)
  generalize hfin : shapeR 6 name src n cols ne nb nl = fin
  cases t0 : freeB name
  rotate_left
  cases t1 : freeB src
  rotate_left
  cases t2 : decide (nc = 0)
  rotate_left
  cases t3 : (decide (0 ≤ n) && decide (n ≤ 1000))
  rotate_left
  cases t4 : (decide (1 ≤ (ne : Int)) && decide ((ne : Int) ≤ 1))
  rotate_left
  cases t5 : decide (nl = 0)
  rotate_left
  all_goals
    simp [shapeR, shapeP, *] at hfin
    subst hfin
    try (rw [t0] at HF0; clear t0)
    try (rw [t1] at HF1; clear t1)
    first | (obtain rfl := of_decide_eq_true t2; clear t2) | replace t2 := nat_nz t2 | skip
    try (rw [t3] at HW3; clear t3)
    try (rw [t4] at HW4; clear t4)
    first | (obtain rfl := of_decide_eq_true t5; clear t5) | replace t5 := nat_nz t5 | skip
    clear hcl hc
    go_enter Tryz.func96, Tryz.ntmps96
    go_upto_region 25 with (fail)
    simp only [List.append_eq, List.cons_append, List.nil_append]
    go_wp2_with (first | (go_at_call 127; with_reducible refine (hasT_any name _ okn).mono ?_; rintro x w10 ⟨A0, n0, c0, rfl, hl0, hb0⟩; replace hX := grow hX hb0; obtain ⟨x1, x2, x3, x4, x5, x6, x7, xl⟩ := Hx.out _ hX) | (go_at_call 55; with_reducible refine (HF0.out _ _ _ _ hl0).mono ?_; rintro x w20 ⟨rfl, hc0⟩; replace hX := grow hX hc0; obtain ⟨x1, x2, x3, x4, x5, x6, x7, xl⟩ := Hx.out _ hX) | (go_at_call 127; with_reducible refine (hasT_any src _ oks).mono ?_; rintro x w11 ⟨A1, n1, c1, rfl, hl1, hb1⟩; replace hX := grow hX hb1; obtain ⟨x1, x2, x3, x4, x5, x6, x7, xl⟩ := Hx.out _ hX) | (go_at_call 55; with_reducible refine (HF1.out _ _ _ _ hl1).mono ?_; rintro x w21 ⟨rfl, hc1⟩; replace hX := grow hX hc1; obtain ⟨x1, x2, x3, x4, x5, x6, x7, xl⟩ := Hx.out _ hX) | (go_at_call 54; with_reducible refine (HW3.out _).mono ?_; rintro x w' ⟨rfl, rfl⟩) | (go_at_call 54; with_reducible refine (HW4.out _).mono ?_; rintro x w' ⟨rfl, rfl⟩))
    go_ret
    exact ⟨rfl, hbase.trans (hX.mono (by simp))⟩
end Go.Proofs.YtlakeanldbdedaaGreat

namespace Go.Proofs.YtlakeanldbdedaaGreat
open Go.RowKit Go.Afx

set_option maxRecDepth 100000 in
set_option maxHeartbeats 40000000 in
theorem shapeK_9 (F : Nat → Prop) (name src : ByteArray) (n : Int) (Ac Ae Ab Al : Option Addr) (nc cc ne ce nb cb nl cl : Nat) (cols : List ByteArray) (w : World) (hc : LsAt F w 1 SRow Ac nc cc cols) :
    Calls Tryz.prog 96 #[.agg #[.int .i64 9, .string name, .string src, .int .i64 n, .slice Ac nc cc, .slice Ae ne ce, .slice Ab nb cb, .slice Al nl cl]] w fun x w' => x = .returned (.bool (shapeR 9 name src n cols ne nb nl)) ∧ Below w.heap.size w w' := by
  have hcl := hc.len
  obtain ⟨hbase, hX, Hx⟩ := shStart 9 name src n Ac Ae Ab Al nc cc ne ce nb cb nl cl w
  have HW4 := Lib.hid (fun W => within_any ne 1 1 W)
  generalize hfin : shapeR 9 name src n cols ne nb nl = fin
  cases t0 : noS name
  rotate_left
  cases t1 : noS src
  rotate_left
  cases t2 : decide (nc = 0)
  rotate_left
  cases t3 : decide (n = 0)
  rotate_left
  cases t4 : (decide (1 ≤ (ne : Int)) && decide ((ne : Int) ≤ 1))
  rotate_left
  cases t5 : decide (nb = 0)
  rotate_left
  cases t6 : decide (nl = 0)
  rotate_left
  all_goals
    simp [shapeR, shapeP, *] at hfin
    subst hfin
    first | replace t0 := str_empty t0 | replace t0 := str_some t0 | skip
    first | replace t1 := str_empty t1 | replace t1 := str_some t1 | skip
    first | (obtain rfl := of_decide_eq_true t2; clear t2) | replace t2 := nat_nz t2 | skip
    first | (obtain rfl := of_decide_eq_true t3; clear t3) | replace t3 := int_nz t3 | skip
    try (rw [t4] at HW4; clear t4)
    first | (obtain rfl := of_decide_eq_true t5; clear t5) | replace t5 := nat_nz t5 | skip
    first | (obtain rfl := of_decide_eq_true t6; clear t6) | replace t6 := nat_nz t6 | skip
    clear hcl hc
    go_enter Tryz.func96, Tryz.ntmps96
    go_upto_region 25 with (fail)
    simp only [List.append_eq, List.cons_append, List.nil_append]
    go_wp2_with (first | (go_at_call 54; with_reducible refine (HW4.out _).mono ?_; rintro x w' ⟨rfl, rfl⟩) | (go_at_call 127; with_reducible refine (hasF_any name _).mono ?_; rintro x w' ⟨rfl, rfl⟩) | (go_at_call 127; with_reducible refine (hasF_any src _).mono ?_; rintro x w' ⟨rfl, rfl⟩) | (go_at_call 55; with_reducible refine (freeN_any _).mono ?_; rintro x w6 ⟨rfl, hb6⟩; replace hX := grow hX hb6; obtain ⟨x1, x2, x3, x4, x5, x6, x7, xl⟩ := Hx.out _ hX))
    go_ret
    exact ⟨rfl, hbase.trans (hX.mono (by simp))⟩

set_option maxRecDepth 100000 in
set_option maxHeartbeats 40000000 in
theorem shapeK_10 (F : Nat → Prop) (name src : ByteArray) (n : Int) (Ac Ae Ab Al : Option Addr) (nc cc ne ce nb cb nl cl : Nat) (cols : List ByteArray) (w : World) (hc : LsAt F w 1 SRow Ac nc cc cols) :
    Calls Tryz.prog 96 #[.agg #[.int .i64 10, .string name, .string src, .int .i64 n, .slice Ac nc cc, .slice Ae ne ce, .slice Ab nb cb, .slice Al nl cl]] w fun x w' => x = .returned (.bool (shapeR 10 name src n cols ne nb nl)) ∧ Below w.heap.size w w' := by
  have hcl := hc.len
  obtain ⟨hbase, hX, Hx⟩ := shStart 10 name src n Ac Ae Ab Al nc cc ne ce nb cb nl cl w
  have HW4 := Lib.hid (fun W => within_any ne 1 8 W)
  generalize hfin : shapeR 10 name src n cols ne nb nl = fin
  cases t0 : noS name
  rotate_left
  cases t1 : noS src
  rotate_left
  cases t2 : decide (nc = 0)
  rotate_left
  cases t3 : decide (n = 0)
  rotate_left
  cases t4 : (decide (1 ≤ (ne : Int)) && decide ((ne : Int) ≤ 8))
  rotate_left
  cases t5 : decide (nb = 0)
  rotate_left
  cases t6 : decide (nl = 0)
  rotate_left
  all_goals
    simp [shapeR, shapeP, *] at hfin
    subst hfin
    first | replace t0 := str_empty t0 | replace t0 := str_some t0 | skip
    first | replace t1 := str_empty t1 | replace t1 := str_some t1 | skip
    first | (obtain rfl := of_decide_eq_true t2; clear t2) | replace t2 := nat_nz t2 | skip
    first | (obtain rfl := of_decide_eq_true t3; clear t3) | replace t3 := int_nz t3 | skip
    try (rw [t4] at HW4; clear t4)
    first | (obtain rfl := of_decide_eq_true t5; clear t5) | replace t5 := nat_nz t5 | skip
    first | (obtain rfl := of_decide_eq_true t6; clear t6) | replace t6 := nat_nz t6 | skip
    clear hcl hc
    go_enter Tryz.func96, Tryz.ntmps96
    go_upto_region 25 with (fail)
    simp only [List.append_eq, List.cons_append, List.nil_append]
    go_wp2_with (first | (go_at_call 54; with_reducible refine (HW4.out _).mono ?_; rintro x w' ⟨rfl, rfl⟩) | (go_at_call 127; with_reducible refine (hasF_any name _).mono ?_; rintro x w' ⟨rfl, rfl⟩) | (go_at_call 127; with_reducible refine (hasF_any src _).mono ?_; rintro x w' ⟨rfl, rfl⟩) | (go_at_call 55; with_reducible refine (freeN_any _).mono ?_; rintro x w6 ⟨rfl, hb6⟩; replace hX := grow hX hb6; obtain ⟨x1, x2, x3, x4, x5, x6, x7, xl⟩ := Hx.out _ hX))
    go_ret
    exact ⟨rfl, hbase.trans (hX.mono (by simp))⟩
end Go.Proofs.YtlakeanldbdedaaGreat

namespace Go.Proofs.YtlakeanldbdedaaGreat
open Go.RowKit Go.Afx

theorem shape_any (F : Nat → Prop) (name src : ByteArray) (n : Int) (Ac Ae Ab Al : Option Addr) (nc cc ne ce nb cb nl cl : Nat) (cols : List ByteArray) (w : World) (op : Int) (hc : LsAt F w 1 SRow Ac nc cc cols) (okn : okS name) (oks : okS src) :
    Calls Tryz.prog 96 #[.agg #[.int .i64 op, .string name, .string src, .int .i64 n, .slice Ac nc cc, .slice Ae ne ce, .slice Ab nb cb, .slice Al nl cl]] w fun x w' => x = .returned (.bool (shapeR op name src n cols ne nb nl)) ∧ Below w.heap.size w w' := by
  by_cases e1 : op = 1
  · subst e1; exact shapeK_1 F name src n Ac Ae Ab Al nc cc ne ce nb cb nl cl cols w hc okn
  by_cases e2 : op = 2
  · subst e2; exact shapeK_2 F name src n Ac Ae Ab Al nc cc ne ce nb cb nl cl cols w hc okn
  by_cases e3 : op = 3
  · subst e3; exact shapeK_3 F name src n Ac Ae Ab Al nc cc ne ce nb cb nl cl cols w hc oks
  by_cases e4 : op = 4
  · subst e4; exact shapeK_4 F name src n Ac Ae Ab Al nc cc ne ce nb cb nl cl cols w hc okn oks
  by_cases e5 : op = 5
  · subst e5; exact shapeK_5 F name src n Ac Ae Ab Al nc cc ne ce nb cb nl cl cols w hc okn oks
  by_cases e6 : op = 6
  · subst e6; exact shapeK_6 F name src n Ac Ae Ab Al nc cc ne ce nb cb nl cl cols w hc okn oks
  by_cases e7 : op = 7
  · subst e7; exact shapeK_7 F name src n Ac Ae Ab Al nc cc ne ce nb cb nl cl cols w hc
  by_cases e8 : op = 8
  · subst e8; exact shapeK_8 F name src n Ac Ae Ab Al nc cc ne ce nb cb nl cl cols w hc oks
  by_cases e9 : op = 9
  · subst e9; exact shapeK_9 F name src n Ac Ae Ab Al nc cc ne ce nb cb nl cl cols w hc
  by_cases e10 : op = 10
  · subst e10; exact shapeK_10 F name src n Ac Ae Ab Al nc cc ne ce nb cb nl cl cols w hc
  have hr : shapeR op name src n cols ne nb nl = false := by
    unfold shapeR
    repeat (rw [if_neg (by omega)])
  have Hr := Lib.hid hr
  clear hr hc
  have d1 : (op == 1) = false := by simpa using e1
  have d2 : (op == 2) = false := by simpa using e2
  have d3 : (op == 3) = false := by simpa using e3
  have d4 : (op == 4) = false := by simpa using e4
  have d5 : (op == 5) = false := by simpa using e5
  have d6 : (op == 6) = false := by simpa using e6
  have d7 : (op == 7) = false := by simpa using e7
  have d8 : (op == 8) = false := by simpa using e8
  have d9 : (op == 9) = false := by simpa using e9
  have d10 : (op == 10) = false := by simpa using e10
  go_enter Tryz.func96, Tryz.ntmps96
  go_wp2
  go_ret
  exact ⟨ret_bool Hr.out.symm, (Below.refl _ _).alloc (Nat.le_refl _) _⟩
end Go.Proofs.YtlakeanldbdedaaGreat

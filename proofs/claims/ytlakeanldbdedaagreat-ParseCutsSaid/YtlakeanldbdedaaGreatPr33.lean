/- Parts of this proof, one behind the other: SynJ, SynJ1, SynJ2. -/
import Derived.Test.YtlakeanldbdedaaGreatPr32
import Derived.Deep.Cut
namespace Go.Proofs.YtlakeanldbdedaaGreat
open Go.RowKit Go.Afx

theorem hasT_any (s : ByteArray) (w : World) (hs : okS s) : Calls Tryz.prog 127 #[.bool true, .string s] w fun x w' => ∃ A n c, x = .returned (.slice A n c) ∧ LsAt (fun _ => True) w' 1 SRow A n c [s] ∧ Below w.heap.size w w' := has_any true s w hs
theorem hasF_any (s : ByteArray) (w : World) : Calls Tryz.prog 127 #[.bool false, .string s] w fun x w' => x = .returned (.slice none 0 0) ∧ w = w' := by
  go_enter Tryz.func127, Tryz.ntmps127
  go_wp2
  go_ret
  exact ⟨rfl, rfl⟩
theorem freeN_any (w : World) : Calls Tryz.prog 55 #[.slice none 0 0] w fun x w' => x = .returned (.bool true) ∧ Below w.heap.size w w' := free_any (fun _ => True) none 0 0 [] w (LsAt.nil_ _ _ _ _)
theorem freesB_one (s : ByteArray) : freesB [s] = freeB s := by rw [freesB_all]; simp
theorem str_empty {s : ByteArray} (h : noS s = true) : s.toList = [] := by rw [noS_nil] at h; simpa using h
theorem nat_nz {n : Nat} (h : decide (n = 0) = false) : ((n : Int) == 0) = false := by simp at h ⊢; omega
theorem int_nz {n : Int} (h : decide (n = 0) = false) : (n == 0) = false := by simp at h ⊢; omega
theorem str_some {s : ByteArray} (h : noS s = false) : s.toList.isEmpty = false := by rw [noS_nil] at h; exact h

theorem stBox {w : World} {g : Nat} {T : TypeId} {op n : Int} {name src : ByteArray} {Ac Ae Ab Al : Option Addr} {nc cc ne ce nb cb nl cl : Nat}
    (h : IsBlk w g T #[.int .i64 op, .string name, .string src, .int .i64 n, .slice Ac nc cc, .slice Ae ne ce, .slice Ab nb cb, .slice Al nl cl]) :
    w.cell? ⟨g, 1, none⟩ = some (.string name) ∧ w.cell? ⟨g, 2, none⟩ = some (.string src) ∧ w.cell? ⟨g, 3, none⟩ = some (.int .i64 n) ∧ w.cell? ⟨g, 4, none⟩ = some (.slice Ac nc cc) ∧ w.cell? ⟨g, 5, none⟩ = some (.slice Ae ne ce) ∧ w.cell? ⟨g, 6, none⟩ = some (.slice Ab nb cb) ∧ w.cell? ⟨g, 7, none⟩ = some (.slice Al nl cl) ∧ g < w.heap.size := by
  have h1 := h.cell 1; have h2 := h.cell 2; have h3 := h.cell 3; have h4 := h.cell 4; have h5 := h.cell 5; have h6 := h.cell 6; have h7 := h.cell 7
  simp at h1 h2 h3 h4 h5 h6 h7
  exact ⟨h1, h2, h3, h4, h5, h6, h7, h.lt⟩

theorem grow {w W W' : World} {o : Obj} (hX : Below (w.heap.size + 1) (w.alloc o) W) (hb : Below W.heap.size W W') : Below (w.heap.size + 1) (w.alloc o) W' :=
  hX.trans (hb.mono (by have := hX.size; simp at this; omega))
theorem shStart (op : Int) (name src : ByteArray) (n : Int) (Ac Ae Ab Al : Option Addr) (nc cc ne ce nb cb nl cl : Nat) (w : World) : Below w.heap.size w (w.alloc (.cells #[.int .i64 op, .string name, .string src, .int .i64 n, .slice Ac nc cc, .slice Ae ne ce, .slice Ab nb cb, .slice Al nl cl] 58)) ∧ Below (w.heap.size + 1) (w.alloc (.cells #[.int .i64 op, .string name, .string src, .int .i64 n, .slice Ac nc cc, .slice Ae ne ce, .slice Ab nb cb, .slice Al nl cl] 58)) (w.alloc (.cells #[.int .i64 op, .string name, .string src, .int .i64 n, .slice Ac nc cc, .slice Ae ne ce, .slice Ab nb cb, .slice Al nl cl] 58)) ∧ Hid (∀ W, Below (w.heap.size + 1) (w.alloc (.cells #[.int .i64 op, .string name, .string src, .int .i64 n, .slice Ac nc cc, .slice Ae ne ce, .slice Ab nb cb, .slice Al nl cl] 58)) W → W.cell? ⟨w.heap.size, 1, none⟩ = some (.string name) ∧ W.cell? ⟨w.heap.size, 2, none⟩ = some (.string src) ∧ W.cell? ⟨w.heap.size, 3, none⟩ = some (.int .i64 n) ∧ W.cell? ⟨w.heap.size, 4, none⟩ = some (.slice Ac nc cc) ∧ W.cell? ⟨w.heap.size, 5, none⟩ = some (.slice Ae ne ce) ∧ W.cell? ⟨w.heap.size, 6, none⟩ = some (.slice Ab nb cb) ∧ W.cell? ⟨w.heap.size, 7, none⟩ = some (.slice Al nl cl) ∧ w.heap.size < W.heap.size) :=
  have hx1 : IsBlk (w.alloc (.cells #[.int .i64 op, .string name, .string src, .int .i64 n, .slice Ac nc cc, .slice Ae ne ce, .slice Ab nb cb, .slice Al nl cl] 58)) w.heap.size 58 #[.int .i64 op, .string name, .string src, .int .i64 n, .slice Ac nc cc, .slice Ae ne ce, .slice Ab nb cb, .slice Al nl cl] := IsBlk.laid _ _ _
  ⟨(Below.refl _ _).alloc (Nat.le_refl _) _, Below.refl _ _, Lib.hid (fun _ hW => stBox (hx1.as_was (hW.block _ (Nat.lt_succ_self _))))⟩
theorem shStart4 (op : Int) (name src : ByteArray) (n : Int) (Ac Ae Ab Al : Option Addr) (nc cc ne ce nb cb nl cl : Nat) (w : World) : Below w.heap.size w (w.alloc (.cells #[.int .i64 op, .string name, .string src, .int .i64 n, .slice Ac nc cc, .slice Ae ne ce, .slice Ab nb cb, .slice Al nl cl] 58)) ∧ (∀ k, Below (w.heap.size + 1) (w.alloc (.cells #[.int .i64 op, .string name, .string src, .int .i64 n, .slice Ac nc cc, .slice Ae ne ce, .slice Ab nb cb, .slice Al nl cl] 58)) ((w.alloc (.cells #[.int .i64 op, .string name, .string src, .int .i64 n, .slice Ac nc cc, .slice Ae ne ce, .slice Ab nb cb, .slice Al nl cl] 58)).drewN k)) ∧ Hid (∀ W, Below (w.heap.size + 1) (w.alloc (.cells #[.int .i64 op, .string name, .string src, .int .i64 n, .slice Ac nc cc, .slice Ae ne ce, .slice Ab nb cb, .slice Al nl cl] 58)) W → W.cell? ⟨w.heap.size, 1, none⟩ = some (.string name) ∧ W.cell? ⟨w.heap.size, 2, none⟩ = some (.string src) ∧ W.cell? ⟨w.heap.size, 3, none⟩ = some (.int .i64 n) ∧ W.cell? ⟨w.heap.size, 4, none⟩ = some (.slice Ac nc cc) ∧ W.cell? ⟨w.heap.size, 5, none⟩ = some (.slice Ae ne ce) ∧ W.cell? ⟨w.heap.size, 6, none⟩ = some (.slice Ab nb cb) ∧ W.cell? ⟨w.heap.size, 7, none⟩ = some (.slice Al nl cl) ∧ w.heap.size < W.heap.size) :=
  have h := shStart op name src n Ac Ae Ab Al nc cc ne ce nb cb nl cl w
  ⟨h.1, fun k => below_drewN (Below.refl _ _) k, h.2.2⟩

end Go.Proofs.YtlakeanldbdedaaGreat

namespace Go.Proofs.YtlakeanldbdedaaGreat
open Go.RowKit Go.Afx

set_option maxRecDepth 100000 in
set_option maxHeartbeats 40000000 in
theorem shapeK_1 (F : Nat → Prop) (name src : ByteArray) (n : Int) (Ac Ae Ab Al : Option Addr) (nc cc ne ce nb cb nl cl : Nat) (cols : List ByteArray) (w : World) (hc : LsAt F w 1 SRow Ac nc cc cols) (okn : okS name) :
    Calls Tryz.prog 96 #[.agg #[.int .i64 1, .string name, .string src, .int .i64 n, .slice Ac nc cc, .slice Ae ne ce, .slice Ab nb cb, .slice Al nl cl]] w fun x w' => x = .returned (.bool (shapeR 1 name src n cols ne nb nl)) ∧ Below w.heap.size w w' := by
  have hcl := hc.len
  obtain ⟨hbase, hX, Hx⟩ := shStart 1 name src n Ac Ae Ab Al nc cc ne ce nb cb nl cl w
  have HF0 := Lib.hid (fun (W : World) A m c (h : LsAt (fun _ => True) W 1 SRow A m c [name]) => free_any _ A m c _ W h)
  rw [freesB_one] at HF0
  have HW4 := Lib.hid (fun W => within_any ne 1 1 W)
  generalize hfin : shapeR 1 name src n cols ne nb nl = fin
  cases t0 : freeB name
  rotate_left
  cases t1 : noS src
  rotate_left
  cases t2 : decide (nc = 0)
  rotate_left
  cases t3 : decide (n = 0)
  rotate_left
  cases t4 : (decide (1 ≤ (ne : Int)) && decide ((ne : Int) ≤ 1))
  rotate_left
  cases t5 : decide (nb = 0)
  rotate_left
  cases t6 : decide (nl = 0)
  rotate_left
  all_goals
    simp [shapeR, shapeP, *] at hfin
    subst hfin
    try (rw [t0] at HF0; clear t0)
    first | replace t1 := str_empty t1 | replace t1 := str_some t1 | skip
    first | (obtain rfl := of_decide_eq_true t2; clear t2) | replace t2 := nat_nz t2 | skip
    first | (obtain rfl := of_decide_eq_true t3; clear t3) | replace t3 := int_nz t3 | skip
    try (rw [t4] at HW4; clear t4)
    first | (obtain rfl := of_decide_eq_true t5; clear t5) | replace t5 := nat_nz t5 | skip
    first | (obtain rfl := of_decide_eq_true t6; clear t6) | replace t6 := nat_nz t6 | skip
    clear hcl hc
    go_enter Tryz.func96, Tryz.ntmps96
    go_upto_region 25 with (fail)
    simp only [List.append_eq, List.cons_append, List.nil_append]
    go_wp2_with (first | (go_at_call 127; with_reducible refine (hasT_any name _ okn).mono ?_; rintro x w10 ⟨A0, n0, c0, rfl, hl0, hb0⟩; replace hX := grow hX hb0; obtain ⟨x1, x2, x3, x4, x5, x6, x7, xl⟩ := Hx.out _ hX) | (go_at_call 55; with_reducible refine (HF0.out _ _ _ _ hl0).mono ?_; rintro x w20 ⟨rfl, hc0⟩; replace hX := grow hX hc0; obtain ⟨x1, x2, x3, x4, x5, x6, x7, xl⟩ := Hx.out _ hX) | (go_at_call 54; with_reducible refine (HW4.out _).mono ?_; rintro x w' ⟨rfl, rfl⟩) | (go_at_call 127; with_reducible refine (hasF_any src _).mono ?_; rintro x w' ⟨rfl, rfl⟩) | (go_at_call 55; with_reducible refine (freeN_any _).mono ?_; rintro x w6 ⟨rfl, hb6⟩; replace hX := grow hX hb6; obtain ⟨x1, x2, x3, x4, x5, x6, x7, xl⟩ := Hx.out _ hX))
    go_ret
    exact ⟨rfl, hbase.trans (hX.mono (by simp))⟩

set_option maxRecDepth 100000 in
set_option maxHeartbeats 40000000 in
theorem shapeK_2 (F : Nat → Prop) (name src : ByteArray) (n : Int) (Ac Ae Ab Al : Option Addr) (nc cc ne ce nb cb nl cl : Nat) (cols : List ByteArray) (w : World) (hc : LsAt F w 1 SRow Ac nc cc cols) (okn : okS name) :
    Calls Tryz.prog 96 #[.agg #[.int .i64 2, .string name, .string src, .int .i64 n, .slice Ac nc cc, .slice Ae ne ce, .slice Ab nb cb, .slice Al nl cl]] w fun x w' => x = .returned (.bool (shapeR 2 name src n cols ne nb nl)) ∧ Below w.heap.size w w' := by
  have hcl := hc.len
  obtain ⟨hbase, hX, Hx⟩ := shStart 2 name src n Ac Ae Ab Al nc cc ne ce nb cb nl cl w
  have HF0 := Lib.hid (fun (W : World) A m c (h : LsAt (fun _ => True) W 1 SRow A m c [name]) => free_any _ A m c _ W h)
  rw [freesB_one] at HF0
  have HW4 := Lib.hid (fun W => within_any ne 1 1 W)
  generalize hfin : shapeR 2 name src n cols ne nb nl = fin
  cases t0 : freeB name
  rotate_left
  cases t1 : noS src
  rotate_left
  cases t2 : decide (nc = 0)
  rotate_left
  cases t3 : decide (n = 0)
  rotate_left
  cases t4 : (decide (1 ≤ (ne : Int)) && decide ((ne : Int) ≤ 1))
  rotate_left
  cases t5 : decide (nb = 0)
  rotate_left
  cases t6 : decide (nl = 0)
  rotate_left
  all_goals
    simp [shapeR, shapeP, *] at hfin
    subst hfin
    try (rw [t0] at HF0; clear t0)
    first | replace t1 := str_empty t1 | replace t1 := str_some t1 | skip
    first | (obtain rfl := of_decide_eq_true t2; clear t2) | replace t2 := nat_nz t2 | skip
    first | (obtain rfl := of_decide_eq_true t3; clear t3) | replace t3 := int_nz t3 | skip
    try (rw [t4] at HW4; clear t4)
    first | (obtain rfl := of_decide_eq_true t5; clear t5) | replace t5 := nat_nz t5 | skip
    first | (obtain rfl := of_decide_eq_true t6; clear t6) | replace t6 := nat_nz t6 | skip
    clear hcl hc
    go_enter Tryz.func96, Tryz.ntmps96
    go_upto_region 25 with (fail)
    simp only [List.append_eq, List.cons_append, List.nil_append]
    go_wp2_with (first | (go_at_call 127; with_reducible refine (hasT_any name _ okn).mono ?_; rintro x w10 ⟨A0, n0, c0, rfl, hl0, hb0⟩; replace hX := grow hX hb0; obtain ⟨x1, x2, x3, x4, x5, x6, x7, xl⟩ := Hx.out _ hX) | (go_at_call 55; with_reducible refine (HF0.out _ _ _ _ hl0).mono ?_; rintro x w20 ⟨rfl, hc0⟩; replace hX := grow hX hc0; obtain ⟨x1, x2, x3, x4, x5, x6, x7, xl⟩ := Hx.out _ hX) | (go_at_call 54; with_reducible refine (HW4.out _).mono ?_; rintro x w' ⟨rfl, rfl⟩) | (go_at_call 127; with_reducible refine (hasF_any src _).mono ?_; rintro x w' ⟨rfl, rfl⟩) | (go_at_call 55; with_reducible refine (freeN_any _).mono ?_; rintro x w6 ⟨rfl, hb6⟩; replace hX := grow hX hb6; obtain ⟨x1, x2, x3, x4, x5, x6, x7, xl⟩ := Hx.out _ hX))
    go_ret
    exact ⟨rfl, hbase.trans (hX.mono (by simp))⟩

set_option maxRecDepth 100000 in
set_option maxHeartbeats 40000000 in
theorem shapeK_5 (F : Nat → Prop) (name src : ByteArray) (n : Int) (Ac Ae Ab Al : Option Addr) (nc cc ne ce nb cb nl cl : Nat) (cols : List ByteArray) (w : World) (hc : LsAt F w 1 SRow Ac nc cc cols) (okn : okS name) (oks : okS src) :
    Calls Tryz.prog 96 #[.agg #[.int .i64 5, .string name, .string src, .int .i64 n, .slice Ac nc cc, .slice Ae ne ce, .slice Ab nb cb, .slice Al nl cl]] w fun x w' => x = .returned (.bool (shapeR 5 name src n cols ne nb nl)) ∧ Below w.heap.size w w' := by
  have hcl := hc.len
  obtain ⟨hbase, hX, Hx⟩ := shStart 5 name src n Ac Ae Ab Al nc cc ne ce nb cb nl cl w
  have HF0 := Lib.hid (fun (W : World) A m c (h : LsAt (fun _ => True) W 1 SRow A m c [name]) => free_any _ A m c _ W h)
  rw [freesB_one] at HF0
  have HF1 := Lib.hid (fun (W : World) A m c (h : LsAt (fun _ => True) W 1 SRow A m c [src]) => free_any _ A m c _ W h)
  rw [freesB_one] at HF1
  have HW4 := Lib.hid (fun W => within_any ne 1 1 W)
  generalize hfin : shapeR 5 name src n cols ne nb nl = fin
  cases t0 : freeB name
  rotate_left
  cases t1 : freeB src
  rotate_left
  cases t2 : decide (nc = 0)
  rotate_left
  cases t3 : decide (n = 0)
  rotate_left
  cases t4 : (decide (1 ≤ (ne : Int)) && decide ((ne : Int) ≤ 1))
  rotate_left
  cases t5 : decide (nb = 0)
  rotate_left
  cases t6 : decide (nl = 0)
  rotate_left
  all_goals
    simp [shapeR, shapeP, *] at hfin
    subst hfin
    try (rw [t0] at HF0; clear t0)
    try (rw [t1] at HF1; clear t1)
    first | (obtain rfl := of_decide_eq_true t2; clear t2) | replace t2 := nat_nz t2 | skip
    first | (obtain rfl := of_decide_eq_true t3; clear t3) | replace t3 := int_nz t3 | skip
    try (rw [t4] at HW4; clear t4)
    first | (obtain rfl := of_decide_eq_true t5; clear t5) | replace t5 := nat_nz t5 | skip
    first | (obtain rfl := of_decide_eq_true t6; clear t6) | replace t6 := nat_nz t6 | skip
    clear hcl hc
    go_enter Tryz.func96, Tryz.ntmps96
    go_upto_region 25 with (fail)
    simp only [List.append_eq, List.cons_append, List.nil_append]
    go_wp2_with (first | (go_at_call 127; with_reducible refine (hasT_any name _ okn).mono ?_; rintro x w10 ⟨A0, n0, c0, rfl, hl0, hb0⟩; replace hX := grow hX hb0; obtain ⟨x1, x2, x3, x4, x5, x6, x7, xl⟩ := Hx.out _ hX) | (go_at_call 55; with_reducible refine (HF0.out _ _ _ _ hl0).mono ?_; rintro x w20 ⟨rfl, hc0⟩; replace hX := grow hX hc0; obtain ⟨x1, x2, x3, x4, x5, x6, x7, xl⟩ := Hx.out _ hX) | (go_at_call 127; with_reducible refine (hasT_any src _ oks).mono ?_; rintro x w11 ⟨A1, n1, c1, rfl, hl1, hb1⟩; replace hX := grow hX hb1; obtain ⟨x1, x2, x3, x4, x5, x6, x7, xl⟩ := Hx.out _ hX) | (go_at_call 55; with_reducible refine (HF1.out _ _ _ _ hl1).mono ?_; rintro x w21 ⟨rfl, hc1⟩; replace hX := grow hX hc1; obtain ⟨x1, x2, x3, x4, x5, x6, x7, xl⟩ := Hx.out _ hX) | (go_at_call 54; with_reducible refine (HW4.out _).mono ?_; rintro x w' ⟨rfl, rfl⟩))
    go_ret
    exact ⟨rfl, hbase.trans (hX.mono (by simp))⟩
end Go.Proofs.YtlakeanldbdedaaGreat

namespace Go.Proofs.YtlakeanldbdedaaGreat
open Go.RowKit Go.Afx

set_option maxRecDepth 100000 in
set_option maxHeartbeats 40000000 in
theorem shapeK_3 (F : Nat → Prop) (name src : ByteArray) (n : Int) (Ac Ae Ab Al : Option Addr) (nc cc ne ce nb cb nl cl : Nat) (cols : List ByteArray) (w : World) (hc : LsAt F w 1 SRow Ac nc cc cols) (oks : okS src) :
    Calls Tryz.prog 96 #[.agg #[.int .i64 3, .string name, .string src, .int .i64 n, .slice Ac nc cc, .slice Ae ne ce, .slice Ab nb cb, .slice Al nl cl]] w fun x w' => x = .returned (.bool (shapeR 3 name src n cols ne nb nl)) ∧ Below w.heap.size w w' := by
  have hcl := hc.len
  obtain ⟨hbase, hX, Hx⟩ := shStart 3 name src n Ac Ae Ab Al nc cc ne ce nb cb nl cl w
  have HF0 := Lib.hid (fun (W : World) A m c (h : LsAt (fun _ => True) W 1 SRow A m c [src]) => free_any _ A m c _ W h)
  rw [freesB_one] at HF0
  have HW4 := Lib.hid (fun W => within_any ne 1 8 W)
  generalize hfin : shapeR 3 name src n cols ne nb nl = fin
  cases t0 : freeB src
  rotate_left
  cases t1 : noS name
  rotate_left
  cases t2 : decide (nc = 0)
  rotate_left
  cases t3 : decide (n = 0)
  rotate_left
  cases t4 : (decide (1 ≤ (ne : Int)) && decide ((ne : Int) ≤ 8))
  rotate_left
  cases t5 : decide (nb = 0)
  rotate_left
  cases t6 : decide (nl = 0)
  rotate_left
  all_goals
    simp [shapeR, shapeP, *] at hfin
    subst hfin
    try (rw [t0] at HF0; clear t0)
    first | replace t1 := str_empty t1 | replace t1 := str_some t1 | skip
    first | (obtain rfl := of_decide_eq_true t2; clear t2) | replace t2 := nat_nz t2 | skip
    first | (obtain rfl := of_decide_eq_true t3; clear t3) | replace t3 := int_nz t3 | skip
    try (rw [t4] at HW4; clear t4)
    first | (obtain rfl := of_decide_eq_true t5; clear t5) | replace t5 := nat_nz t5 | skip
    first | (obtain rfl := of_decide_eq_true t6; clear t6) | replace t6 := nat_nz t6 | skip
    clear hcl hc
    go_enter Tryz.func96, Tryz.ntmps96
    go_upto_region 25 with (fail)
    simp only [List.append_eq, List.cons_append, List.nil_append]
    go_wp2_with (first | (go_at_call 127; with_reducible refine (hasT_any src _ oks).mono ?_; rintro x w10 ⟨A0, n0, c0, rfl, hl0, hb0⟩; replace hX := grow hX hb0; obtain ⟨x1, x2, x3, x4, x5, x6, x7, xl⟩ := Hx.out _ hX) | (go_at_call 55; with_reducible refine (HF0.out _ _ _ _ hl0).mono ?_; rintro x w20 ⟨rfl, hc0⟩; replace hX := grow hX hc0; obtain ⟨x1, x2, x3, x4, x5, x6, x7, xl⟩ := Hx.out _ hX) | (go_at_call 54; with_reducible refine (HW4.out _).mono ?_; rintro x w' ⟨rfl, rfl⟩) | (go_at_call 127; with_reducible refine (hasF_any name _).mono ?_; rintro x w' ⟨rfl, rfl⟩) | (go_at_call 55; with_reducible refine (freeN_any _).mono ?_; rintro x w6 ⟨rfl, hb6⟩; replace hX := grow hX hb6; obtain ⟨x1, x2, x3, x4, x5, x6, x7, xl⟩ := Hx.out _ hX))
    go_ret
    exact ⟨rfl, hbase.trans (hX.mono (by simp))⟩

set_option maxRecDepth 100000 in
set_option maxHeartbeats 40000000 in
theorem shapeK_8 (F : Nat → Prop) (name src : ByteArray) (n : Int) (Ac Ae Ab Al : Option Addr) (nc cc ne ce nb cb nl cl : Nat) (cols : List ByteArray) (w : World) (hc : LsAt F w 1 SRow Ac nc cc cols) (oks : okS src) :
    Calls Tryz.prog 96 #[.agg #[.int .i64 8, .string name, .string src, .int .i64 n, .slice Ac nc cc, .slice Ae ne ce, .slice Ab nb cb, .slice Al nl cl]] w fun x w' => x = .returned (.bool (shapeR 8 name src n cols ne nb nl)) ∧ Below w.heap.size w w' := by
  have hcl := hc.len
  obtain ⟨hbase, hX, Hx⟩ := shStart 8 name src n Ac Ae Ab Al nc cc ne ce nb cb nl cl w
  have HF0 := Lib.hid (fun (W : World) A m c (h : LsAt (fun _ => True) W 1 SRow A m c [src]) => free_any _ A m c _ W h)
  rw [freesB_one] at HF0
  have HW4 := Lib.hid (fun W => within_any ne 1 8 W)
  generalize hfin : shapeR 8 name src n cols ne nb nl = fin
  cases t0 : freeB src
  rotate_left
  cases t1 : noS name
  rotate_left
  cases t2 : decide (nc = 0)
  rotate_left
  cases t3 : decide (n = 0)
  rotate_left
  cases t4 : (decide (1 ≤ (ne : Int)) && decide ((ne : Int) ≤ 8))
  rotate_left
  cases t5 : decide (nb = 0)
  rotate_left
  cases t6 : decide (nl = 0)
  rotate_left
  all_goals
    simp [shapeR, shapeP, *] at hfin
    subst hfin
    try (rw [t0] at HF0; clear t0)
    first | replace t1 := str_empty t1 | replace t1 := str_some t1 | skip
    first | (obtain rfl := of_decide_eq_true t2; clear t2) | replace t2 := nat_nz t2 | skip
    first | (obtain rfl := of_decide_eq_true t3; clear t3) | replace t3 := int_nz t3 | skip
    try (rw [t4] at HW4; clear t4)
    first | (obtain rfl := of_decide_eq_true t5; clear t5) | replace t5 := nat_nz t5 | skip
    first | (obtain rfl := of_decide_eq_true t6; clear t6) | replace t6 := nat_nz t6 | skip
    clear hcl hc
    go_enter Tryz.func96, Tryz.ntmps96
    go_upto_region 25 with (fail)
    simp only [List.append_eq, List.cons_append, List.nil_append]
    go_wp2_with (first | (go_at_call 127; with_reducible refine (hasT_any src _ oks).mono ?_; rintro x w10 ⟨A0, n0, c0, rfl, hl0, hb0⟩; replace hX := grow hX hb0; obtain ⟨x1, x2, x3, x4, x5, x6, x7, xl⟩ := Hx.out _ hX) | (go_at_call 55; with_reducible refine (HF0.out _ _ _ _ hl0).mono ?_; rintro x w20 ⟨rfl, hc0⟩; replace hX := grow hX hc0; obtain ⟨x1, x2, x3, x4, x5, x6, x7, xl⟩ := Hx.out _ hX) | (go_at_call 54; with_reducible refine (HW4.out _).mono ?_; rintro x w' ⟨rfl, rfl⟩) | (go_at_call 127; with_reducible refine (hasF_any name _).mono ?_; rintro x w' ⟨rfl, rfl⟩) | (go_at_call 55; with_reducible refine (freeN_any _).mono ?_; rintro x w6 ⟨rfl, hb6⟩; replace hX := grow hX hb6; obtain ⟨x1, x2, x3, x4, x5, x6, x7, xl⟩ := Hx.out _ hX))
    go_ret
    exact ⟨rfl, hbase.trans (hX.mono (by simp))⟩

set_option maxRecDepth 100000 in
set_option maxHeartbeats 40000000 in
theorem shapeK_7 (F : Nat → Prop) (name src : ByteArray) (n : Int) (Ac Ae Ab Al : Option Addr) (nc cc ne ce nb cb nl cl : Nat) (cols : List ByteArray) (w : World) (hc : LsAt F w 1 SRow Ac nc cc cols) :
    Calls Tryz.prog 96 #[.agg #[.int .i64 7, .string name, .string src, .int .i64 n, .slice Ac nc cc, .slice Ae ne ce, .slice Ab nb cb, .slice Al nl cl]] w fun x w' => x = .returned (.bool (shapeR 7 name src n cols ne nb nl)) ∧ Below w.heap.size w w' := by
  have hcl := hc.len
  obtain ⟨hbase, hX, Hx⟩ := shStart 7 name src n Ac Ae Ab Al nc cc ne ce nb cb nl cl w
  have HW4 := Lib.hid (fun W => within_any ne 1 1 W)
  generalize hfin : shapeR 7 name src n cols ne nb nl = fin
  cases t0 : noS name
  rotate_left
  cases t1 : noS src
  rotate_left
  cases t2 : decide (nc = 0)
  rotate_left
  cases t3 : decide (n = 0)
  rotate_left
  cases t4 : (decide (1 ≤ (ne : Int)) && decide ((ne : Int) ≤ 1))
  rotate_left
  all_goals
    simp [shapeR, shapeP, *] at hfin
    subst hfin
    first | replace t0 := str_empty t0 | replace t0 := str_some t0 | skip
    first | replace t1 := str_empty t1 | replace t1 := str_some t1 | skip
    first | (obtain rfl := of_decide_eq_true t2; clear t2) | replace t2 := nat_nz t2 | skip
    first | (obtain rfl := of_decide_eq_true t3; clear t3) | replace t3 := int_nz t3 | skip
    try (rw [t4] at HW4; clear t4)
    clear hcl hc
    go_enter Tryz.func96, Tryz.ntmps96
    go_upto_region 25 with (fail)
    simp only [List.append_eq, List.cons_append, List.nil_append]
    go_wp2_with (first | (go_at_call 54; with_reducible refine (HW4.out _).mono ?_; rintro x w' ⟨rfl, rfl⟩) | (go_at_call 127; with_reducible refine (hasF_any name _).mono ?_; rintro x w' ⟨rfl, rfl⟩) | (go_at_call 127; with_reducible refine (hasF_any src _).mono ?_; rintro x w' ⟨rfl, rfl⟩) | (go_at_call 55; with_reducible refine (freeN_any _).mono ?_; rintro x w6 ⟨rfl, hb6⟩; replace hX := grow hX hb6; obtain ⟨x1, x2, x3, x4, x5, x6, x7, xl⟩ := Hx.out _ hX))
    go_ret
    exact ⟨rfl, hbase.trans (hX.mono (by simp))⟩
end Go.Proofs.YtlakeanldbdedaaGreat

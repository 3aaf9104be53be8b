/- Parts of this proof, one behind the other: RefE1. -/
import Derived.Test.YthiimingnmbgmaaDoorPe14
namespace Go.Proofs.YthiimingnmbgmaaDoor
open Go.RowKit Go.Afx

set_option maxRecDepth 100000 in
set_option maxHeartbeats 4000000 in
theorem rbuilt_1_0  (n : Int) (s name src : ByteArray) (A : Option Addr) (m c : Nat) (args : List Ex) (w : World) (d : Nat) (ha : args.length = m) (t0 : decide (0 ≤ n) = false) :
    Calls Tryd.prog 8 #[.agg #[.int .i64 1, .int .i64 n, .string s, .string name, .string src, .slice A m c]] w fun x w' => x = .returned (.bool (headR 1 n s name src args.length && args.all (builtE d))) ∧ Below w.heap.size w w' := by
  have hfin : headR 1 n s name src args.length = false := by
    rw [ha, headR_1 ]
    simp [t0]
  have Hfin := Lib.hid hfin
  clear hfin
  have t0b : max n 0 = 0 := by simp at t0; omega
  have t0c : (n != 0) = true := by simp at t0 ⊢; omega
  clear t0
  obtain ⟨w2, Hw2⟩ : ∃ w2, Hid (w2 = (w.alloc (.cells #[.int .i64 1, .int .i64 n, .string s, .string name, .string src, .slice A m c] 35)).alloc (.cells #[.int .i64 1, .int .i64 0, .string { data := #[] }, .string { data := #[] }, .string { data := #[] }, .slice none 0 0] 35)) := ⟨_, rfl⟩
  have hR : Below w.heap.size w w2 := by rw [Hw2.out]; exact ((Below.refl _ _).alloc (Nat.le_refl _) _).alloc (by simp) _
  have he2 : IsBlk w2 w.heap.size 35 #[.int .i64 1, .int .i64 n, .string s, .string name, .string src, .slice A m c] := by rw [Hw2.out]; exact (IsBlk.laid _ _ _).alloc _
  have hw2 : IsBlk w2 (w.heap.size + 1) 35 #[.int .i64 1, .int .i64 0, .string { data := #[] }, .string { data := #[] }, .string { data := #[] }, .slice none 0 0] := by rw [Hw2.out]; exact laid_at (by simp) _ _
  obtain ⟨x0, x1, x2, x3, x4, x5, xl⟩ := exBox he2
  obtain ⟨y0, y1, y2, y3, y4, y5, hlw⟩ := exBox hw2
  have hfz := hw2.frozen
  have hA5 := x5
  clear he2 hw2
  clear ha
  go_enter Tryd.func8, Tryd.ntmps8
  go_upto_region 2 with (fail)
  rw [← Hw2.out]
  go_wp2_with (first | fail)
  all_goals
    go_ret
    exact ⟨ret_bool (by rw [Hfin.out]; simp), by repeat (first | exact hR | refine Below.setCell ?_ (by simp) _)⟩

set_option maxRecDepth 100000 in
set_option maxHeartbeats 4000000 in
theorem rbuilt_1_1  (n : Int) (s name src : ByteArray) (A : Option Addr) (m c : Nat) (args : List Ex) (w : World) (d : Nat) (ha : args.length = m) (t0 : decide (0 ≤ n) = true) (t1 : noS s = false) :
    Calls Tryd.prog 8 #[.agg #[.int .i64 1, .int .i64 n, .string s, .string name, .string src, .slice A m c]] w fun x w' => x = .returned (.bool (headR 1 n s name src args.length && args.all (builtE d))) ∧ Below w.heap.size w w' := by
  have hfin : headR 1 n s name src args.length = false := by
    rw [ha, headR_1 ]
    simp [t0, t1]
  have Hfin := Lib.hid hfin
  clear hfin
  have t0b : max n 0 = n := by simp at t0; omega
  clear t0
  replace t1 := str_some t1
  have t1b : (s.toList == []) = false := by cases hq : s.toList <;> simp_all
  have t1c : (s.toList != []) = true := by cases hq : s.toList <;> simp_all
  obtain ⟨w2, Hw2⟩ : ∃ w2, Hid (w2 = (w.alloc (.cells #[.int .i64 1, .int .i64 n, .string s, .string name, .string src, .slice A m c] 35)).alloc (.cells #[.int .i64 1, .int .i64 0, .string { data := #[] }, .string { data := #[] }, .string { data := #[] }, .slice none 0 0] 35)) := ⟨_, rfl⟩
  have hR : Below w.heap.size w w2 := by rw [Hw2.out]; exact ((Below.refl _ _).alloc (Nat.le_refl _) _).alloc (by simp) _
  have he2 : IsBlk w2 w.heap.size 35 #[.int .i64 1, .int .i64 n, .string s, .string name, .string src, .slice A m c] := by rw [Hw2.out]; exact (IsBlk.laid _ _ _).alloc _
  have hw2 : IsBlk w2 (w.heap.size + 1) 35 #[.int .i64 1, .int .i64 0, .string { data := #[] }, .string { data := #[] }, .string { data := #[] }, .slice none 0 0] := by rw [Hw2.out]; exact laid_at (by simp) _ _
  obtain ⟨x0, x1, x2, x3, x4, x5, xl⟩ := exBox he2
  obtain ⟨y0, y1, y2, y3, y4, y5, hlw⟩ := exBox hw2
  have hfz := hw2.frozen
  have hA5 := x5
  clear he2 hw2
  clear ha
  go_enter Tryd.func8, Tryd.ntmps8
  go_upto_region 2 with (fail)
  rw [← Hw2.out]
  go_wp2_with (first | fail)
  all_goals
    go_ret
    exact ⟨ret_bool (by rw [Hfin.out]; simp), by repeat (first | exact hR | refine Below.setCell ?_ (by simp) _)⟩

set_option maxRecDepth 100000 in
set_option maxHeartbeats 4000000 in
theorem rbuilt_1_2  (n : Int) (s name src : ByteArray) (A : Option Addr) (m c : Nat) (args : List Ex) (w : World) (d : Nat) (ha : args.length = m) (t0 : decide (0 ≤ n) = true) (t1 : noS s = true) (t2 : noS name = false) :
    Calls Tryd.prog 8 #[.agg #[.int .i64 1, .int .i64 n, .string s, .string name, .string src, .slice A m c]] w fun x w' => x = .returned (.bool (headR 1 n s name src args.length && args.all (builtE d))) ∧ Below w.heap.size w w' := by
  have hfin : headR 1 n s name src args.length = false := by
    rw [ha, headR_1 ]
    simp [t0, t1, t2]
  have Hfin := Lib.hid hfin
  clear hfin
  have t0b : max n 0 = n := by simp at t0; omega
  clear t0
  replace t1 := str_empty t1
  replace t2 := str_some t2
  have t2b : (name.toList == []) = false := by cases hq : name.toList <;> simp_all
  have t2c : (name.toList != []) = true := by cases hq : name.toList <;> simp_all
  obtain ⟨w2, Hw2⟩ : ∃ w2, Hid (w2 = (w.alloc (.cells #[.int .i64 1, .int .i64 n, .string s, .string name, .string src, .slice A m c] 35)).alloc (.cells #[.int .i64 1, .int .i64 0, .string { data := #[] }, .string { data := #[] }, .string { data := #[] }, .slice none 0 0] 35)) := ⟨_, rfl⟩
  have hR : Below w.heap.size w w2 := by rw [Hw2.out]; exact ((Below.refl _ _).alloc (Nat.le_refl _) _).alloc (by simp) _
  have he2 : IsBlk w2 w.heap.size 35 #[.int .i64 1, .int .i64 n, .string s, .string name, .string src, .slice A m c] := by rw [Hw2.out]; exact (IsBlk.laid _ _ _).alloc _
  have hw2 : IsBlk w2 (w.heap.size + 1) 35 #[.int .i64 1, .int .i64 0, .string { data := #[] }, .string { data := #[] }, .string { data := #[] }, .slice none 0 0] := by rw [Hw2.out]; exact laid_at (by simp) _ _
  obtain ⟨x0, x1, x2, x3, x4, x5, xl⟩ := exBox he2
  obtain ⟨y0, y1, y2, y3, y4, y5, hlw⟩ := exBox hw2
  have hfz := hw2.frozen
  have hA5 := x5
  clear he2 hw2
  clear ha
  go_enter Tryd.func8, Tryd.ntmps8
  go_upto_region 2 with (fail)
  rw [← Hw2.out]
  go_wp2_with (first | fail)
  all_goals
    go_ret
    exact ⟨ret_bool (by rw [Hfin.out]; simp), by repeat (first | exact hR | refine Below.setCell ?_ (by simp) _)⟩

set_option maxRecDepth 100000 in
set_option maxHeartbeats 4000000 in
theorem rbuilt_1_3  (n : Int) (s name src : ByteArray) (A : Option Addr) (m c : Nat) (args : List Ex) (w : World) (d : Nat) (ha : args.length = m) (t0 : decide (0 ≤ n) = true) (t1 : noS s = true) (t2 : noS name = true) (t3 : noS src = false) :
    Calls Tryd.prog 8 #[.agg #[.int .i64 1, .int .i64 n, .string s, .string name, .string src, .slice A m c]] w fun x w' => x = .returned (.bool (headR 1 n s name src args.length && args.all (builtE d))) ∧ Below w.heap.size w w' := by
  have hfin : headR 1 n s name src args.length = false := by
    rw [ha, headR_1 ]
    simp [t0, t1, t2, t3]
  have Hfin := Lib.hid hfin
  clear hfin
  have t0b : max n 0 = n := by simp at t0; omega
  clear t0
  replace t1 := str_empty t1
  replace t2 := str_empty t2
  replace t3 := str_some t3
  have t3b : (src.toList == []) = false := by cases hq : src.toList <;> simp_all
  have t3c : (src.toList != []) = true := by cases hq : src.toList <;> simp_all
  obtain ⟨w2, Hw2⟩ : ∃ w2, Hid (w2 = (w.alloc (.cells #[.int .i64 1, .int .i64 n, .string s, .string name, .string src, .slice A m c] 35)).alloc (.cells #[.int .i64 1, .int .i64 0, .string { data := #[] }, .string { data := #[] }, .string { data := #[] }, .slice none 0 0] 35)) := ⟨_, rfl⟩
  have hR : Below w.heap.size w w2 := by rw [Hw2.out]; exact ((Below.refl _ _).alloc (Nat.le_refl _) _).alloc (by simp) _
  have he2 : IsBlk w2 w.heap.size 35 #[.int .i64 1, .int .i64 n, .string s, .string name, .string src, .slice A m c] := by rw [Hw2.out]; exact (IsBlk.laid _ _ _).alloc _
  have hw2 : IsBlk w2 (w.heap.size + 1) 35 #[.int .i64 1, .int .i64 0, .string { data := #[] }, .string { data := #[] }, .string { data := #[] }, .slice none 0 0] := by rw [Hw2.out]; exact laid_at (by simp) _ _
  obtain ⟨x0, x1, x2, x3, x4, x5, xl⟩ := exBox he2
  obtain ⟨y0, y1, y2, y3, y4, y5, hlw⟩ := exBox hw2
  have hfz := hw2.frozen
  have hA5 := x5
  clear he2 hw2
  clear ha
  go_enter Tryd.func8, Tryd.ntmps8
  go_upto_region 2 with (fail)
  rw [← Hw2.out]
  go_wp2_with (first | fail)
  all_goals
    go_ret
    exact ⟨ret_bool (by rw [Hfin.out]; simp), by repeat (first | exact hR | refine Below.setCell ?_ (by simp) _)⟩

set_option maxRecDepth 100000 in
set_option maxHeartbeats 4000000 in
theorem rbuilt_1_4  (n : Int) (s name src : ByteArray) (A : Option Addr) (m c : Nat) (args : List Ex) (w : World) (d : Nat) (ha : args.length = m) (t0 : decide (0 ≤ n) = true) (t1 : noS s = true) (t2 : noS name = true) (t3 : noS src = true) (t4 : decide (m = 0) = false) :
    Calls Tryd.prog 8 #[.agg #[.int .i64 1, .int .i64 n, .string s, .string name, .string src, .slice A m c]] w fun x w' => x = .returned (.bool (headR 1 n s name src args.length && args.all (builtE d))) ∧ Below w.heap.size w w' := by
  have hfin : headR 1 n s name src args.length = false := by
    rw [ha, headR_1 ]
    simp [t0, t1, t2, t3, t4]
  have Hfin := Lib.hid hfin
  clear hfin
  have t0b : max n 0 = n := by simp at t0; omega
  clear t0
  replace t1 := str_empty t1
  replace t2 := str_empty t2
  replace t3 := str_empty t3
  have t4c : ((m : Int) != 0) = true := by simp at t4 ⊢; omega
  clear t4
  obtain ⟨w2, Hw2⟩ : ∃ w2, Hid (w2 = (w.alloc (.cells #[.int .i64 1, .int .i64 n, .string s, .string name, .string src, .slice A m c] 35)).alloc (.cells #[.int .i64 1, .int .i64 0, .string { data := #[] }, .string { data := #[] }, .string { data := #[] }, .slice none 0 0] 35)) := ⟨_, rfl⟩
  have hR : Below w.heap.size w w2 := by rw [Hw2.out]; exact ((Below.refl _ _).alloc (Nat.le_refl _) _).alloc (by simp) _
  have he2 : IsBlk w2 w.heap.size 35 #[.int .i64 1, .int .i64 n, .string s, .string name, .string src, .slice A m c] := by rw [Hw2.out]; exact (IsBlk.laid _ _ _).alloc _
  have hw2 : IsBlk w2 (w.heap.size + 1) 35 #[.int .i64 1, .int .i64 0, .string { data := #[] }, .string { data := #[] }, .string { data := #[] }, .slice none 0 0] := by rw [Hw2.out]; exact laid_at (by simp) _ _
  obtain ⟨x0, x1, x2, x3, x4, x5, xl⟩ := exBox he2
  obtain ⟨y0, y1, y2, y3, y4, y5, hlw⟩ := exBox hw2
  have hfz := hw2.frozen
  have hA5 := x5
  clear he2 hw2
  clear ha
  go_enter Tryd.func8, Tryd.ntmps8
  go_upto_region 2 with (fail)
  rw [← Hw2.out]
  go_wp2_with (first | fail)
  all_goals
    go_ret
    exact ⟨ret_bool (by rw [Hfin.out]; simp), by repeat (first | exact hR | refine Below.setCell ?_ (by simp) _)⟩

set_option maxRecDepth 100000 in
set_option maxHeartbeats 4000000 in
theorem rbuilt_1_5  (n : Int) (s name src : ByteArray) (A : Option Addr) (m c : Nat) (args : List Ex) (w : World) (d : Nat) (ha : args.length = m) (t0 : decide (0 ≤ n) = true) (t1 : noS s = true) (t2 : noS name = true) (t3 : noS src = true) (t4 : decide (m = 0) = true) :
    Calls Tryd.prog 8 #[.agg #[.int .i64 1, .int .i64 n, .string s, .string name, .string src, .slice A m c]] w fun x w' => x = .returned (.bool (headR 1 n s name src args.length && args.all (builtE d))) ∧ Below w.heap.size w w' := by
  have hfin : headR 1 n s name src args.length = true := by
    rw [ha, headR_1 ]
    simp [t0, t1, t2, t3, t4]
  have Hfin := Lib.hid hfin
  clear hfin
  have t0b : max n 0 = n := by simp at t0; omega
  clear t0
  replace t1 := str_empty t1
  replace t2 := str_empty t2
  replace t3 := str_empty t3
  have t4b : m = 0 := by simpa using t4
  have hmb : m ≤ 1000 := by omega
  have Hm := Lib.hid t4b
  have t4c : ((m : Int) != 0) = false := by simp; omega
  clear t4b t4
  obtain ⟨w2, Hw2⟩ : ∃ w2, Hid (w2 = (w.alloc (.cells #[.int .i64 1, .int .i64 n, .string s, .string name, .string src, .slice A m c] 35)).alloc (.cells #[.int .i64 1, .int .i64 0, .string { data := #[] }, .string { data := #[] }, .string { data := #[] }, .slice none 0 0] 35)) := ⟨_, rfl⟩
  have hR : Below w.heap.size w w2 := by rw [Hw2.out]; exact ((Below.refl _ _).alloc (Nat.le_refl _) _).alloc (by simp) _
  have he2 : IsBlk w2 w.heap.size 35 #[.int .i64 1, .int .i64 n, .string s, .string name, .string src, .slice A m c] := by rw [Hw2.out]; exact (IsBlk.laid _ _ _).alloc _
  have hw2 : IsBlk w2 (w.heap.size + 1) 35 #[.int .i64 1, .int .i64 0, .string { data := #[] }, .string { data := #[] }, .string { data := #[] }, .slice none 0 0] := by rw [Hw2.out]; exact laid_at (by simp) _ _
  obtain ⟨x0, x1, x2, x3, x4, x5, xl⟩ := exBox he2
  obtain ⟨y0, y1, y2, y3, y4, y5, hlw⟩ := exBox hw2
  have hfz := hw2.frozen
  have hA5 := x5
  clear he2 hw2
  have Ha := Lib.hid ha
  clear ha
  go_enter Tryd.func8, Tryd.ntmps8
  go_upto_region 2 with (fail)
  rw [← Hw2.out]
  go_wp2_with (first | fail)
  go_loop [5] (fun i => i = .int .i64 0) (fun _ => 0)
  case atStart => rfl
  case round =>
    obtain rfl := hrel
    go_wp2
    go_ret
    have h0 : args = [] := List.eq_nil_of_length_eq_zero (by rw [Ha.out]; have := Hm.out; omega)
    subst h0
    exact ⟨ret_bool (by rw [Hfin.out]; simp), by repeat (first | exact hR | refine Below.setCell ?_ (by simp) _)⟩

set_option maxRecDepth 100000 in
set_option maxHeartbeats 4000000 in
theorem rbuilt_2_0  (n : Int) (s name src : ByteArray) (A : Option Addr) (m c : Nat) (args : List Ex) (w : World) (d : Nat) (ha : args.length = m) (t0 : decide (s.size ≤ 200) = false) :
    Calls Tryd.prog 8 #[.agg #[.int .i64 2, .int .i64 n, .string s, .string name, .string src, .slice A m c]] w fun x w' => x = .returned (.bool (headR 2 n s name src args.length && args.all (builtE d))) ∧ Below w.heap.size w w' := by
  have hfin : headR 2 n s name src args.length = false := by
    rw [ha, headR_2 ]
    simp [t0]
  have Hfin := Lib.hid hfin
  clear hfin
  have t0b : decide ((200 : Int) < (s.size : Int)) = true := by simp at t0 ⊢; omega
  clear t0
  obtain ⟨w2, Hw2⟩ : ∃ w2, Hid (w2 = (w.alloc (.cells #[.int .i64 2, .int .i64 n, .string s, .string name, .string src, .slice A m c] 35)).alloc (.cells #[.int .i64 2, .int .i64 0, .string { data := #[] }, .string { data := #[] }, .string { data := #[] }, .slice none 0 0] 35)) := ⟨_, rfl⟩
  have hR : Below w.heap.size w w2 := by rw [Hw2.out]; exact ((Below.refl _ _).alloc (Nat.le_refl _) _).alloc (by simp) _
  have he2 : IsBlk w2 w.heap.size 35 #[.int .i64 2, .int .i64 n, .string s, .string name, .string src, .slice A m c] := by rw [Hw2.out]; exact (IsBlk.laid _ _ _).alloc _
  have hw2 : IsBlk w2 (w.heap.size + 1) 35 #[.int .i64 2, .int .i64 0, .string { data := #[] }, .string { data := #[] }, .string { data := #[] }, .slice none 0 0] := by rw [Hw2.out]; exact laid_at (by simp) _ _
  obtain ⟨x0, x1, x2, x3, x4, x5, xl⟩ := exBox he2
  obtain ⟨y0, y1, y2, y3, y4, y5, hlw⟩ := exBox hw2
  have hfz := hw2.frozen
  have hA5 := x5
  clear he2 hw2
  clear ha
  go_enter Tryd.func8, Tryd.ntmps8
  go_upto_region 2 with (fail)
  rw [← Hw2.out]
  go_wp2_with (first | fail)
  all_goals
    go_ret
    exact ⟨ret_bool (by rw [Hfin.out]; simp), by repeat (first | exact hR | refine Below.setCell ?_ (by simp) _)⟩

set_option maxRecDepth 100000 in
set_option maxHeartbeats 4000000 in
theorem rbuilt_2_1  (n : Int) (s name src : ByteArray) (A : Option Addr) (m c : Nat) (args : List Ex) (w : World) (d : Nat) (ha : args.length = m) (t0 : decide (s.size ≤ 200) = true) (t1 : decide (n = 0) = false) :
    Calls Tryd.prog 8 #[.agg #[.int .i64 2, .int .i64 n, .string s, .string name, .string src, .slice A m c]] w fun x w' => x = .returned (.bool (headR 2 n s name src args.length && args.all (builtE d))) ∧ Below w.heap.size w w' := by
  have hfin : headR 2 n s name src args.length = false := by
    rw [ha, headR_2 ]
    simp [t0, t1]
  have Hfin := Lib.hid hfin
  clear hfin
  have t0b : decide ((200 : Int) < (s.size : Int)) = false := by simp at t0 ⊢; omega
  clear t0
  have t1b : (n == 0) = false := by simpa using t1
  have t1c : (n != 0) = true := by simpa using t1
  clear t1
  obtain ⟨w2, Hw2⟩ : ∃ w2, Hid (w2 = (w.alloc (.cells #[.int .i64 2, .int .i64 n, .string s, .string name, .string src, .slice A m c] 35)).alloc (.cells #[.int .i64 2, .int .i64 0, .string { data := #[] }, .string { data := #[] }, .string { data := #[] }, .slice none 0 0] 35)) := ⟨_, rfl⟩
  have hR : Below w.heap.size w w2 := by rw [Hw2.out]; exact ((Below.refl _ _).alloc (Nat.le_refl _) _).alloc (by simp) _
  have he2 : IsBlk w2 w.heap.size 35 #[.int .i64 2, .int .i64 n, .string s, .string name, .string src, .slice A m c] := by rw [Hw2.out]; exact (IsBlk.laid _ _ _).alloc _
  have hw2 : IsBlk w2 (w.heap.size + 1) 35 #[.int .i64 2, .int .i64 0, .string { data := #[] }, .string { data := #[] }, .string { data := #[] }, .slice none 0 0] := by rw [Hw2.out]; exact laid_at (by simp) _ _
  obtain ⟨x0, x1, x2, x3, x4, x5, xl⟩ := exBox he2
  obtain ⟨y0, y1, y2, y3, y4, y5, hlw⟩ := exBox hw2
  have hfz := hw2.frozen
  have hA5 := x5
  clear he2 hw2
  clear ha
  go_enter Tryd.func8, Tryd.ntmps8
  go_upto_region 2 with (fail)
  rw [← Hw2.out]
  go_wp2_with (first | fail)
  all_goals
    go_ret
    exact ⟨ret_bool (by rw [Hfin.out]; simp), by repeat (first | exact hR | refine Below.setCell ?_ (by simp) _)⟩

set_option maxRecDepth 100000 in
set_option maxHeartbeats 4000000 in
theorem rbuilt_2_2  (n : Int) (s name src : ByteArray) (A : Option Addr) (m c : Nat) (args : List Ex) (w : World) (d : Nat) (ha : args.length = m) (t0 : decide (s.size ≤ 200) = true) (t1 : decide (n = 0) = true) (t2 : noS name = false) :
    Calls Tryd.prog 8 #[.agg #[.int .i64 2, .int .i64 n, .string s, .string name, .string src, .slice A m c]] w fun x w' => x = .returned (.bool (headR 2 n s name src args.length && args.all (builtE d))) ∧ Below w.heap.size w w' := by
  have hfin : headR 2 n s name src args.length = false := by
    rw [ha, headR_2 ]
    simp [t0, t1, t2]
  have Hfin := Lib.hid hfin
  clear hfin
  have t0b : decide ((200 : Int) < (s.size : Int)) = false := by simp at t0 ⊢; omega
  clear t0
  have t1b : (n == 0) = true := by simpa using t1
  have t1c : (n != 0) = false := by simpa using t1
  clear t1
  replace t2 := str_some t2
  have t2b : (name.toList == []) = false := by cases hq : name.toList <;> simp_all
  have t2c : (name.toList != []) = true := by cases hq : name.toList <;> simp_all
  obtain ⟨w2, Hw2⟩ : ∃ w2, Hid (w2 = (w.alloc (.cells #[.int .i64 2, .int .i64 n, .string s, .string name, .string src, .slice A m c] 35)).alloc (.cells #[.int .i64 2, .int .i64 0, .string { data := #[] }, .string { data := #[] }, .string { data := #[] }, .slice none 0 0] 35)) := ⟨_, rfl⟩
  have hR : Below w.heap.size w w2 := by rw [Hw2.out]; exact ((Below.refl _ _).alloc (Nat.le_refl _) _).alloc (by simp) _
  have he2 : IsBlk w2 w.heap.size 35 #[.int .i64 2, .int .i64 n, .string s, .string name, .string src, .slice A m c] := by rw [Hw2.out]; exact (IsBlk.laid _ _ _).alloc _
  have hw2 : IsBlk w2 (w.heap.size + 1) 35 #[.int .i64 2, .int .i64 0, .string { data := #[] }, .string { data := #[] }, .string { data := #[] }, .slice none 0 0] := by rw [Hw2.out]; exact laid_at (by simp) _ _
  obtain ⟨x0, x1, x2, x3, x4, x5, xl⟩ := exBox he2
  obtain ⟨y0, y1, y2, y3, y4, y5, hlw⟩ := exBox hw2
  have hfz := hw2.frozen
  have hA5 := x5
  clear he2 hw2
  clear ha
  go_enter Tryd.func8, Tryd.ntmps8
  go_upto_region 2 with (fail)
  rw [← Hw2.out]
  go_wp2_with (first | fail)
  all_goals
    go_ret
    exact ⟨ret_bool (by rw [Hfin.out]; simp), by repeat (first | exact hR | refine Below.setCell ?_ (by simp) _)⟩

set_option maxRecDepth 100000 in
set_option maxHeartbeats 4000000 in
theorem rbuilt_2_3  (n : Int) (s name src : ByteArray) (A : Option Addr) (m c : Nat) (args : List Ex) (w : World) (d : Nat) (ha : args.length = m) (t0 : decide (s.size ≤ 200) = true) (t1 : decide (n = 0) = true) (t2 : noS name = true) (t3 : noS src = false) :
    Calls Tryd.prog 8 #[.agg #[.int .i64 2, .int .i64 n, .string s, .string name, .string src, .slice A m c]] w fun x w' => x = .returned (.bool (headR 2 n s name src args.length && args.all (builtE d))) ∧ Below w.heap.size w w' := by
  have hfin : headR 2 n s name src args.length = false := by
    rw [ha, headR_2 ]
    simp [t0, t1, t2, t3]
  have Hfin := Lib.hid hfin
  clear hfin
  have t0b : decide ((200 : Int) < (s.size : Int)) = false := by simp at t0 ⊢; omega
  clear t0
  have t1b : (n == 0) = true := by simpa using t1
  have t1c : (n != 0) = false := by simpa using t1
  clear t1
  replace t2 := str_empty t2
  replace t3 := str_some t3
  have t3b : (src.toList == []) = false := by cases hq : src.toList <;> simp_all
  have t3c : (src.toList != []) = true := by cases hq : src.toList <;> simp_all
  obtain ⟨w2, Hw2⟩ : ∃ w2, Hid (w2 = (w.alloc (.cells #[.int .i64 2, .int .i64 n, .string s, .string name, .string src, .slice A m c] 35)).alloc (.cells #[.int .i64 2, .int .i64 0, .string { data := #[] }, .string { data := #[] }, .string { data := #[] }, .slice none 0 0] 35)) := ⟨_, rfl⟩
  have hR : Below w.heap.size w w2 := by rw [Hw2.out]; exact ((Below.refl _ _).alloc (Nat.le_refl _) _).alloc (by simp) _
  have he2 : IsBlk w2 w.heap.size 35 #[.int .i64 2, .int .i64 n, .string s, .string name, .string src, .slice A m c] := by rw [Hw2.out]; exact (IsBlk.laid _ _ _).alloc _
  have hw2 : IsBlk w2 (w.heap.size + 1) 35 #[.int .i64 2, .int .i64 0, .string { data := #[] }, .string { data := #[] }, .string { data := #[] }, .slice none 0 0] := by rw [Hw2.out]; exact laid_at (by simp) _ _
  obtain ⟨x0, x1, x2, x3, x4, x5, xl⟩ := exBox he2
  obtain ⟨y0, y1, y2, y3, y4, y5, hlw⟩ := exBox hw2
  have hfz := hw2.frozen
  have hA5 := x5
  clear he2 hw2
  clear ha
  go_enter Tryd.func8, Tryd.ntmps8
  go_upto_region 2 with (fail)
  rw [← Hw2.out]
  go_wp2_with (first | fail)
  all_goals
    go_ret
    exact ⟨ret_bool (by rw [Hfin.out]; simp), by repeat (first | exact hR | refine Below.setCell ?_ (by simp) _)⟩

set_option maxRecDepth 100000 in
set_option maxHeartbeats 4000000 in
theorem rbuilt_2_4  (n : Int) (s name src : ByteArray) (A : Option Addr) (m c : Nat) (args : List Ex) (w : World) (d : Nat) (ha : args.length = m) (t0 : decide (s.size ≤ 200) = true) (t1 : decide (n = 0) = true) (t2 : noS name = true) (t3 : noS src = true) (t4 : decide (m = 0) = false) :
    Calls Tryd.prog 8 #[.agg #[.int .i64 2, .int .i64 n, .string s, .string name, .string src, .slice A m c]] w fun x w' => x = .returned (.bool (headR 2 n s name src args.length && args.all (builtE d))) ∧ Below w.heap.size w w' := by
  have hfin : headR 2 n s name src args.length = false := by
    rw [ha, headR_2 ]
    simp [t0, t1, t2, t3, t4]
  have Hfin := Lib.hid hfin
  clear hfin
  have t0b : decide ((200 : Int) < (s.size : Int)) = false := by simp at t0 ⊢; omega
  clear t0
  have t1b : (n == 0) = true := by simpa using t1
  have t1c : (n != 0) = false := by simpa using t1
  clear t1
  replace t2 := str_empty t2
  replace t3 := str_empty t3
  have t4c : ((m : Int) != 0) = true := by simp at t4 ⊢; omega
  clear t4
  obtain ⟨w2, Hw2⟩ : ∃ w2, Hid (w2 = (w.alloc (.cells #[.int .i64 2, .int .i64 n, .string s, .string name, .string src, .slice A m c] 35)).alloc (.cells #[.int .i64 2, .int .i64 0, .string { data := #[] }, .string { data := #[] }, .string { data := #[] }, .slice none 0 0] 35)) := ⟨_, rfl⟩
  have hR : Below w.heap.size w w2 := by rw [Hw2.out]; exact ((Below.refl _ _).alloc (Nat.le_refl _) _).alloc (by simp) _
  have he2 : IsBlk w2 w.heap.size 35 #[.int .i64 2, .int .i64 n, .string s, .string name, .string src, .slice A m c] := by rw [Hw2.out]; exact (IsBlk.laid _ _ _).alloc _
  have hw2 : IsBlk w2 (w.heap.size + 1) 35 #[.int .i64 2, .int .i64 0, .string { data := #[] }, .string { data := #[] }, .string { data := #[] }, .slice none 0 0] := by rw [Hw2.out]; exact laid_at (by simp) _ _
  obtain ⟨x0, x1, x2, x3, x4, x5, xl⟩ := exBox he2
  obtain ⟨y0, y1, y2, y3, y4, y5, hlw⟩ := exBox hw2
  have hfz := hw2.frozen
  have hA5 := x5
  clear he2 hw2
  clear ha
  go_enter Tryd.func8, Tryd.ntmps8
  go_upto_region 2 with (fail)
  rw [← Hw2.out]
  go_wp2_with (first | fail)
  all_goals
    go_ret
    exact ⟨ret_bool (by rw [Hfin.out]; simp), by repeat (first | exact hR | refine Below.setCell ?_ (by simp) _)⟩

set_option maxRecDepth 100000 in
set_option maxHeartbeats 4000000 in
theorem rbuilt_2_5  (n : Int) (s name src : ByteArray) (A : Option Addr) (m c : Nat) (args : List Ex) (w : World) (d : Nat) (ha : args.length = m) (t0 : decide (s.size ≤ 200) = true) (t1 : decide (n = 0) = true) (t2 : noS name = true) (t3 : noS src = true) (t4 : decide (m = 0) = true) :
    Calls Tryd.prog 8 #[.agg #[.int .i64 2, .int .i64 n, .string s, .string name, .string src, .slice A m c]] w fun x w' => x = .returned (.bool (headR 2 n s name src args.length && args.all (builtE d))) ∧ Below w.heap.size w w' := by
  have hfin : headR 2 n s name src args.length = true := by
    rw [ha, headR_2 ]
    simp [t0, t1, t2, t3, t4]
  have Hfin := Lib.hid hfin
  clear hfin
  have t0b : decide ((200 : Int) < (s.size : Int)) = false := by simp at t0 ⊢; omega
  clear t0
  have t1b : (n == 0) = true := by simpa using t1
  have t1c : (n != 0) = false := by simpa using t1
  clear t1
  replace t2 := str_empty t2
  replace t3 := str_empty t3
  have t4b : m = 0 := by simpa using t4
  have hmb : m ≤ 1000 := by omega
  have Hm := Lib.hid t4b
  have t4c : ((m : Int) != 0) = false := by simp; omega
  clear t4b t4
  obtain ⟨w2, Hw2⟩ : ∃ w2, Hid (w2 = (w.alloc (.cells #[.int .i64 2, .int .i64 n, .string s, .string name, .string src, .slice A m c] 35)).alloc (.cells #[.int .i64 2, .int .i64 0, .string { data := #[] }, .string { data := #[] }, .string { data := #[] }, .slice none 0 0] 35)) := ⟨_, rfl⟩
  have hR : Below w.heap.size w w2 := by rw [Hw2.out]; exact ((Below.refl _ _).alloc (Nat.le_refl _) _).alloc (by simp) _
  have he2 : IsBlk w2 w.heap.size 35 #[.int .i64 2, .int .i64 n, .string s, .string name, .string src, .slice A m c] := by rw [Hw2.out]; exact (IsBlk.laid _ _ _).alloc _
  have hw2 : IsBlk w2 (w.heap.size + 1) 35 #[.int .i64 2, .int .i64 0, .string { data := #[] }, .string { data := #[] }, .string { data := #[] }, .slice none 0 0] := by rw [Hw2.out]; exact laid_at (by simp) _ _
  obtain ⟨x0, x1, x2, x3, x4, x5, xl⟩ := exBox he2
  obtain ⟨y0, y1, y2, y3, y4, y5, hlw⟩ := exBox hw2
  have hfz := hw2.frozen
  have hA5 := x5
  clear he2 hw2
  have Ha := Lib.hid ha
  clear ha
  go_enter Tryd.func8, Tryd.ntmps8
  go_upto_region 2 with (fail)
  rw [← Hw2.out]
  go_wp2_with (first | fail)
  go_loop [5] (fun i => i = .int .i64 0) (fun _ => 0)
  case atStart => rfl
  case round =>
    obtain rfl := hrel
    go_wp2
    go_ret
    have h0 : args = [] := List.eq_nil_of_length_eq_zero (by rw [Ha.out]; have := Hm.out; omega)
    subst h0
    exact ⟨ret_bool (by rw [Hfin.out]; simp), by repeat (first | exact hR | refine Below.setCell ?_ (by simp) _)⟩

set_option maxRecDepth 100000 in
set_option maxHeartbeats 4000000 in
theorem rbuilt_3_0  (n : Int) (s name src : ByteArray) (A : Option Addr) (m c : Nat) (args : List Ex) (w : World) (d : Nat) (ha : args.length = m) (t0 : (decide (n = 0) || decide (n = 1)) = false) :
    Calls Tryd.prog 8 #[.agg #[.int .i64 3, .int .i64 n, .string s, .string name, .string src, .slice A m c]] w fun x w' => x = .returned (.bool (headR 3 n s name src args.length && args.all (builtE d))) ∧ Below w.heap.size w w' := by
  have hfin : headR 3 n s name src args.length = false := by
    rw [ha, headR_3 ]
    simp [t0]
  have Hfin := Lib.hid hfin
  clear hfin
  have t0b : (n != min (max n 0) 1) = true := by simp at t0 ⊢; omega
  clear t0
  obtain ⟨w2, Hw2⟩ : ∃ w2, Hid (w2 = (w.alloc (.cells #[.int .i64 3, .int .i64 n, .string s, .string name, .string src, .slice A m c] 35)).alloc (.cells #[.int .i64 3, .int .i64 0, .string { data := #[] }, .string { data := #[] }, .string { data := #[] }, .slice none 0 0] 35)) := ⟨_, rfl⟩
  have hR : Below w.heap.size w w2 := by rw [Hw2.out]; exact ((Below.refl _ _).alloc (Nat.le_refl _) _).alloc (by simp) _
  have he2 : IsBlk w2 w.heap.size 35 #[.int .i64 3, .int .i64 n, .string s, .string name, .string src, .slice A m c] := by rw [Hw2.out]; exact (IsBlk.laid _ _ _).alloc _
  have hw2 : IsBlk w2 (w.heap.size + 1) 35 #[.int .i64 3, .int .i64 0, .string { data := #[] }, .string { data := #[] }, .string { data := #[] }, .slice none 0 0] := by rw [Hw2.out]; exact laid_at (by simp) _ _
  obtain ⟨x0, x1, x2, x3, x4, x5, xl⟩ := exBox he2
  obtain ⟨y0, y1, y2, y3, y4, y5, hlw⟩ := exBox hw2
  have hfz := hw2.frozen
  have hA5 := x5
  clear he2 hw2
  clear ha
  go_enter Tryd.func8, Tryd.ntmps8
  go_upto_region 2 with (fail)
  rw [← Hw2.out]
  go_wp2_with (first | fail)
  all_goals
    go_ret
    exact ⟨ret_bool (by rw [Hfin.out]; simp), by repeat (first | exact hR | refine Below.setCell ?_ (by simp) _)⟩

set_option maxRecDepth 100000 in
set_option maxHeartbeats 4000000 in
theorem rbuilt_3_1  (n : Int) (s name src : ByteArray) (A : Option Addr) (m c : Nat) (args : List Ex) (w : World) (d : Nat) (ha : args.length = m) (t0 : (decide (n = 0) || decide (n = 1)) = true) (t1 : noS s = false) :
    Calls Tryd.prog 8 #[.agg #[.int .i64 3, .int .i64 n, .string s, .string name, .string src, .slice A m c]] w fun x w' => x = .returned (.bool (headR 3 n s name src args.length && args.all (builtE d))) ∧ Below w.heap.size w w' := by
  have hfin : headR 3 n s name src args.length = false := by
    rw [ha, headR_3 ]
    simp [t0, t1]
  have Hfin := Lib.hid hfin
  clear hfin
  have t0b : max n 0 = n := by simp at t0; omega
  have t0c : min n 1 = n := by simp at t0; omega
  clear t0
  replace t1 := str_some t1
  have t1b : (s.toList == []) = false := by cases hq : s.toList <;> simp_all
  have t1c : (s.toList != []) = true := by cases hq : s.toList <;> simp_all
  obtain ⟨w2, Hw2⟩ : ∃ w2, Hid (w2 = (w.alloc (.cells #[.int .i64 3, .int .i64 n, .string s, .string name, .string src, .slice A m c] 35)).alloc (.cells #[.int .i64 3, .int .i64 0, .string { data := #[] }, .string { data := #[] }, .string { data := #[] }, .slice none 0 0] 35)) := ⟨_, rfl⟩
  have hR : Below w.heap.size w w2 := by rw [Hw2.out]; exact ((Below.refl _ _).alloc (Nat.le_refl _) _).alloc (by simp) _
  have he2 : IsBlk w2 w.heap.size 35 #[.int .i64 3, .int .i64 n, .string s, .string name, .string src, .slice A m c] := by rw [Hw2.out]; exact (IsBlk.laid _ _ _).alloc _
  have hw2 : IsBlk w2 (w.heap.size + 1) 35 #[.int .i64 3, .int .i64 0, .string { data := #[] }, .string { data := #[] }, .string { data := #[] }, .slice none 0 0] := by rw [Hw2.out]; exact laid_at (by simp) _ _
  obtain ⟨x0, x1, x2, x3, x4, x5, xl⟩ := exBox he2
  obtain ⟨y0, y1, y2, y3, y4, y5, hlw⟩ := exBox hw2
  have hfz := hw2.frozen
  have hA5 := x5
  clear he2 hw2
  clear ha
  go_enter Tryd.func8, Tryd.ntmps8
  go_upto_region 2 with (fail)
  rw [← Hw2.out]
  go_wp2_with (first | fail)
  all_goals
    go_ret
    exact ⟨ret_bool (by rw [Hfin.out]; simp), by repeat (first | exact hR | refine Below.setCell ?_ (by simp) _)⟩

set_option maxRecDepth 100000 in
set_option maxHeartbeats 4000000 in
theorem rbuilt_3_2  (n : Int) (s name src : ByteArray) (A : Option Addr) (m c : Nat) (args : List Ex) (w : World) (d : Nat) (ha : args.length = m) (t0 : (decide (n = 0) || decide (n = 1)) = true) (t1 : noS s = true) (t2 : noS name = false) :
    Calls Tryd.prog 8 #[.agg #[.int .i64 3, .int .i64 n, .string s, .string name, .string src, .slice A m c]] w fun x w' => x = .returned (.bool (headR 3 n s name src args.length && args.all (builtE d))) ∧ Below w.heap.size w w' := by
  have hfin : headR 3 n s name src args.length = false := by
    rw [ha, headR_3 ]
    simp [t0, t1, t2]
  have Hfin := Lib.hid hfin
  clear hfin
  have t0b : max n 0 = n := by simp at t0; omega
  have t0c : min n 1 = n := by simp at t0; omega
  clear t0
  replace t1 := str_empty t1
  replace t2 := str_some t2
  have t2b : (name.toList == []) = false := by cases hq : name.toList <;> simp_all
  have t2c : (name.toList != []) = true := by cases hq : name.toList <;> simp_all
  obtain ⟨w2, Hw2⟩ : ∃ w2, Hid (w2 = (w.alloc (.cells #[.int .i64 3, .int .i64 n, .string s, .string name, .string src, .slice A m c] 35)).alloc (.cells #[.int .i64 3, .int .i64 0, .string { data := #[] }, .string { data := #[] }, .string { data := #[] }, .slice none 0 0] 35)) := ⟨_, rfl⟩
  have hR : Below w.heap.size w w2 := by rw [Hw2.out]; exact ((Below.refl _ _).alloc (Nat.le_refl _) _).alloc (by simp) _
  have he2 : IsBlk w2 w.heap.size 35 #[.int .i64 3, .int .i64 n, .string s, .string name, .string src, .slice A m c] := by rw [Hw2.out]; exact (IsBlk.laid _ _ _).alloc _
  have hw2 : IsBlk w2 (w.heap.size + 1) 35 #[.int .i64 3, .int .i64 0, .string { data := #[] }, .string { data := #[] }, .string { data := #[] }, .slice none 0 0] := by rw [Hw2.out]; exact laid_at (by simp) _ _
  obtain ⟨x0, x1, x2, x3, x4, x5, xl⟩ := exBox he2
  obtain ⟨y0, y1, y2, y3, y4, y5, hlw⟩ := exBox hw2
  have hfz := hw2.frozen
  have hA5 := x5
  clear he2 hw2
  clear ha
  go_enter Tryd.func8, Tryd.ntmps8
  go_upto_region 2 with (fail)
  rw [← Hw2.out]
  go_wp2_with (first | fail)
  all_goals
    go_ret
    exact ⟨ret_bool (by rw [Hfin.out]; simp), by repeat (first | exact hR | refine Below.setCell ?_ (by simp) _)⟩

set_option maxRecDepth 100000 in
set_option maxHeartbeats 4000000 in
theorem rbuilt_3_3  (n : Int) (s name src : ByteArray) (A : Option Addr) (m c : Nat) (args : List Ex) (w : World) (d : Nat) (ha : args.length = m) (t0 : (decide (n = 0) || decide (n = 1)) = true) (t1 : noS s = true) (t2 : noS name = true) (t3 : noS src = false) :
    Calls Tryd.prog 8 #[.agg #[.int .i64 3, .int .i64 n, .string s, .string name, .string src, .slice A m c]] w fun x w' => x = .returned (.bool (headR 3 n s name src args.length && args.all (builtE d))) ∧ Below w.heap.size w w' := by
  have hfin : headR 3 n s name src args.length = false := by
    rw [ha, headR_3 ]
    simp [t0, t1, t2, t3]
  have Hfin := Lib.hid hfin
  clear hfin
  have t0b : max n 0 = n := by simp at t0; omega
  have t0c : min n 1 = n := by simp at t0; omega
  clear t0
  replace t1 := str_empty t1
  replace t2 := str_empty t2
  replace t3 := str_some t3
  have t3b : (src.toList == []) = false := by cases hq : src.toList <;> simp_all
  have t3c : (src.toList != []) = true := by cases hq : src.toList <;> simp_all
  obtain ⟨w2, Hw2⟩ : ∃ w2, Hid (w2 = (w.alloc (.cells #[.int .i64 3, .int .i64 n, .string s, .string name, .string src, .slice A m c] 35)).alloc (.cells #[.int .i64 3, .int .i64 0, .string { data := #[] }, .string { data := #[] }, .string { data := #[] }, .slice none 0 0] 35)) := ⟨_, rfl⟩
  have hR : Below w.heap.size w w2 := by rw [Hw2.out]; exact ((Below.refl _ _).alloc (Nat.le_refl _) _).alloc (by simp) _
  have he2 : IsBlk w2 w.heap.size 35 #[.int .i64 3, .int .i64 n, .string s, .string name, .string src, .slice A m c] := by rw [Hw2.out]; exact (IsBlk.laid _ _ _).alloc _
  have hw2 : IsBlk w2 (w.heap.size + 1) 35 #[.int .i64 3, .int .i64 0, .string { data := #[] }, .string { data := #[] }, .string { data := #[] }, .slice none 0 0] := by rw [Hw2.out]; exact laid_at (by simp) _ _
  obtain ⟨x0, x1, x2, x3, x4, x5, xl⟩ := exBox he2
  obtain ⟨y0, y1, y2, y3, y4, y5, hlw⟩ := exBox hw2
  have hfz := hw2.frozen
  have hA5 := x5
  clear he2 hw2
  clear ha
  go_enter Tryd.func8, Tryd.ntmps8
  go_upto_region 2 with (fail)
  rw [← Hw2.out]
  go_wp2_with (first | fail)
  all_goals
    go_ret
    exact ⟨ret_bool (by rw [Hfin.out]; simp), by repeat (first | exact hR | refine Below.setCell ?_ (by simp) _)⟩

set_option maxRecDepth 100000 in
set_option maxHeartbeats 4000000 in
theorem rbuilt_3_4  (n : Int) (s name src : ByteArray) (A : Option Addr) (m c : Nat) (args : List Ex) (w : World) (d : Nat) (ha : args.length = m) (t0 : (decide (n = 0) || decide (n = 1)) = true) (t1 : noS s = true) (t2 : noS name = true) (t3 : noS src = true) (t4 : decide (m = 0) = false) :
    Calls Tryd.prog 8 #[.agg #[.int .i64 3, .int .i64 n, .string s, .string name, .string src, .slice A m c]] w fun x w' => x = .returned (.bool (headR 3 n s name src args.length && args.all (builtE d))) ∧ Below w.heap.size w w' := by
  have hfin : headR 3 n s name src args.length = false := by
    rw [ha, headR_3 ]
    simp [t0, t1, t2, t3, t4]
  have Hfin := Lib.hid hfin
  clear hfin
  have t0b : max n 0 = n := by simp at t0; omega
  have t0c : min n 1 = n := by simp at t0; omega
  clear t0
  replace t1 := str_empty t1
  replace t2 := str_empty t2
  replace t3 := str_empty t3
  have t4c : ((m : Int) != 0) = true := by simp at t4 ⊢; omega
  clear t4
  obtain ⟨w2, Hw2⟩ : ∃ w2, Hid (w2 = (w.alloc (.cells #[.int .i64 3, .int .i64 n, .string s, .string name, .string src, .slice A m c] 35)).alloc (.cells #[.int .i64 3, .int .i64 0, .string { data := #[] }, .string { data := #[] }, .string { data := #[] }, .slice none 0 0] 35)) := ⟨_, rfl⟩
  have hR : Below w.heap.size w w2 := by rw [Hw2.out]; exact ((Below.refl _ _).alloc (Nat.le_refl _) _).alloc (by simp) _
  have he2 : IsBlk w2 w.heap.size 35 #[.int .i64 3, .int .i64 n, .string s, .string name, .string src, .slice A m c] := by rw [Hw2.out]; exact (IsBlk.laid _ _ _).alloc _
  have hw2 : IsBlk w2 (w.heap.size + 1) 35 #[.int .i64 3, .int .i64 0, .string { data := #[] }, .string { data := #[] }, .string { data := #[] }, .slice none 0 0] := by rw [Hw2.out]; exact laid_at (by simp) _ _
  obtain ⟨x0, x1, x2, x3, x4, x5, xl⟩ := exBox he2
  obtain ⟨y0, y1, y2, y3, y4, y5, hlw⟩ := exBox hw2
  have hfz := hw2.frozen
  have hA5 := x5
  clear he2 hw2
  clear ha
  go_enter Tryd.func8, Tryd.ntmps8
  go_upto_region 2 with (fail)
  rw [← Hw2.out]
  go_wp2_with (first | fail)
  all_goals
    go_ret
    exact ⟨ret_bool (by rw [Hfin.out]; simp), by repeat (first | exact hR | refine Below.setCell ?_ (by simp) _)⟩

set_option maxRecDepth 100000 in
set_option maxHeartbeats 4000000 in
theorem rbuilt_3_5  (n : Int) (s name src : ByteArray) (A : Option Addr) (m c : Nat) (args : List Ex) (w : World) (d : Nat) (ha : args.length = m) (t0 : (decide (n = 0) || decide (n = 1)) = true) (t1 : noS s = true) (t2 : noS name = true) (t3 : noS src = true) (t4 : decide (m = 0) = true) :
    Calls Tryd.prog 8 #[.agg #[.int .i64 3, .int .i64 n, .string s, .string name, .string src, .slice A m c]] w fun x w' => x = .returned (.bool (headR 3 n s name src args.length && args.all (builtE d))) ∧ Below w.heap.size w w' := by
  have hfin : headR 3 n s name src args.length = true := by
    rw [ha, headR_3 ]
    simp [t0, t1, t2, t3, t4]
  have Hfin := Lib.hid hfin
  clear hfin
  have t0b : max n 0 = n := by simp at t0; omega
  have t0c : min n 1 = n := by simp at t0; omega
  clear t0
  replace t1 := str_empty t1
  replace t2 := str_empty t2
  replace t3 := str_empty t3
  have t4b : m = 0 := by simpa using t4
  have hmb : m ≤ 1000 := by omega
  have Hm := Lib.hid t4b
  have t4c : ((m : Int) != 0) = false := by simp; omega
  clear t4b t4
  obtain ⟨w2, Hw2⟩ : ∃ w2, Hid (w2 = (w.alloc (.cells #[.int .i64 3, .int .i64 n, .string s, .string name, .string src, .slice A m c] 35)).alloc (.cells #[.int .i64 3, .int .i64 0, .string { data := #[] }, .string { data := #[] }, .string { data := #[] }, .slice none 0 0] 35)) := ⟨_, rfl⟩
  have hR : Below w.heap.size w w2 := by rw [Hw2.out]; exact ((Below.refl _ _).alloc (Nat.le_refl _) _).alloc (by simp) _
  have he2 : IsBlk w2 w.heap.size 35 #[.int .i64 3, .int .i64 n, .string s, .string name, .string src, .slice A m c] := by rw [Hw2.out]; exact (IsBlk.laid _ _ _).alloc _
  have hw2 : IsBlk w2 (w.heap.size + 1) 35 #[.int .i64 3, .int .i64 0, .string { data := #[] }, .string { data := #[] }, .string { data := #[] }, .slice none 0 0] := by rw [Hw2.out]; exact laid_at (by simp) _ _
  obtain ⟨x0, x1, x2, x3, x4, x5, xl⟩ := exBox he2
  obtain ⟨y0, y1, y2, y3, y4, y5, hlw⟩ := exBox hw2
  have hfz := hw2.frozen
  have hA5 := x5
  clear he2 hw2
  have Ha := Lib.hid ha
  clear ha
  go_enter Tryd.func8, Tryd.ntmps8
  go_upto_region 2 with (fail)
  rw [← Hw2.out]
  go_wp2_with (first | fail)
  go_loop [5] (fun i => i = .int .i64 0) (fun _ => 0)
  case atStart => rfl
  case round =>
    obtain rfl := hrel
    go_wp2
    go_ret
    have h0 : args = [] := List.eq_nil_of_length_eq_zero (by rw [Ha.out]; have := Hm.out; omega)
    subst h0
    exact ⟨ret_bool (by rw [Hfin.out]; simp), by repeat (first | exact hR | refine Below.setCell ?_ (by simp) _)⟩
end Go.Proofs.YthiimingnmbgmaaDoor

/- Parts of this proof, one behind the other: RefE4. -/
import Derived.Test.YthiimingnmbgmaaDoorPe14
namespace Go.Proofs.YthiimingnmbgmaaDoor
open Go.RowKit Go.Afx

set_option maxRecDepth 100000 in
set_option maxHeartbeats 4000000 in
theorem rbuilt_t_0 (op : Int) (h6 : 6 ≤ op) (h18 : op ≤ 18) (n : Int) (s name src : ByteArray) (A : Option Addr) (m c : Nat) (args : List Ex) (w : World) (d : Nat) (ha : args.length = m) (t0 : decide (n = 0) = false) :
    Calls Tryd.prog 8 #[.agg #[.int .i64 op, .int .i64 n, .string s, .string name, .string src, .slice A m c]] w fun x w' => x = .returned (.bool (headR op n s name src args.length && args.all (builtE d))) ∧ Below w.heap.size w w' := by
  have hfin : headR op n s name src args.length = false := by
    rw [ha, headR_t op (by omega) (by omega)]
    simp [t0]
  have Hfin := Lib.hid hfin
  clear hfin
  have e1 : (op == 1) = false := by simp; omega
  have e2 : (op == 2) = false := by simp; omega
  have e3 : (op == 3) = false := by simp; omega
  have e4 : (op == 4) = false := by simp; omega
  have e5 : (op == 5) = false := by simp; omega
  have e21 : (op == 21) = false := by simp; omega
  have f1 : decide ((21 : Int) ≤ op) = false := by simp; omega
  have f4 : decide ((6 : Int) ≤ op) = true := by simp; omega
  have f5 : decide (op ≤ (18 : Int)) = true := by simp; omega
  have t0b : (n == 0) = false := by simpa using t0
  have t0c : (n != 0) = true := by simpa using t0
  clear t0
  obtain ⟨w2, Hw2⟩ : ∃ w2, Hid (w2 = (w.alloc (.cells #[.int .i64 op, .int .i64 n, .string s, .string name, .string src, .slice A m c] 35)).alloc (.cells #[.int .i64 op, .int .i64 0, .string { data := #[] }, .string { data := #[] }, .string { data := #[] }, .slice none 0 0] 35)) := ⟨_, rfl⟩
  have hR : Below w.heap.size w w2 := by rw [Hw2.out]; exact ((Below.refl _ _).alloc (Nat.le_refl _) _).alloc (by simp) _
  have he2 : IsBlk w2 w.heap.size 35 #[.int .i64 op, .int .i64 n, .string s, .string name, .string src, .slice A m c] := by rw [Hw2.out]; exact (IsBlk.laid _ _ _).alloc _
  have hw2 : IsBlk w2 (w.heap.size + 1) 35 #[.int .i64 op, .int .i64 0, .string { data := #[] }, .string { data := #[] }, .string { data := #[] }, .slice none 0 0] := by rw [Hw2.out]; exact laid_at (by simp) _ _
  obtain ⟨x0, x1, x2, x3, x4, x5, xl⟩ := exBox he2
  obtain ⟨y0, y1, y2, y3, y4, y5, hlw⟩ := exBox hw2
  have hfz := hw2.frozen
  have hA5 := x5
  clear he2 hw2
  clear ha
  go_enter Tryd.func8, Tryd.ntmps8
  go_upto_region 2 with (fail)
  rw [← Hw2.out]
  go_wp2_with (first | fail)
  all_goals
    go_ret
    exact ⟨ret_bool (by rw [Hfin.out]; simp), by repeat (first | exact hR | refine Below.setCell ?_ (by simp) _)⟩

set_option maxRecDepth 100000 in
set_option maxHeartbeats 4000000 in
theorem rbuilt_t_1 (op : Int) (h6 : 6 ≤ op) (h18 : op ≤ 18) (n : Int) (s name src : ByteArray) (A : Option Addr) (m c : Nat) (args : List Ex) (w : World) (d : Nat) (ha : args.length = m) (t0 : decide (n = 0) = true) (t1 : noS s = false) :
    Calls Tryd.prog 8 #[.agg #[.int .i64 op, .int .i64 n, .string s, .string name, .string src, .slice A m c]] w fun x w' => x = .returned (.bool (headR op n s name src args.length && args.all (builtE d))) ∧ Below w.heap.size w w' := by
  have hfin : headR op n s name src args.length = false := by
    rw [ha, headR_t op (by omega) (by omega)]
    simp [t0, t1]
  have Hfin := Lib.hid hfin
  clear hfin
  have e1 : (op == 1) = false := by simp; omega
  have e2 : (op == 2) = false := by simp; omega
  have e3 : (op == 3) = false := by simp; omega
  have e4 : (op == 4) = false := by simp; omega
  have e5 : (op == 5) = false := by simp; omega
  have e21 : (op == 21) = false := by simp; omega
  have f1 : decide ((21 : Int) ≤ op) = false := by simp; omega
  have f4 : decide ((6 : Int) ≤ op) = true := by simp; omega
  have f5 : decide (op ≤ (18 : Int)) = true := by simp; omega
  have t0b : (n == 0) = true := by simpa using t0
  have t0c : (n != 0) = false := by simpa using t0
  clear t0
  replace t1 := str_some t1
  have t1b : (s.toList == []) = false := by cases hq : s.toList <;> simp_all
  have t1c : (s.toList != []) = true := by cases hq : s.toList <;> simp_all
  obtain ⟨w2, Hw2⟩ : ∃ w2, Hid (w2 = (w.alloc (.cells #[.int .i64 op, .int .i64 n, .string s, .string name, .string src, .slice A m c] 35)).alloc (.cells #[.int .i64 op, .int .i64 0, .string { data := #[] }, .string { data := #[] }, .string { data := #[] }, .slice none 0 0] 35)) := ⟨_, rfl⟩
  have hR : Below w.heap.size w w2 := by rw [Hw2.out]; exact ((Below.refl _ _).alloc (Nat.le_refl _) _).alloc (by simp) _
  have he2 : IsBlk w2 w.heap.size 35 #[.int .i64 op, .int .i64 n, .string s, .string name, .string src, .slice A m c] := by rw [Hw2.out]; exact (IsBlk.laid _ _ _).alloc _
  have hw2 : IsBlk w2 (w.heap.size + 1) 35 #[.int .i64 op, .int .i64 0, .string { data := #[] }, .string { data := #[] }, .string { data := #[] }, .slice none 0 0] := by rw [Hw2.out]; exact laid_at (by simp) _ _
  obtain ⟨x0, x1, x2, x3, x4, x5, xl⟩ := exBox he2
  obtain ⟨y0, y1, y2, y3, y4, y5, hlw⟩ := exBox hw2
  have hfz := hw2.frozen
  have hA5 := x5
  clear he2 hw2
  clear ha
  go_enter Tryd.func8, Tryd.ntmps8
  go_upto_region 2 with (fail)
  rw [← Hw2.out]
  go_wp2_with (first | fail)
  all_goals
    go_ret
    exact ⟨ret_bool (by rw [Hfin.out]; simp), by repeat (first | exact hR | refine Below.setCell ?_ (by simp) _)⟩

set_option maxRecDepth 100000 in
set_option maxHeartbeats 4000000 in
theorem rbuilt_t_2 (op : Int) (h6 : 6 ≤ op) (h18 : op ≤ 18) (n : Int) (s name src : ByteArray) (A : Option Addr) (m c : Nat) (args : List Ex) (w : World) (d : Nat) (ha : args.length = m) (t0 : decide (n = 0) = true) (t1 : noS s = true) (t2 : noS name = false) :
    Calls Tryd.prog 8 #[.agg #[.int .i64 op, .int .i64 n, .string s, .string name, .string src, .slice A m c]] w fun x w' => x = .returned (.bool (headR op n s name src args.length && args.all (builtE d))) ∧ Below w.heap.size w w' := by
  have hfin : headR op n s name src args.length = false := by
    rw [ha, headR_t op (by omega) (by omega)]
    simp [t0, t1, t2]
  have Hfin := Lib.hid hfin
  clear hfin
  have e1 : (op == 1) = false := by simp; omega
  have e2 : (op == 2) = false := by simp; omega
  have e3 : (op == 3) = false := by simp; omega
  have e4 : (op == 4) = false := by simp; omega
  have e5 : (op == 5) = false := by simp; omega
  have e21 : (op == 21) = false := by simp; omega
  have f1 : decide ((21 : Int) ≤ op) = false := by simp; omega
  have f4 : decide ((6 : Int) ≤ op) = true := by simp; omega
  have f5 : decide (op ≤ (18 : Int)) = true := by simp; omega
  have t0b : (n == 0) = true := by simpa using t0
  have t0c : (n != 0) = false := by simpa using t0
  clear t0
  replace t1 := str_empty t1
  replace t2 := str_some t2
  have t2b : (name.toList == []) = false := by cases hq : name.toList <;> simp_all
  have t2c : (name.toList != []) = true := by cases hq : name.toList <;> simp_all
  obtain ⟨w2, Hw2⟩ : ∃ w2, Hid (w2 = (w.alloc (.cells #[.int .i64 op, .int .i64 n, .string s, .string name, .string src, .slice A m c] 35)).alloc (.cells #[.int .i64 op, .int .i64 0, .string { data := #[] }, .string { data := #[] }, .string { data := #[] }, .slice none 0 0] 35)) := ⟨_, rfl⟩
  have hR : Below w.heap.size w w2 := by rw [Hw2.out]; exact ((Below.refl _ _).alloc (Nat.le_refl _) _).alloc (by simp) _
  have he2 : IsBlk w2 w.heap.size 35 #[.int .i64 op, .int .i64 n, .string s, .string name, .string src, .slice A m c] := by rw [Hw2.out]; exact (IsBlk.laid _ _ _).alloc _
  have hw2 : IsBlk w2 (w.heap.size + 1) 35 #[.int .i64 op, .int .i64 0, .string { data := #[] }, .string { data := #[] }, .string { data := #[] }, .slice none 0 0] := by rw [Hw2.out]; exact laid_at (by simp) _ _
  obtain ⟨x0, x1, x2, x3, x4, x5, xl⟩ := exBox he2
  obtain ⟨y0, y1, y2, y3, y4, y5, hlw⟩ := exBox hw2
  have hfz := hw2.frozen
  have hA5 := x5
  clear he2 hw2
  clear ha
  go_enter Tryd.func8, Tryd.ntmps8
  go_upto_region 2 with (fail)
  rw [← Hw2.out]
  go_wp2_with (first | fail)
  all_goals
    go_ret
    exact ⟨ret_bool (by rw [Hfin.out]; simp), by repeat (first | exact hR | refine Below.setCell ?_ (by simp) _)⟩

set_option maxRecDepth 100000 in
set_option maxHeartbeats 4000000 in
theorem rbuilt_t_3 (op : Int) (h6 : 6 ≤ op) (h18 : op ≤ 18) (n : Int) (s name src : ByteArray) (A : Option Addr) (m c : Nat) (args : List Ex) (w : World) (d : Nat) (ha : args.length = m) (t0 : decide (n = 0) = true) (t1 : noS s = true) (t2 : noS name = true) (t3 : noS src = false) :
    Calls Tryd.prog 8 #[.agg #[.int .i64 op, .int .i64 n, .string s, .string name, .string src, .slice A m c]] w fun x w' => x = .returned (.bool (headR op n s name src args.length && args.all (builtE d))) ∧ Below w.heap.size w w' := by
  have hfin : headR op n s name src args.length = false := by
    rw [ha, headR_t op (by omega) (by omega)]
    simp [t0, t1, t2, t3]
  have Hfin := Lib.hid hfin
  clear hfin
  have e1 : (op == 1) = false := by simp; omega
  have e2 : (op == 2) = false := by simp; omega
  have e3 : (op == 3) = false := by simp; omega
  have e4 : (op == 4) = false := by simp; omega
  have e5 : (op == 5) = false := by simp; omega
  have e21 : (op == 21) = false := by simp; omega
  have f1 : decide ((21 : Int) ≤ op) = false := by simp; omega
  have f4 : decide ((6 : Int) ≤ op) = true := by simp; omega
  have f5 : decide (op ≤ (18 : Int)) = true := by simp; omega
  have t0b : (n == 0) = true := by simpa using t0
  have t0c : (n != 0) = false := by simpa using t0
  clear t0
  replace t1 := str_empty t1
  replace t2 := str_empty t2
  replace t3 := str_some t3
  have t3b : (src.toList == []) = false := by cases hq : src.toList <;> simp_all
  have t3c : (src.toList != []) = true := by cases hq : src.toList <;> simp_all
  obtain ⟨w2, Hw2⟩ : ∃ w2, Hid (w2 = (w.alloc (.cells #[.int .i64 op, .int .i64 n, .string s, .string name, .string src, .slice A m c] 35)).alloc (.cells #[.int .i64 op, .int .i64 0, .string { data := #[] }, .string { data := #[] }, .string { data := #[] }, .slice none 0 0] 35)) := ⟨_, rfl⟩
  have hR : Below w.heap.size w w2 := by rw [Hw2.out]; exact ((Below.refl _ _).alloc (Nat.le_refl _) _).alloc (by simp) _
  have he2 : IsBlk w2 w.heap.size 35 #[.int .i64 op, .int .i64 n, .string s, .string name, .string src, .slice A m c] := by rw [Hw2.out]; exact (IsBlk.laid _ _ _).alloc _
  have hw2 : IsBlk w2 (w.heap.size + 1) 35 #[.int .i64 op, .int .i64 0, .string { data := #[] }, .string { data := #[] }, .string { data := #[] }, .slice none 0 0] := by rw [Hw2.out]; exact laid_at (by simp) _ _
  obtain ⟨x0, x1, x2, x3, x4, x5, xl⟩ := exBox he2
  obtain ⟨y0, y1, y2, y3, y4, y5, hlw⟩ := exBox hw2
  have hfz := hw2.frozen
  have hA5 := x5
  clear he2 hw2
  clear ha
  go_enter Tryd.func8, Tryd.ntmps8
  go_upto_region 2 with (fail)
  rw [← Hw2.out]
  go_wp2_with (first | fail)
  all_goals
    go_ret
    exact ⟨ret_bool (by rw [Hfin.out]; simp), by repeat (first | exact hR | refine Below.setCell ?_ (by simp) _)⟩

set_option maxRecDepth 100000 in
set_option maxHeartbeats 4000000 in
theorem rbuilt_t_4 (op : Int) (h6 : 6 ≤ op) (h18 : op ≤ 18) (n : Int) (s name src : ByteArray) (A : Option Addr) (m c : Nat) (args : List Ex) (w : World) (d : Nat) (ha : args.length = m) (t0 : decide (n = 0) = true) (t1 : noS s = true) (t2 : noS name = true) (t3 : noS src = true) (t4 : decide (m = 2) = false) :
    Calls Tryd.prog 8 #[.agg #[.int .i64 op, .int .i64 n, .string s, .string name, .string src, .slice A m c]] w fun x w' => x = .returned (.bool (headR op n s name src args.length && args.all (builtE d))) ∧ Below w.heap.size w w' := by
  have hfin : headR op n s name src args.length = false := by
    rw [ha, headR_t op (by omega) (by omega)]
    simp [t0, t1, t2, t3, t4]
  have Hfin := Lib.hid hfin
  clear hfin
  have e1 : (op == 1) = false := by simp; omega
  have e2 : (op == 2) = false := by simp; omega
  have e3 : (op == 3) = false := by simp; omega
  have e4 : (op == 4) = false := by simp; omega
  have e5 : (op == 5) = false := by simp; omega
  have e21 : (op == 21) = false := by simp; omega
  have f1 : decide ((21 : Int) ≤ op) = false := by simp; omega
  have f4 : decide ((6 : Int) ≤ op) = true := by simp; omega
  have f5 : decide (op ≤ (18 : Int)) = true := by simp; omega
  have t0b : (n == 0) = true := by simpa using t0
  have t0c : (n != 0) = false := by simpa using t0
  clear t0
  replace t1 := str_empty t1
  replace t2 := str_empty t2
  replace t3 := str_empty t3
  have t4c : ((m : Int) != 2) = true := by simp at t4 ⊢; omega
  clear t4
  obtain ⟨w2, Hw2⟩ : ∃ w2, Hid (w2 = (w.alloc (.cells #[.int .i64 op, .int .i64 n, .string s, .string name, .string src, .slice A m c] 35)).alloc (.cells #[.int .i64 op, .int .i64 0, .string { data := #[] }, .string { data := #[] }, .string { data := #[] }, .slice none 0 0] 35)) := ⟨_, rfl⟩
  have hR : Below w.heap.size w w2 := by rw [Hw2.out]; exact ((Below.refl _ _).alloc (Nat.le_refl _) _).alloc (by simp) _
  have he2 : IsBlk w2 w.heap.size 35 #[.int .i64 op, .int .i64 n, .string s, .string name, .string src, .slice A m c] := by rw [Hw2.out]; exact (IsBlk.laid _ _ _).alloc _
  have hw2 : IsBlk w2 (w.heap.size + 1) 35 #[.int .i64 op, .int .i64 0, .string { data := #[] }, .string { data := #[] }, .string { data := #[] }, .slice none 0 0] := by rw [Hw2.out]; exact laid_at (by simp) _ _
  obtain ⟨x0, x1, x2, x3, x4, x5, xl⟩ := exBox he2
  obtain ⟨y0, y1, y2, y3, y4, y5, hlw⟩ := exBox hw2
  have hfz := hw2.frozen
  have hA5 := x5
  clear he2 hw2
  clear ha
  go_enter Tryd.func8, Tryd.ntmps8
  go_upto_region 2 with (fail)
  rw [← Hw2.out]
  go_wp2_with (first | fail)
  all_goals
    go_ret
    exact ⟨ret_bool (by rw [Hfin.out]; simp), by repeat (first | exact hR | refine Below.setCell ?_ (by simp) _)⟩

set_option maxRecDepth 100000 in
set_option maxHeartbeats 4000000 in
theorem rbuilt_t_5 (op : Int) (h6 : 6 ≤ op) (h18 : op ≤ 18) (n : Int) (s name src : ByteArray) (A : Option Addr) (m c : Nat) (args : List Ex) (w : World) (F : Nat → Prop) (d : Nat) (ih : RBuilts F d) (hl : ExsAt F d w A m c args) (ha : args.length = m) (t0 : decide (n = 0) = true) (t1 : noS s = true) (t2 : noS name = true) (t3 : noS src = true) (t4 : decide (m = 2) = true) :
    Calls Tryd.prog 8 #[.agg #[.int .i64 op, .int .i64 n, .string s, .string name, .string src, .slice A m c]] w fun x w' => x = .returned (.bool (headR op n s name src args.length && args.all (builtE d))) ∧ Below w.heap.size w w' := by
  have hfin : headR op n s name src args.length = true := by
    rw [ha, headR_t op (by omega) (by omega)]
    simp [t0, t1, t2, t3, t4]
  have Hfin := Lib.hid hfin
  clear hfin
  have e1 : (op == 1) = false := by simp; omega
  have e2 : (op == 2) = false := by simp; omega
  have e3 : (op == 3) = false := by simp; omega
  have e4 : (op == 4) = false := by simp; omega
  have e5 : (op == 5) = false := by simp; omega
  have e21 : (op == 21) = false := by simp; omega
  have f1 : decide ((21 : Int) ≤ op) = false := by simp; omega
  have f4 : decide ((6 : Int) ≤ op) = true := by simp; omega
  have f5 : decide (op ≤ (18 : Int)) = true := by simp; omega
  have t0b : (n == 0) = true := by simpa using t0
  have t0c : (n != 0) = false := by simpa using t0
  clear t0
  replace t1 := str_empty t1
  replace t2 := str_empty t2
  replace t3 := str_empty t3
  have t4b : m = 2 := by simpa using t4
  have hmb : m ≤ 1000 := by omega
  have Hm := Lib.hid t4b
  have t4c : ((m : Int) != 2) = false := by simp; omega
  clear t4b t4
  obtain ⟨w2, Hw2⟩ : ∃ w2, Hid (w2 = (w.alloc (.cells #[.int .i64 op, .int .i64 n, .string s, .string name, .string src, .slice A m c] 35)).alloc (.cells #[.int .i64 op, .int .i64 0, .string { data := #[] }, .string { data := #[] }, .string { data := #[] }, .slice none 0 0] 35)) := ⟨_, rfl⟩
  have hR : Below w.heap.size w w2 := by rw [Hw2.out]; exact ((Below.refl _ _).alloc (Nat.le_refl _) _).alloc (by simp) _
  have he2 : IsBlk w2 w.heap.size 35 #[.int .i64 op, .int .i64 n, .string s, .string name, .string src, .slice A m c] := by rw [Hw2.out]; exact (IsBlk.laid _ _ _).alloc _
  have hw2 : IsBlk w2 (w.heap.size + 1) 35 #[.int .i64 op, .int .i64 0, .string { data := #[] }, .string { data := #[] }, .string { data := #[] }, .slice none 0 0] := by rw [Hw2.out]; exact laid_at (by simp) _ _
  obtain ⟨x0, x1, x2, x3, x4, x5, xl⟩ := exBox he2
  obtain ⟨y0, y1, y2, y3, y4, y5, hlw⟩ := exBox hw2
  have hfz := hw2.frozen
  have hA5 := x5
  clear he2 hw2
  have Hl := Lib.hid (fun W (hW : Below w.heap.size w W) => ExsAt.below hl hW)
  have Ha := Lib.hid ha
  clear ha hl
  go_enter Tryd.func8, Tryd.ntmps8
  go_upto_region 2 with (fail)
  rw [← Hw2.out]
  go_wp2_with (first | fail)
  obtain ⟨g5, gl⟩ : w2.cell? ⟨w.heap.size, 5, none⟩ = some (.slice A m c) ∧ w.heap.size < w2.heap.size := ⟨hA5, by omega⟩
  have Hg := Lib.hid (fun W (hW : Below w2.heap.size w2 W) => (hW.cell (p := ⟨w.heap.size, 5, none⟩) gl).trans g5)
  clear g5 hA5 x0 x1 x2 x3 x4 x5 y0 y1 y2 y3 y4 y5
  go_loopw [5] (fun i wr => ∃ k : Nat, k ≤ m ∧ i = .int .i64 k ∧ (∀ y ∈ args.take k, builtE d y = true) ∧ Below w2.heap.size w2 wr) (fun i _ => m - (intOf i).toNat)
  case atStart => exact ⟨0, Nat.zero_le _, rfl, by simp, Below.refl _ _⟩
  case round =>
    obtain ⟨k, hk, rfl, hall, hB⟩ := hrel
    have Hall := Lib.hid hall
    clear hall
    have g5 := Hg.out wr hB
    have glr := Nat.lt_of_lt_of_le gl hB.size
    have hRw := hR.trans (hB.mono hR.size)
    by_cases hlt : k < m
    · have hki : decide ((k : Int) < 2) = true := by have hm := Hm.out; rw [decide_eq_true_iff]; omega
      cases d with
      | zero =>
        obtain ⟨b, o, r, e, hA, hbl, _, he, hl, hp, hc⟩ := LsAt.get (Hl.out wr hRw) hlt
        exact hp.elim
      | succ d =>
        obtain ⟨b, o, x, A2, m2, c2, rfl, hbl, hx, hc0, hc1, hc2, hc3, hc4, hc5, hp, _⟩ := ExsAt.get (Hl.out wr hRw) hlt
        have Hx := Lib.hid hx
        clear hx
        obtain ⟨q, Hq⟩ : ∃ q, Hid (builtE (d + 1) x = q) := ⟨_, rfl⟩
        have hcall := ih x _ wr hp
        rw [Hq.out] at hcall
        have Hc := Lib.hid hcall
        clear hcall
        cases q
        · go_wp2_with (go_at_call 8; refine Hc.out.mono ?_; rintro y w9 ⟨rfl, hb9⟩)
          go_ret
          have hno : args.all (builtE (d + 1)) = false := by rw [List.all_eq_false]; exact ⟨x, List.mem_of_getElem? Hx.out, by rw [Hq.out]; simp⟩
          exact ⟨ret_bool (by rw [Hfin.out, hno]; rfl), hRw.trans (hb9.mono hRw.size)⟩
        · have Hnx := Lib.hid (mem_take_succ Hx.out Hall.out Hq.out)
          go_wp2_with (go_at_call 8; refine Hc.out.mono ?_; rintro y w9 ⟨rfl, hb9⟩)
          go_roundw
          case rel => exact ⟨k + 1, by omega, by go_num, Hnx.out, hB.trans (hb9.mono hB.size)⟩
          case measure => simp [intOf]; omega
    · have hki : decide ((k : Int) < 2) = false := by have hm := Hm.out; rw [decide_eq_false_iff_not]; omega
      go_wp2
      go_ret
      have h1 := Hall.out
      rw [List.take_of_length_le (by rw [Ha.out]; omega)] at h1
      have hyes : args.all (builtE d) = true := by rw [List.all_eq_true]; exact h1
      exact ⟨ret_bool (by rw [Hfin.out, hyes]; rfl), hRw⟩

set_option maxRecDepth 100000 in
set_option maxHeartbeats 4000000 in
theorem rbuilt_19_0  (n : Int) (s name src : ByteArray) (A : Option Addr) (m c : Nat) (args : List Ex) (w : World) (d : Nat) (ha : args.length = m) (t0 : decide (n = 0) = false) :
    Calls Tryd.prog 8 #[.agg #[.int .i64 19, .int .i64 n, .string s, .string name, .string src, .slice A m c]] w fun x w' => x = .returned (.bool (headR 19 n s name src args.length && args.all (builtE d))) ∧ Below w.heap.size w w' := by
  have hfin : headR 19 n s name src args.length = false := by
    rw [ha, headR_19 ]
    simp [t0]
  have Hfin := Lib.hid hfin
  clear hfin
  have t0b : (n == 0) = false := by simpa using t0
  have t0c : (n != 0) = true := by simpa using t0
  clear t0
  obtain ⟨w2, Hw2⟩ : ∃ w2, Hid (w2 = (w.alloc (.cells #[.int .i64 19, .int .i64 n, .string s, .string name, .string src, .slice A m c] 35)).alloc (.cells #[.int .i64 19, .int .i64 0, .string { data := #[] }, .string { data := #[] }, .string { data := #[] }, .slice none 0 0] 35)) := ⟨_, rfl⟩
  have hR : Below w.heap.size w w2 := by rw [Hw2.out]; exact ((Below.refl _ _).alloc (Nat.le_refl _) _).alloc (by simp) _
  have he2 : IsBlk w2 w.heap.size 35 #[.int .i64 19, .int .i64 n, .string s, .string name, .string src, .slice A m c] := by rw [Hw2.out]; exact (IsBlk.laid _ _ _).alloc _
  have hw2 : IsBlk w2 (w.heap.size + 1) 35 #[.int .i64 19, .int .i64 0, .string { data := #[] }, .string { data := #[] }, .string { data := #[] }, .slice none 0 0] := by rw [Hw2.out]; exact laid_at (by simp) _ _
  obtain ⟨x0, x1, x2, x3, x4, x5, xl⟩ := exBox he2
  obtain ⟨y0, y1, y2, y3, y4, y5, hlw⟩ := exBox hw2
  have hfz := hw2.frozen
  have hA5 := x5
  clear he2 hw2
  clear ha
  go_enter Tryd.func8, Tryd.ntmps8
  go_upto_region 2 with (fail)
  rw [← Hw2.out]
  go_wp2_with (first | fail)
  all_goals
    go_ret
    exact ⟨ret_bool (by rw [Hfin.out]; simp), by repeat (first | exact hR | refine Below.setCell ?_ (by simp) _)⟩

set_option maxRecDepth 100000 in
set_option maxHeartbeats 4000000 in
theorem rbuilt_19_1  (n : Int) (s name src : ByteArray) (A : Option Addr) (m c : Nat) (args : List Ex) (w : World) (d : Nat) (ha : args.length = m) (t0 : decide (n = 0) = true) (t1 : noS s = false) :
    Calls Tryd.prog 8 #[.agg #[.int .i64 19, .int .i64 n, .string s, .string name, .string src, .slice A m c]] w fun x w' => x = .returned (.bool (headR 19 n s name src args.length && args.all (builtE d))) ∧ Below w.heap.size w w' := by
  have hfin : headR 19 n s name src args.length = false := by
    rw [ha, headR_19 ]
    simp [t0, t1]
  have Hfin := Lib.hid hfin
  clear hfin
  have t0b : (n == 0) = true := by simpa using t0
  have t0c : (n != 0) = false := by simpa using t0
  clear t0
  replace t1 := str_some t1
  have t1b : (s.toList == []) = false := by cases hq : s.toList <;> simp_all
  have t1c : (s.toList != []) = true := by cases hq : s.toList <;> simp_all
  obtain ⟨w2, Hw2⟩ : ∃ w2, Hid (w2 = (w.alloc (.cells #[.int .i64 19, .int .i64 n, .string s, .string name, .string src, .slice A m c] 35)).alloc (.cells #[.int .i64 19, .int .i64 0, .string { data := #[] }, .string { data := #[] }, .string { data := #[] }, .slice none 0 0] 35)) := ⟨_, rfl⟩
  have hR : Below w.heap.size w w2 := by rw [Hw2.out]; exact ((Below.refl _ _).alloc (Nat.le_refl _) _).alloc (by simp) _
  have he2 : IsBlk w2 w.heap.size 35 #[.int .i64 19, .int .i64 n, .string s, .string name, .string src, .slice A m c] := by rw [Hw2.out]; exact (IsBlk.laid _ _ _).alloc _
  have hw2 : IsBlk w2 (w.heap.size + 1) 35 #[.int .i64 19, .int .i64 0, .string { data := #[] }, .string { data := #[] }, .string { data := #[] }, .slice none 0 0] := by rw [Hw2.out]; exact laid_at (by simp) _ _
  obtain ⟨x0, x1, x2, x3, x4, x5, xl⟩ := exBox he2
  obtain ⟨y0, y1, y2, y3, y4, y5, hlw⟩ := exBox hw2
  have hfz := hw2.frozen
  have hA5 := x5
  clear he2 hw2
  clear ha
  go_enter Tryd.func8, Tryd.ntmps8
  go_upto_region 2 with (fail)
  rw [← Hw2.out]
  go_wp2_with (first | fail)
  all_goals
    go_ret
    exact ⟨ret_bool (by rw [Hfin.out]; simp), by repeat (first | exact hR | refine Below.setCell ?_ (by simp) _)⟩

set_option maxRecDepth 100000 in
set_option maxHeartbeats 4000000 in
theorem rbuilt_19_2  (n : Int) (s name src : ByteArray) (A : Option Addr) (m c : Nat) (args : List Ex) (w : World) (d : Nat) (ha : args.length = m) (t0 : decide (n = 0) = true) (t1 : noS s = true) (t2 : noS name = false) :
    Calls Tryd.prog 8 #[.agg #[.int .i64 19, .int .i64 n, .string s, .string name, .string src, .slice A m c]] w fun x w' => x = .returned (.bool (headR 19 n s name src args.length && args.all (builtE d))) ∧ Below w.heap.size w w' := by
  have hfin : headR 19 n s name src args.length = false := by
    rw [ha, headR_19 ]
    simp [t0, t1, t2]
  have Hfin := Lib.hid hfin
  clear hfin
  have t0b : (n == 0) = true := by simpa using t0
  have t0c : (n != 0) = false := by simpa using t0
  clear t0
  replace t1 := str_empty t1
  replace t2 := str_some t2
  have t2b : (name.toList == []) = false := by cases hq : name.toList <;> simp_all
  have t2c : (name.toList != []) = true := by cases hq : name.toList <;> simp_all
  obtain ⟨w2, Hw2⟩ : ∃ w2, Hid (w2 = (w.alloc (.cells #[.int .i64 19, .int .i64 n, .string s, .string name, .string src, .slice A m c] 35)).alloc (.cells #[.int .i64 19, .int .i64 0, .string { data := #[] }, .string { data := #[] }, .string { data := #[] }, .slice none 0 0] 35)) := ⟨_, rfl⟩
  have hR : Below w.heap.size w w2 := by rw [Hw2.out]; exact ((Below.refl _ _).alloc (Nat.le_refl _) _).alloc (by simp) _
  have he2 : IsBlk w2 w.heap.size 35 #[.int .i64 19, .int .i64 n, .string s, .string name, .string src, .slice A m c] := by rw [Hw2.out]; exact (IsBlk.laid _ _ _).alloc _
  have hw2 : IsBlk w2 (w.heap.size + 1) 35 #[.int .i64 19, .int .i64 0, .string { data := #[] }, .string { data := #[] }, .string { data := #[] }, .slice none 0 0] := by rw [Hw2.out]; exact laid_at (by simp) _ _
  obtain ⟨x0, x1, x2, x3, x4, x5, xl⟩ := exBox he2
  obtain ⟨y0, y1, y2, y3, y4, y5, hlw⟩ := exBox hw2
  have hfz := hw2.frozen
  have hA5 := x5
  clear he2 hw2
  clear ha
  go_enter Tryd.func8, Tryd.ntmps8
  go_upto_region 2 with (fail)
  rw [← Hw2.out]
  go_wp2_with (first | fail)
  all_goals
    go_ret
    exact ⟨ret_bool (by rw [Hfin.out]; simp), by repeat (first | exact hR | refine Below.setCell ?_ (by simp) _)⟩

set_option maxRecDepth 100000 in
set_option maxHeartbeats 4000000 in
theorem rbuilt_19_3  (n : Int) (s name src : ByteArray) (A : Option Addr) (m c : Nat) (args : List Ex) (w : World) (d : Nat) (ha : args.length = m) (t0 : decide (n = 0) = true) (t1 : noS s = true) (t2 : noS name = true) (t3 : noS src = false) :
    Calls Tryd.prog 8 #[.agg #[.int .i64 19, .int .i64 n, .string s, .string name, .string src, .slice A m c]] w fun x w' => x = .returned (.bool (headR 19 n s name src args.length && args.all (builtE d))) ∧ Below w.heap.size w w' := by
  have hfin : headR 19 n s name src args.length = false := by
    rw [ha, headR_19 ]
    simp [t0, t1, t2, t3]
  have Hfin := Lib.hid hfin
  clear hfin
  have t0b : (n == 0) = true := by simpa using t0
  have t0c : (n != 0) = false := by simpa using t0
  clear t0
  replace t1 := str_empty t1
  replace t2 := str_empty t2
  replace t3 := str_some t3
  have t3b : (src.toList == []) = false := by cases hq : src.toList <;> simp_all
  have t3c : (src.toList != []) = true := by cases hq : src.toList <;> simp_all
  obtain ⟨w2, Hw2⟩ : ∃ w2, Hid (w2 = (w.alloc (.cells #[.int .i64 19, .int .i64 n, .string s, .string name, .string src, .slice A m c] 35)).alloc (.cells #[.int .i64 19, .int .i64 0, .string { data := #[] }, .string { data := #[] }, .string { data := #[] }, .slice none 0 0] 35)) := ⟨_, rfl⟩
  have hR : Below w.heap.size w w2 := by rw [Hw2.out]; exact ((Below.refl _ _).alloc (Nat.le_refl _) _).alloc (by simp) _
  have he2 : IsBlk w2 w.heap.size 35 #[.int .i64 19, .int .i64 n, .string s, .string name, .string src, .slice A m c] := by rw [Hw2.out]; exact (IsBlk.laid _ _ _).alloc _
  have hw2 : IsBlk w2 (w.heap.size + 1) 35 #[.int .i64 19, .int .i64 0, .string { data := #[] }, .string { data := #[] }, .string { data := #[] }, .slice none 0 0] := by rw [Hw2.out]; exact laid_at (by simp) _ _
  obtain ⟨x0, x1, x2, x3, x4, x5, xl⟩ := exBox he2
  obtain ⟨y0, y1, y2, y3, y4, y5, hlw⟩ := exBox hw2
  have hfz := hw2.frozen
  have hA5 := x5
  clear he2 hw2
  clear ha
  go_enter Tryd.func8, Tryd.ntmps8
  go_upto_region 2 with (fail)
  rw [← Hw2.out]
  go_wp2_with (first | fail)
  all_goals
    go_ret
    exact ⟨ret_bool (by rw [Hfin.out]; simp), by repeat (first | exact hR | refine Below.setCell ?_ (by simp) _)⟩

set_option maxRecDepth 100000 in
set_option maxHeartbeats 4000000 in
theorem rbuilt_19_4  (n : Int) (s name src : ByteArray) (A : Option Addr) (m c : Nat) (args : List Ex) (w : World) (d : Nat) (ha : args.length = m) (t0 : decide (n = 0) = true) (t1 : noS s = true) (t2 : noS name = true) (t3 : noS src = true) (t4 : decide (m = 1) = false) :
    Calls Tryd.prog 8 #[.agg #[.int .i64 19, .int .i64 n, .string s, .string name, .string src, .slice A m c]] w fun x w' => x = .returned (.bool (headR 19 n s name src args.length && args.all (builtE d))) ∧ Below w.heap.size w w' := by
  have hfin : headR 19 n s name src args.length = false := by
    rw [ha, headR_19 ]
    simp [t0, t1, t2, t3, t4]
  have Hfin := Lib.hid hfin
  clear hfin
  have t0b : (n == 0) = true := by simpa using t0
  have t0c : (n != 0) = false := by simpa using t0
  clear t0
  replace t1 := str_empty t1
  replace t2 := str_empty t2
  replace t3 := str_empty t3
  have t4c : ((m : Int) != 1) = true := by simp at t4 ⊢; omega
  clear t4
  obtain ⟨w2, Hw2⟩ : ∃ w2, Hid (w2 = (w.alloc (.cells #[.int .i64 19, .int .i64 n, .string s, .string name, .string src, .slice A m c] 35)).alloc (.cells #[.int .i64 19, .int .i64 0, .string { data := #[] }, .string { data := #[] }, .string { data := #[] }, .slice none 0 0] 35)) := ⟨_, rfl⟩
  have hR : Below w.heap.size w w2 := by rw [Hw2.out]; exact ((Below.refl _ _).alloc (Nat.le_refl _) _).alloc (by simp) _
  have he2 : IsBlk w2 w.heap.size 35 #[.int .i64 19, .int .i64 n, .string s, .string name, .string src, .slice A m c] := by rw [Hw2.out]; exact (IsBlk.laid _ _ _).alloc _
  have hw2 : IsBlk w2 (w.heap.size + 1) 35 #[.int .i64 19, .int .i64 0, .string { data := #[] }, .string { data := #[] }, .string { data := #[] }, .slice none 0 0] := by rw [Hw2.out]; exact laid_at (by simp) _ _
  obtain ⟨x0, x1, x2, x3, x4, x5, xl⟩ := exBox he2
  obtain ⟨y0, y1, y2, y3, y4, y5, hlw⟩ := exBox hw2
  have hfz := hw2.frozen
  have hA5 := x5
  clear he2 hw2
  clear ha
  go_enter Tryd.func8, Tryd.ntmps8
  go_upto_region 2 with (fail)
  rw [← Hw2.out]
  go_wp2_with (first | fail)
  all_goals
    go_ret
    exact ⟨ret_bool (by rw [Hfin.out]; simp), by repeat (first | exact hR | refine Below.setCell ?_ (by simp) _)⟩

set_option maxRecDepth 100000 in
set_option maxHeartbeats 4000000 in
theorem rbuilt_19_5  (n : Int) (s name src : ByteArray) (A : Option Addr) (m c : Nat) (args : List Ex) (w : World) (F : Nat → Prop) (d : Nat) (ih : RBuilts F d) (hl : ExsAt F d w A m c args) (ha : args.length = m) (t0 : decide (n = 0) = true) (t1 : noS s = true) (t2 : noS name = true) (t3 : noS src = true) (t4 : decide (m = 1) = true) :
    Calls Tryd.prog 8 #[.agg #[.int .i64 19, .int .i64 n, .string s, .string name, .string src, .slice A m c]] w fun x w' => x = .returned (.bool (headR 19 n s name src args.length && args.all (builtE d))) ∧ Below w.heap.size w w' := by
  have hfin : headR 19 n s name src args.length = true := by
    rw [ha, headR_19 ]
    simp [t0, t1, t2, t3, t4]
  have Hfin := Lib.hid hfin
  clear hfin
  have t0b : (n == 0) = true := by simpa using t0
  have t0c : (n != 0) = false := by simpa using t0
  clear t0
  replace t1 := str_empty t1
  replace t2 := str_empty t2
  replace t3 := str_empty t3
  have t4b : m = 1 := by simpa using t4
  have hmb : m ≤ 1000 := by omega
  have Hm := Lib.hid t4b
  have t4c : ((m : Int) != 1) = false := by simp; omega
  clear t4b t4
  obtain ⟨w2, Hw2⟩ : ∃ w2, Hid (w2 = (w.alloc (.cells #[.int .i64 19, .int .i64 n, .string s, .string name, .string src, .slice A m c] 35)).alloc (.cells #[.int .i64 19, .int .i64 0, .string { data := #[] }, .string { data := #[] }, .string { data := #[] }, .slice none 0 0] 35)) := ⟨_, rfl⟩
  have hR : Below w.heap.size w w2 := by rw [Hw2.out]; exact ((Below.refl _ _).alloc (Nat.le_refl _) _).alloc (by simp) _
  have he2 : IsBlk w2 w.heap.size 35 #[.int .i64 19, .int .i64 n, .string s, .string name, .string src, .slice A m c] := by rw [Hw2.out]; exact (IsBlk.laid _ _ _).alloc _
  have hw2 : IsBlk w2 (w.heap.size + 1) 35 #[.int .i64 19, .int .i64 0, .string { data := #[] }, .string { data := #[] }, .string { data := #[] }, .slice none 0 0] := by rw [Hw2.out]; exact laid_at (by simp) _ _
  obtain ⟨x0, x1, x2, x3, x4, x5, xl⟩ := exBox he2
  obtain ⟨y0, y1, y2, y3, y4, y5, hlw⟩ := exBox hw2
  have hfz := hw2.frozen
  have hA5 := x5
  clear he2 hw2
  have Hl := Lib.hid (fun W (hW : Below w.heap.size w W) => ExsAt.below hl hW)
  have Ha := Lib.hid ha
  clear ha hl
  go_enter Tryd.func8, Tryd.ntmps8
  go_upto_region 2 with (fail)
  rw [← Hw2.out]
  go_wp2_with (first | fail)
  obtain ⟨g5, gl⟩ : w2.cell? ⟨w.heap.size, 5, none⟩ = some (.slice A m c) ∧ w.heap.size < w2.heap.size := ⟨hA5, by omega⟩
  have Hg := Lib.hid (fun W (hW : Below w2.heap.size w2 W) => (hW.cell (p := ⟨w.heap.size, 5, none⟩) gl).trans g5)
  clear g5 hA5 x0 x1 x2 x3 x4 x5 y0 y1 y2 y3 y4 y5
  go_loopw [5] (fun i wr => ∃ k : Nat, k ≤ m ∧ i = .int .i64 k ∧ (∀ y ∈ args.take k, builtE d y = true) ∧ Below w2.heap.size w2 wr) (fun i _ => m - (intOf i).toNat)
  case atStart => exact ⟨0, Nat.zero_le _, rfl, by simp, Below.refl _ _⟩
  case round =>
    obtain ⟨k, hk, rfl, hall, hB⟩ := hrel
    have Hall := Lib.hid hall
    clear hall
    have g5 := Hg.out wr hB
    have glr := Nat.lt_of_lt_of_le gl hB.size
    have hRw := hR.trans (hB.mono hR.size)
    by_cases hlt : k < m
    · have hki : decide ((k : Int) < 1) = true := by have hm := Hm.out; rw [decide_eq_true_iff]; omega
      cases d with
      | zero =>
        obtain ⟨b, o, r, e, hA, hbl, _, he, hl, hp, hc⟩ := LsAt.get (Hl.out wr hRw) hlt
        exact hp.elim
      | succ d =>
        obtain ⟨b, o, x, A2, m2, c2, rfl, hbl, hx, hc0, hc1, hc2, hc3, hc4, hc5, hp, _⟩ := ExsAt.get (Hl.out wr hRw) hlt
        have Hx := Lib.hid hx
        clear hx
        obtain ⟨q, Hq⟩ : ∃ q, Hid (builtE (d + 1) x = q) := ⟨_, rfl⟩
        have hcall := ih x _ wr hp
        rw [Hq.out] at hcall
        have Hc := Lib.hid hcall
        clear hcall
        cases q
        · go_wp2_with (go_at_call 8; refine Hc.out.mono ?_; rintro y w9 ⟨rfl, hb9⟩)
          go_ret
          have hno : args.all (builtE (d + 1)) = false := by rw [List.all_eq_false]; exact ⟨x, List.mem_of_getElem? Hx.out, by rw [Hq.out]; simp⟩
          exact ⟨ret_bool (by rw [Hfin.out, hno]; rfl), hRw.trans (hb9.mono hRw.size)⟩
        · have Hnx := Lib.hid (mem_take_succ Hx.out Hall.out Hq.out)
          go_wp2_with (go_at_call 8; refine Hc.out.mono ?_; rintro y w9 ⟨rfl, hb9⟩)
          go_roundw
          case rel => exact ⟨k + 1, by omega, by go_num, Hnx.out, hB.trans (hb9.mono hB.size)⟩
          case measure => simp [intOf]; omega
    · have hki : decide ((k : Int) < 1) = false := by have hm := Hm.out; rw [decide_eq_false_iff_not]; omega
      go_wp2
      go_ret
      have h1 := Hall.out
      rw [List.take_of_length_le (by rw [Ha.out]; omega)] at h1
      have hyes : args.all (builtE d) = true := by rw [List.all_eq_true]; exact h1
      exact ⟨ret_bool (by rw [Hfin.out, hyes]; rfl), hRw⟩

set_option maxRecDepth 100000 in
set_option maxHeartbeats 4000000 in
theorem rbuilt_20_0  (n : Int) (s name src : ByteArray) (A : Option Addr) (m c : Nat) (args : List Ex) (w : World) (d : Nat) (ha : args.length = m) (t0 : decide (n = 0) = false) :
    Calls Tryd.prog 8 #[.agg #[.int .i64 20, .int .i64 n, .string s, .string name, .string src, .slice A m c]] w fun x w' => x = .returned (.bool (headR 20 n s name src args.length && args.all (builtE d))) ∧ Below w.heap.size w w' := by
  have hfin : headR 20 n s name src args.length = false := by
    rw [ha, headR_20 ]
    simp [t0]
  have Hfin := Lib.hid hfin
  clear hfin
  have t0b : (n == 0) = false := by simpa using t0
  have t0c : (n != 0) = true := by simpa using t0
  clear t0
  obtain ⟨w2, Hw2⟩ : ∃ w2, Hid (w2 = (w.alloc (.cells #[.int .i64 20, .int .i64 n, .string s, .string name, .string src, .slice A m c] 35)).alloc (.cells #[.int .i64 20, .int .i64 0, .string { data := #[] }, .string { data := #[] }, .string { data := #[] }, .slice none 0 0] 35)) := ⟨_, rfl⟩
  have hR : Below w.heap.size w w2 := by rw [Hw2.out]; exact ((Below.refl _ _).alloc (Nat.le_refl _) _).alloc (by simp) _
  have he2 : IsBlk w2 w.heap.size 35 #[.int .i64 20, .int .i64 n, .string s, .string name, .string src, .slice A m c] := by rw [Hw2.out]; exact (IsBlk.laid _ _ _).alloc _
  have hw2 : IsBlk w2 (w.heap.size + 1) 35 #[.int .i64 20, .int .i64 0, .string { data := #[] }, .string { data := #[] }, .string { data := #[] }, .slice none 0 0] := by rw [Hw2.out]; exact laid_at (by simp) _ _
  obtain ⟨x0, x1, x2, x3, x4, x5, xl⟩ := exBox he2
  obtain ⟨y0, y1, y2, y3, y4, y5, hlw⟩ := exBox hw2
  have hfz := hw2.frozen
  have hA5 := x5
  clear he2 hw2
  clear ha
  go_enter Tryd.func8, Tryd.ntmps8
  go_upto_region 2 with (fail)
  rw [← Hw2.out]
  go_wp2_with (first | fail)
  all_goals
    go_ret
    exact ⟨ret_bool (by rw [Hfin.out]; simp), by repeat (first | exact hR | refine Below.setCell ?_ (by simp) _)⟩

set_option maxRecDepth 100000 in
set_option maxHeartbeats 4000000 in
theorem rbuilt_20_1  (n : Int) (s name src : ByteArray) (A : Option Addr) (m c : Nat) (args : List Ex) (w : World) (d : Nat) (ha : args.length = m) (t0 : decide (n = 0) = true) (t1 : noS s = false) :
    Calls Tryd.prog 8 #[.agg #[.int .i64 20, .int .i64 n, .string s, .string name, .string src, .slice A m c]] w fun x w' => x = .returned (.bool (headR 20 n s name src args.length && args.all (builtE d))) ∧ Below w.heap.size w w' := by
  have hfin : headR 20 n s name src args.length = false := by
    rw [ha, headR_20 ]
    simp [t0, t1]
  have Hfin := Lib.hid hfin
  clear hfin
  have t0b : (n == 0) = true := by simpa using t0
  have t0c : (n != 0) = false := by simpa using t0
  clear t0
  replace t1 := str_some t1
  have t1b : (s.toList == []) = false := by cases hq : s.toList <;> simp_all
  have t1c : (s.toList != []) = true := by cases hq : s.toList <;> simp_all
  obtain ⟨w2, Hw2⟩ : ∃ w2, Hid (w2 = (w.alloc (.cells #[.int .i64 20, .int .i64 n, .string s, .string name, .string src, .slice A m c] 35)).alloc (.cells #[.int .i64 20, .int .i64 0, .string { data := #[] }, .string { data := #[] }, .string { data := #[] }, .slice none 0 0] 35)) := ⟨_, rfl⟩
  have hR : Below w.heap.size w w2 := by rw [Hw2.out]; exact ((Below.refl _ _).alloc (Nat.le_refl _) _).alloc (by simp) _
  have he2 : IsBlk w2 w.heap.size 35 #[.int .i64 20, .int .i64 n, .string s, .string name, .string src, .slice A m c] := by rw [Hw2.out]; exact (IsBlk.laid _ _ _).alloc _
  have hw2 : IsBlk w2 (w.heap.size + 1) 35 #[.int .i64 20, .int .i64 0, .string { data := #[] }, .string { data := #[] }, .string { data := #[] }, .slice none 0 0] := by rw [Hw2.out]; exact laid_at (by simp) _ _
  obtain ⟨x0, x1, x2, x3, x4, x5, xl⟩ := exBox he2
  obtain ⟨y0, y1, y2, y3, y4, y5, hlw⟩ := exBox hw2
  have hfz := hw2.frozen
  have hA5 := x5
  clear he2 hw2
  clear ha
  go_enter Tryd.func8, Tryd.ntmps8
  go_upto_region 2 with (fail)
  rw [← Hw2.out]
  go_wp2_with (first | fail)
  all_goals
    go_ret
    exact ⟨ret_bool (by rw [Hfin.out]; simp), by repeat (first | exact hR | refine Below.setCell ?_ (by simp) _)⟩

set_option maxRecDepth 100000 in
set_option maxHeartbeats 4000000 in
theorem rbuilt_20_2  (n : Int) (s name src : ByteArray) (A : Option Addr) (m c : Nat) (args : List Ex) (w : World) (d : Nat) (ha : args.length = m) (t0 : decide (n = 0) = true) (t1 : noS s = true) (t2 : noS name = false) :
    Calls Tryd.prog 8 #[.agg #[.int .i64 20, .int .i64 n, .string s, .string name, .string src, .slice A m c]] w fun x w' => x = .returned (.bool (headR 20 n s name src args.length && args.all (builtE d))) ∧ Below w.heap.size w w' := by
  have hfin : headR 20 n s name src args.length = false := by
    rw [ha, headR_20 ]
    simp [t0, t1, t2]
  have Hfin := Lib.hid hfin
  clear hfin
  have t0b : (n == 0) = true := by simpa using t0
  have t0c : (n != 0) = false := by simpa using t0
  clear t0
  replace t1 := str_empty t1
  replace t2 := str_some t2
  have t2b : (name.toList == []) = false := by cases hq : name.toList <;> simp_all
  have t2c : (name.toList != []) = true := by cases hq : name.toList <;> simp_all
  obtain ⟨w2, Hw2⟩ : ∃ w2, Hid (w2 = (w.alloc (.cells #[.int .i64 20, .int .i64 n, .string s, .string name, .string src, .slice A m c] 35)).alloc (.cells #[.int .i64 20, .int .i64 0, .string { data := #[] }, .string { data := #[] }, .string { data := #[] }, .slice none 0 0] 35)) := ⟨_, rfl⟩
  have hR : Below w.heap.size w w2 := by rw [Hw2.out]; exact ((Below.refl _ _).alloc (Nat.le_refl _) _).alloc (by simp) _
  have he2 : IsBlk w2 w.heap.size 35 #[.int .i64 20, .int .i64 n, .string s, .string name, .string src, .slice A m c] := by rw [Hw2.out]; exact (IsBlk.laid _ _ _).alloc _
  have hw2 : IsBlk w2 (w.heap.size + 1) 35 #[.int .i64 20, .int .i64 0, .string { data := #[] }, .string { data := #[] }, .string { data := #[] }, .slice none 0 0] := by rw [Hw2.out]; exact laid_at (by simp) _ _
  obtain ⟨x0, x1, x2, x3, x4, x5, xl⟩ := exBox he2
  obtain ⟨y0, y1, y2, y3, y4, y5, hlw⟩ := exBox hw2
  have hfz := hw2.frozen
  have hA5 := x5
  clear he2 hw2
  clear ha
  go_enter Tryd.func8, Tryd.ntmps8
  go_upto_region 2 with (fail)
  rw [← Hw2.out]
  go_wp2_with (first | fail)
  all_goals
    go_ret
    exact ⟨ret_bool (by rw [Hfin.out]; simp), by repeat (first | exact hR | refine Below.setCell ?_ (by simp) _)⟩

set_option maxRecDepth 100000 in
set_option maxHeartbeats 4000000 in
theorem rbuilt_20_3  (n : Int) (s name src : ByteArray) (A : Option Addr) (m c : Nat) (args : List Ex) (w : World) (d : Nat) (ha : args.length = m) (t0 : decide (n = 0) = true) (t1 : noS s = true) (t2 : noS name = true) (t3 : noS src = false) :
    Calls Tryd.prog 8 #[.agg #[.int .i64 20, .int .i64 n, .string s, .string name, .string src, .slice A m c]] w fun x w' => x = .returned (.bool (headR 20 n s name src args.length && args.all (builtE d))) ∧ Below w.heap.size w w' := by
  have hfin : headR 20 n s name src args.length = false := by
    rw [ha, headR_20 ]
    simp [t0, t1, t2, t3]
  have Hfin := Lib.hid hfin
  clear hfin
  have t0b : (n == 0) = true := by simpa using t0
  have t0c : (n != 0) = false := by simpa using t0
  clear t0
  replace t1 := str_empty t1
  replace t2 := str_empty t2
  replace t3 := str_some t3
  have t3b : (src.toList == []) = false := by cases hq : src.toList <;> simp_all
  have t3c : (src.toList != []) = true := by cases hq : src.toList <;> simp_all
  obtain ⟨w2, Hw2⟩ : ∃ w2, Hid (w2 = (w.alloc (.cells #[.int .i64 20, .int .i64 n, .string s, .string name, .string src, .slice A m c] 35)).alloc (.cells #[.int .i64 20, .int .i64 0, .string { data := #[] }, .string { data := #[] }, .string { data := #[] }, .slice none 0 0] 35)) := ⟨_, rfl⟩
  have hR : Below w.heap.size w w2 := by rw [Hw2.out]; exact ((Below.refl _ _).alloc (Nat.le_refl _) _).alloc (by simp) _
  have he2 : IsBlk w2 w.heap.size 35 #[.int .i64 20, .int .i64 n, .string s, .string name, .string src, .slice A m c] := by rw [Hw2.out]; exact (IsBlk.laid _ _ _).alloc _
  have hw2 : IsBlk w2 (w.heap.size + 1) 35 #[.int .i64 20, .int .i64 0, .string { data := #[] }, .string { data := #[] }, .string { data := #[] }, .slice none 0 0] := by rw [Hw2.out]; exact laid_at (by simp) _ _
  obtain ⟨x0, x1, x2, x3, x4, x5, xl⟩ := exBox he2
  obtain ⟨y0, y1, y2, y3, y4, y5, hlw⟩ := exBox hw2
  have hfz := hw2.frozen
  have hA5 := x5
  clear he2 hw2
  clear ha
  go_enter Tryd.func8, Tryd.ntmps8
  go_upto_region 2 with (fail)
  rw [← Hw2.out]
  go_wp2_with (first | fail)
  all_goals
    go_ret
    exact ⟨ret_bool (by rw [Hfin.out]; simp), by repeat (first | exact hR | refine Below.setCell ?_ (by simp) _)⟩

set_option maxRecDepth 100000 in
set_option maxHeartbeats 4000000 in
theorem rbuilt_20_4  (n : Int) (s name src : ByteArray) (A : Option Addr) (m c : Nat) (args : List Ex) (w : World) (d : Nat) (ha : args.length = m) (t0 : decide (n = 0) = true) (t1 : noS s = true) (t2 : noS name = true) (t3 : noS src = true) (t4 : decide (m = 1) = false) :
    Calls Tryd.prog 8 #[.agg #[.int .i64 20, .int .i64 n, .string s, .string name, .string src, .slice A m c]] w fun x w' => x = .returned (.bool (headR 20 n s name src args.length && args.all (builtE d))) ∧ Below w.heap.size w w' := by
  have hfin : headR 20 n s name src args.length = false := by
    rw [ha, headR_20 ]
    simp [t0, t1, t2, t3, t4]
  have Hfin := Lib.hid hfin
  clear hfin
  have t0b : (n == 0) = true := by simpa using t0
  have t0c : (n != 0) = false := by simpa using t0
  clear t0
  replace t1 := str_empty t1
  replace t2 := str_empty t2
  replace t3 := str_empty t3
  have t4c : ((m : Int) != 1) = true := by simp at t4 ⊢; omega
  clear t4
  obtain ⟨w2, Hw2⟩ : ∃ w2, Hid (w2 = (w.alloc (.cells #[.int .i64 20, .int .i64 n, .string s, .string name, .string src, .slice A m c] 35)).alloc (.cells #[.int .i64 20, .int .i64 0, .string { data := #[] }, .string { data := #[] }, .string { data := #[] }, .slice none 0 0] 35)) := ⟨_, rfl⟩
  have hR : Below w.heap.size w w2 := by rw [Hw2.out]; exact ((Below.refl _ _).alloc (Nat.le_refl _) _).alloc (by simp) _
  have he2 : IsBlk w2 w.heap.size 35 #[.int .i64 20, .int .i64 n, .string s, .string name, .string src, .slice A m c] := by rw [Hw2.out]; exact (IsBlk.laid _ _ _).alloc _
  have hw2 : IsBlk w2 (w.heap.size + 1) 35 #[.int .i64 20, .int .i64 0, .string { data := #[] }, .string { data := #[] }, .string { data := #[] }, .slice none 0 0] := by rw [Hw2.out]; exact laid_at (by simp) _ _
  obtain ⟨x0, x1, x2, x3, x4, x5, xl⟩ := exBox he2
  obtain ⟨y0, y1, y2, y3, y4, y5, hlw⟩ := exBox hw2
  have hfz := hw2.frozen
  have hA5 := x5
  clear he2 hw2
  clear ha
  go_enter Tryd.func8, Tryd.ntmps8
  go_upto_region 2 with (fail)
  rw [← Hw2.out]
  go_wp2_with (first | fail)
  all_goals
    go_ret
    exact ⟨ret_bool (by rw [Hfin.out]; simp), by repeat (first | exact hR | refine Below.setCell ?_ (by simp) _)⟩

set_option maxRecDepth 100000 in
set_option maxHeartbeats 4000000 in
theorem rbuilt_20_5  (n : Int) (s name src : ByteArray) (A : Option Addr) (m c : Nat) (args : List Ex) (w : World) (F : Nat → Prop) (d : Nat) (ih : RBuilts F d) (hl : ExsAt F d w A m c args) (ha : args.length = m) (t0 : decide (n = 0) = true) (t1 : noS s = true) (t2 : noS name = true) (t3 : noS src = true) (t4 : decide (m = 1) = true) :
    Calls Tryd.prog 8 #[.agg #[.int .i64 20, .int .i64 n, .string s, .string name, .string src, .slice A m c]] w fun x w' => x = .returned (.bool (headR 20 n s name src args.length && args.all (builtE d))) ∧ Below w.heap.size w w' := by
  have hfin : headR 20 n s name src args.length = true := by
    rw [ha, headR_20 ]
    simp [t0, t1, t2, t3, t4]
  have Hfin := Lib.hid hfin
  clear hfin
  have t0b : (n == 0) = true := by simpa using t0
  have t0c : (n != 0) = false := by simpa using t0
  clear t0
  replace t1 := str_empty t1
  replace t2 := str_empty t2
  replace t3 := str_empty t3
  have t4b : m = 1 := by simpa using t4
  have hmb : m ≤ 1000 := by omega
  have Hm := Lib.hid t4b
  have t4c : ((m : Int) != 1) = false := by simp; omega
  clear t4b t4
  obtain ⟨w2, Hw2⟩ : ∃ w2, Hid (w2 = (w.alloc (.cells #[.int .i64 20, .int .i64 n, .string s, .string name, .string src, .slice A m c] 35)).alloc (.cells #[.int .i64 20, .int .i64 0, .string { data := #[] }, .string { data := #[] }, .string { data := #[] }, .slice none 0 0] 35)) := ⟨_, rfl⟩
  have hR : Below w.heap.size w w2 := by rw [Hw2.out]; exact ((Below.refl _ _).alloc (Nat.le_refl _) _).alloc (by simp) _
  have he2 : IsBlk w2 w.heap.size 35 #[.int .i64 20, .int .i64 n, .string s, .string name, .string src, .slice A m c] := by rw [Hw2.out]; exact (IsBlk.laid _ _ _).alloc _
  have hw2 : IsBlk w2 (w.heap.size + 1) 35 #[.int .i64 20, .int .i64 0, .string { data := #[] }, .string { data := #[] }, .string { data := #[] }, .slice none 0 0] := by rw [Hw2.out]; exact laid_at (by simp) _ _
  obtain ⟨x0, x1, x2, x3, x4, x5, xl⟩ := exBox he2
  obtain ⟨y0, y1, y2, y3, y4, y5, hlw⟩ := exBox hw2
  have hfz := hw2.frozen
  have hA5 := x5
  clear he2 hw2
  have Hl := Lib.hid (fun W (hW : Below w.heap.size w W) => ExsAt.below hl hW)
  have Ha := Lib.hid ha
  clear ha hl
  go_enter Tryd.func8, Tryd.ntmps8
  go_upto_region 2 with (fail)
  rw [← Hw2.out]
  go_wp2_with (first | fail)
  obtain ⟨g5, gl⟩ : w2.cell? ⟨w.heap.size, 5, none⟩ = some (.slice A m c) ∧ w.heap.size < w2.heap.size := ⟨hA5, by omega⟩
  have Hg := Lib.hid (fun W (hW : Below w2.heap.size w2 W) => (hW.cell (p := ⟨w.heap.size, 5, none⟩) gl).trans g5)
  clear g5 hA5 x0 x1 x2 x3 x4 x5 y0 y1 y2 y3 y4 y5
  go_loopw [5] (fun i wr => ∃ k : Nat, k ≤ m ∧ i = .int .i64 k ∧ (∀ y ∈ args.take k, builtE d y = true) ∧ Below w2.heap.size w2 wr) (fun i _ => m - (intOf i).toNat)
  case atStart => exact ⟨0, Nat.zero_le _, rfl, by simp, Below.refl _ _⟩
  case round =>
    obtain ⟨k, hk, rfl, hall, hB⟩ := hrel
    have Hall := Lib.hid hall
    clear hall
    have g5 := Hg.out wr hB
    have glr := Nat.lt_of_lt_of_le gl hB.size
    have hRw := hR.trans (hB.mono hR.size)
    by_cases hlt : k < m
    · have hki : decide ((k : Int) < 1) = true := by have hm := Hm.out; rw [decide_eq_true_iff]; omega
      cases d with
      | zero =>
        obtain ⟨b, o, r, e, hA, hbl, _, he, hl, hp, hc⟩ := LsAt.get (Hl.out wr hRw) hlt
        exact hp.elim
      | succ d =>
        obtain ⟨b, o, x, A2, m2, c2, rfl, hbl, hx, hc0, hc1, hc2, hc3, hc4, hc5, hp, _⟩ := ExsAt.get (Hl.out wr hRw) hlt
        have Hx := Lib.hid hx
        clear hx
        obtain ⟨q, Hq⟩ : ∃ q, Hid (builtE (d + 1) x = q) := ⟨_, rfl⟩
        have hcall := ih x _ wr hp
        rw [Hq.out] at hcall
        have Hc := Lib.hid hcall
        clear hcall
        cases q
        · go_wp2_with (go_at_call 8; refine Hc.out.mono ?_; rintro y w9 ⟨rfl, hb9⟩)
          go_ret
          have hno : args.all (builtE (d + 1)) = false := by rw [List.all_eq_false]; exact ⟨x, List.mem_of_getElem? Hx.out, by rw [Hq.out]; simp⟩
          exact ⟨ret_bool (by rw [Hfin.out, hno]; rfl), hRw.trans (hb9.mono hRw.size)⟩
        · have Hnx := Lib.hid (mem_take_succ Hx.out Hall.out Hq.out)
          go_wp2_with (go_at_call 8; refine Hc.out.mono ?_; rintro y w9 ⟨rfl, hb9⟩)
          go_roundw
          case rel => exact ⟨k + 1, by omega, by go_num, Hnx.out, hB.trans (hb9.mono hB.size)⟩
          case measure => simp [intOf]; omega
    · have hki : decide ((k : Int) < 1) = false := by have hm := Hm.out; rw [decide_eq_false_iff_not]; omega
      go_wp2
      go_ret
      have h1 := Hall.out
      rw [List.take_of_length_le (by rw [Ha.out]; omega)] at h1
      have hyes : args.all (builtE d) = true := by rw [List.all_eq_true]; exact h1
      exact ⟨ret_bool (by rw [Hfin.out, hyes]; rfl), hRw⟩
end Go.Proofs.YthiimingnmbgmaaDoor

/- Parts of this proof, one behind the other: RefE2. -/
import Derived.Test.YthiimingnmbgmaaDoorPe14
namespace Go.Proofs.YthiimingnmbgmaaDoor
open Go.RowKit Go.Afx

set_option maxRecDepth 100000 in
set_option maxHeartbeats 4000000 in
theorem rbuilt_4_0  (n : Int) (s name src : ByteArray) (A : Option Addr) (m c : Nat) (args : List Ex) (w : World) (d : Nat) (okn : okS name) (ha : args.length = m) (t0 : freeB name = false) :
    Calls Tryd.prog 8 #[.agg #[.int .i64 4, .int .i64 n, .string s, .string name, .string src, .slice A m c]] w fun x w' => x = .returned (.bool (headR 4 n s name src args.length && args.all (builtE d))) ∧ Below w.heap.size w w' := by
  have hfin : headR 4 n s name src args.length = false := by
    rw [ha, headR_4 ]
    simp [t0]
  have Hfin := Lib.hid hfin
  clear hfin
  have HF0 := Lib.hid (fun W => freeRef_any name W okn)
  rw [t0] at HF0
  clear t0
  obtain ⟨w2, Hw2⟩ : ∃ w2, Hid (w2 = (w.alloc (.cells #[.int .i64 4, .int .i64 n, .string s, .string name, .string src, .slice A m c] 35)).alloc (.cells #[.int .i64 4, .int .i64 0, .string { data := #[] }, .string { data := #[] }, .string { data := #[] }, .slice none 0 0] 35)) := ⟨_, rfl⟩
  have hR : Below w.heap.size w w2 := by rw [Hw2.out]; exact ((Below.refl _ _).alloc (Nat.le_refl _) _).alloc (by simp) _
  have he2 : IsBlk w2 w.heap.size 35 #[.int .i64 4, .int .i64 n, .string s, .string name, .string src, .slice A m c] := by rw [Hw2.out]; exact (IsBlk.laid _ _ _).alloc _
  have hw2 : IsBlk w2 (w.heap.size + 1) 35 #[.int .i64 4, .int .i64 0, .string { data := #[] }, .string { data := #[] }, .string { data := #[] }, .slice none 0 0] := by rw [Hw2.out]; exact laid_at (by simp) _ _
  obtain ⟨x0, x1, x2, x3, x4, x5, xl⟩ := exBox he2
  obtain ⟨y0, y1, y2, y3, y4, y5, hlw⟩ := exBox hw2
  have hfz := hw2.frozen
  have hA5 := x5
  clear he2 hw2
  clear ha
  go_enter Tryd.func8, Tryd.ntmps8
  go_upto_region 2 with (fail)
  rw [← Hw2.out]
  go_wp2_with (first | fail | (go_at_call 18; (with_reducible refine (HF0.out _).mono ?_); rintro x w10 ⟨rfl, hb0⟩; (obtain ⟨hc0, hf0⟩ := old_reads hb0; have hz0 := hb0.size; simp [World.setCell] at hz0; have hR0 : Below w.heap.size w w10 := Below.trans (by repeat (first | exact hR | refine Below.setCell ?_ (by simp) _)) (hb0.mono (by first | (simp [World.setCell]; done) | (have := hR.size; simp [World.setCell]; omega))); replace hR := hR0; replace hA5 := (hb0.cell (p := ⟨w.heap.size, 5, none⟩) (by first | (simp [World.setCell]; done) | (simp [World.setCell]; omega))).trans ((set_other (by simp)).trans hA5); have hlx0 : w.heap.size + 1 < w10.heap.size := (by omega); have hly0 : w.heap.size < w10.heap.size := (by omega))))
  all_goals
    go_ret
    exact ⟨ret_bool (by rw [Hfin.out]; simp), by repeat (first | exact hR | refine Below.setCell ?_ (by simp) _)⟩

set_option maxRecDepth 100000 in
set_option maxHeartbeats 4000000 in
theorem rbuilt_4_1  (n : Int) (s name src : ByteArray) (A : Option Addr) (m c : Nat) (args : List Ex) (w : World) (d : Nat) (okn : okS name) (ha : args.length = m) (t0 : freeB name = true) (t1 : decide (n = 0) = false) :
    Calls Tryd.prog 8 #[.agg #[.int .i64 4, .int .i64 n, .string s, .string name, .string src, .slice A m c]] w fun x w' => x = .returned (.bool (headR 4 n s name src args.length && args.all (builtE d))) ∧ Below w.heap.size w w' := by
  have hfin : headR 4 n s name src args.length = false := by
    rw [ha, headR_4 ]
    simp [t0, t1]
  have Hfin := Lib.hid hfin
  clear hfin
  have HF0 := Lib.hid (fun W => freeRef_any name W okn)
  rw [t0] at HF0
  clear t0
  have t1b : (n == 0) = false := by simpa using t1
  have t1c : (n != 0) = true := by simpa using t1
  clear t1
  obtain ⟨w2, Hw2⟩ : ∃ w2, Hid (w2 = (w.alloc (.cells #[.int .i64 4, .int .i64 n, .string s, .string name, .string src, .slice A m c] 35)).alloc (.cells #[.int .i64 4, .int .i64 0, .string { data := #[] }, .string { data := #[] }, .string { data := #[] }, .slice none 0 0] 35)) := ⟨_, rfl⟩
  have hR : Below w.heap.size w w2 := by rw [Hw2.out]; exact ((Below.refl _ _).alloc (Nat.le_refl _) _).alloc (by simp) _
  have he2 : IsBlk w2 w.heap.size 35 #[.int .i64 4, .int .i64 n, .string s, .string name, .string src, .slice A m c] := by rw [Hw2.out]; exact (IsBlk.laid _ _ _).alloc _
  have hw2 : IsBlk w2 (w.heap.size + 1) 35 #[.int .i64 4, .int .i64 0, .string { data := #[] }, .string { data := #[] }, .string { data := #[] }, .slice none 0 0] := by rw [Hw2.out]; exact laid_at (by simp) _ _
  obtain ⟨x0, x1, x2, x3, x4, x5, xl⟩ := exBox he2
  obtain ⟨y0, y1, y2, y3, y4, y5, hlw⟩ := exBox hw2
  have hfz := hw2.frozen
  have hA5 := x5
  clear he2 hw2
  clear ha
  go_enter Tryd.func8, Tryd.ntmps8
  go_upto_region 2 with (fail)
  rw [← Hw2.out]
  go_wp2_with (first | fail | (go_at_call 18; (with_reducible refine (HF0.out _).mono ?_); rintro x w10 ⟨rfl, hb0⟩; (obtain ⟨hc0, hf0⟩ := old_reads hb0; have hz0 := hb0.size; simp [World.setCell] at hz0; have hR0 : Below w.heap.size w w10 := Below.trans (by repeat (first | exact hR | refine Below.setCell ?_ (by simp) _)) (hb0.mono (by first | (simp [World.setCell]; done) | (have := hR.size; simp [World.setCell]; omega))); replace hR := hR0; replace hA5 := (hb0.cell (p := ⟨w.heap.size, 5, none⟩) (by first | (simp [World.setCell]; done) | (simp [World.setCell]; omega))).trans ((set_other (by simp)).trans hA5); have hlx0 : w.heap.size + 1 < w10.heap.size := (by omega); have hly0 : w.heap.size < w10.heap.size := (by omega))))
  all_goals
    go_ret
    exact ⟨ret_bool (by rw [Hfin.out]; simp), by repeat (first | exact hR | refine Below.setCell ?_ (by simp) _)⟩

set_option maxRecDepth 100000 in
set_option maxHeartbeats 4000000 in
theorem rbuilt_4_2  (n : Int) (s name src : ByteArray) (A : Option Addr) (m c : Nat) (args : List Ex) (w : World) (d : Nat) (okn : okS name) (ha : args.length = m) (t0 : freeB name = true) (t1 : decide (n = 0) = true) (t2 : noS s = false) :
    Calls Tryd.prog 8 #[.agg #[.int .i64 4, .int .i64 n, .string s, .string name, .string src, .slice A m c]] w fun x w' => x = .returned (.bool (headR 4 n s name src args.length && args.all (builtE d))) ∧ Below w.heap.size w w' := by
  have hfin : headR 4 n s name src args.length = false := by
    rw [ha, headR_4 ]
    simp [t0, t1, t2]
  have Hfin := Lib.hid hfin
  clear hfin
  have HF0 := Lib.hid (fun W => freeRef_any name W okn)
  rw [t0] at HF0
  clear t0
  have t1b : (n == 0) = true := by simpa using t1
  have t1c : (n != 0) = false := by simpa using t1
  clear t1
  replace t2 := str_some t2
  have t2b : (s.toList == []) = false := by cases hq : s.toList <;> simp_all
  have t2c : (s.toList != []) = true := by cases hq : s.toList <;> simp_all
  obtain ⟨w2, Hw2⟩ : ∃ w2, Hid (w2 = (w.alloc (.cells #[.int .i64 4, .int .i64 n, .string s, .string name, .string src, .slice A m c] 35)).alloc (.cells #[.int .i64 4, .int .i64 0, .string { data := #[] }, .string { data := #[] }, .string { data := #[] }, .slice none 0 0] 35)) := ⟨_, rfl⟩
  have hR : Below w.heap.size w w2 := by rw [Hw2.out]; exact ((Below.refl _ _).alloc (Nat.le_refl _) _).alloc (by simp) _
  have he2 : IsBlk w2 w.heap.size 35 #[.int .i64 4, .int .i64 n, .string s, .string name, .string src, .slice A m c] := by rw [Hw2.out]; exact (IsBlk.laid _ _ _).alloc _
  have hw2 : IsBlk w2 (w.heap.size + 1) 35 #[.int .i64 4, .int .i64 0, .string { data := #[] }, .string { data := #[] }, .string { data := #[] }, .slice none 0 0] := by rw [Hw2.out]; exact laid_at (by simp) _ _
  obtain ⟨x0, x1, x2, x3, x4, x5, xl⟩ := exBox he2
  obtain ⟨y0, y1, y2, y3, y4, y5, hlw⟩ := exBox hw2
  have hfz := hw2.frozen
  have hA5 := x5
  clear he2 hw2
  clear ha
  go_enter Tryd.func8, Tryd.ntmps8
  go_upto_region 2 with (fail)
  rw [← Hw2.out]
  go_wp2_with (first | fail | (go_at_call 18; (with_reducible refine (HF0.out _).mono ?_); rintro x w10 ⟨rfl, hb0⟩; (obtain ⟨hc0, hf0⟩ := old_reads hb0; have hz0 := hb0.size; simp [World.setCell] at hz0; have hR0 : Below w.heap.size w w10 := Below.trans (by repeat (first | exact hR | refine Below.setCell ?_ (by simp) _)) (hb0.mono (by first | (simp [World.setCell]; done) | (have := hR.size; simp [World.setCell]; omega))); replace hR := hR0; replace hA5 := (hb0.cell (p := ⟨w.heap.size, 5, none⟩) (by first | (simp [World.setCell]; done) | (simp [World.setCell]; omega))).trans ((set_other (by simp)).trans hA5); have hlx0 : w.heap.size + 1 < w10.heap.size := (by omega); have hly0 : w.heap.size < w10.heap.size := (by omega))))
  all_goals
    go_ret
    exact ⟨ret_bool (by rw [Hfin.out]; simp), by repeat (first | exact hR | refine Below.setCell ?_ (by simp) _)⟩

set_option maxRecDepth 100000 in
set_option maxHeartbeats 4000000 in
theorem rbuilt_4_3  (n : Int) (s name src : ByteArray) (A : Option Addr) (m c : Nat) (args : List Ex) (w : World) (d : Nat) (okn : okS name) (ha : args.length = m) (t0 : freeB name = true) (t1 : decide (n = 0) = true) (t2 : noS s = true) (t3 : noS src = false) :
    Calls Tryd.prog 8 #[.agg #[.int .i64 4, .int .i64 n, .string s, .string name, .string src, .slice A m c]] w fun x w' => x = .returned (.bool (headR 4 n s name src args.length && args.all (builtE d))) ∧ Below w.heap.size w w' := by
  have hfin : headR 4 n s name src args.length = false := by
    rw [ha, headR_4 ]
    simp [t0, t1, t2, t3]
  have Hfin := Lib.hid hfin
  clear hfin
  have HF0 := Lib.hid (fun W => freeRef_any name W okn)
  rw [t0] at HF0
  clear t0
  have t1b : (n == 0) = true := by simpa using t1
  have t1c : (n != 0) = false := by simpa using t1
  clear t1
  replace t2 := str_empty t2
  replace t3 := str_some t3
  have t3b : (src.toList == []) = false := by cases hq : src.toList <;> simp_all
  have t3c : (src.toList != []) = true := by cases hq : src.toList <;> simp_all
  obtain ⟨w2, Hw2⟩ : ∃ w2, Hid (w2 = (w.alloc (.cells #[.int .i64 4, .int .i64 n, .string s, .string name, .string src, .slice A m c] 35)).alloc (.cells #[.int .i64 4, .int .i64 0, .string { data := #[] }, .string { data := #[] }, .string { data := #[] }, .slice none 0 0] 35)) := ⟨_, rfl⟩
  have hR : Below w.heap.size w w2 := by rw [Hw2.out]; exact ((Below.refl _ _).alloc (Nat.le_refl _) _).alloc (by simp) _
  have he2 : IsBlk w2 w.heap.size 35 #[.int .i64 4, .int .i64 n, .string s, .string name, .string src, .slice A m c] := by rw [Hw2.out]; exact (IsBlk.laid _ _ _).alloc _
  have hw2 : IsBlk w2 (w.heap.size + 1) 35 #[.int .i64 4, .int .i64 0, .string { data := #[] }, .string { data := #[] }, .string { data := #[] }, .slice none 0 0] := by rw [Hw2.out]; exact laid_at (by simp) _ _
  obtain ⟨x0, x1, x2, x3, x4, x5, xl⟩ := exBox he2
  obtain ⟨y0, y1, y2, y3, y4, y5, hlw⟩ := exBox hw2
  have hfz := hw2.frozen
  have hA5 := x5
  clear he2 hw2
  clear ha
  go_enter Tryd.func8, Tryd.ntmps8
  go_upto_region 2 with (fail)
  rw [← Hw2.out]
  go_wp2_with (first | fail | (go_at_call 18; (with_reducible refine (HF0.out _).mono ?_); rintro x w10 ⟨rfl, hb0⟩; (obtain ⟨hc0, hf0⟩ := old_reads hb0; have hz0 := hb0.size; simp [World.setCell] at hz0; have hR0 : Below w.heap.size w w10 := Below.trans (by repeat (first | exact hR | refine Below.setCell ?_ (by simp) _)) (hb0.mono (by first | (simp [World.setCell]; done) | (have := hR.size; simp [World.setCell]; omega))); replace hR := hR0; replace hA5 := (hb0.cell (p := ⟨w.heap.size, 5, none⟩) (by first | (simp [World.setCell]; done) | (simp [World.setCell]; omega))).trans ((set_other (by simp)).trans hA5); have hlx0 : w.heap.size + 1 < w10.heap.size := (by omega); have hly0 : w.heap.size < w10.heap.size := (by omega))))
  all_goals
    go_ret
    exact ⟨ret_bool (by rw [Hfin.out]; simp), by repeat (first | exact hR | refine Below.setCell ?_ (by simp) _)⟩

set_option maxRecDepth 100000 in
set_option maxHeartbeats 4000000 in
theorem rbuilt_4_4  (n : Int) (s name src : ByteArray) (A : Option Addr) (m c : Nat) (args : List Ex) (w : World) (d : Nat) (okn : okS name) (ha : args.length = m) (t0 : freeB name = true) (t1 : decide (n = 0) = true) (t2 : noS s = true) (t3 : noS src = true) (t4 : decide (m = 0) = false) :
    Calls Tryd.prog 8 #[.agg #[.int .i64 4, .int .i64 n, .string s, .string name, .string src, .slice A m c]] w fun x w' => x = .returned (.bool (headR 4 n s name src args.length && args.all (builtE d))) ∧ Below w.heap.size w w' := by
  have hfin : headR 4 n s name src args.length = false := by
    rw [ha, headR_4 ]
    simp [t0, t1, t2, t3, t4]
  have Hfin := Lib.hid hfin
  clear hfin
  have HF0 := Lib.hid (fun W => freeRef_any name W okn)
  rw [t0] at HF0
  clear t0
  have t1b : (n == 0) = true := by simpa using t1
  have t1c : (n != 0) = false := by simpa using t1
  clear t1
  replace t2 := str_empty t2
  replace t3 := str_empty t3
  have t4c : ((m : Int) != 0) = true := by simp at t4 ⊢; omega
  clear t4
  obtain ⟨w2, Hw2⟩ : ∃ w2, Hid (w2 = (w.alloc (.cells #[.int .i64 4, .int .i64 n, .string s, .string name, .string src, .slice A m c] 35)).alloc (.cells #[.int .i64 4, .int .i64 0, .string { data := #[] }, .string { data := #[] }, .string { data := #[] }, .slice none 0 0] 35)) := ⟨_, rfl⟩
  have hR : Below w.heap.size w w2 := by rw [Hw2.out]; exact ((Below.refl _ _).alloc (Nat.le_refl _) _).alloc (by simp) _
  have he2 : IsBlk w2 w.heap.size 35 #[.int .i64 4, .int .i64 n, .string s, .string name, .string src, .slice A m c] := by rw [Hw2.out]; exact (IsBlk.laid _ _ _).alloc _
  have hw2 : IsBlk w2 (w.heap.size + 1) 35 #[.int .i64 4, .int .i64 0, .string { data := #[] }, .string { data := #[] }, .string { data := #[] }, .slice none 0 0] := by rw [Hw2.out]; exact laid_at (by simp) _ _
  obtain ⟨x0, x1, x2, x3, x4, x5, xl⟩ := exBox he2
  obtain ⟨y0, y1, y2, y3, y4, y5, hlw⟩ := exBox hw2
  have hfz := hw2.frozen
  have hA5 := x5
  clear he2 hw2
  clear ha
  go_enter Tryd.func8, Tryd.ntmps8
  go_upto_region 2 with (fail)
  rw [← Hw2.out]
  go_wp2_with (first | fail | (go_at_call 18; (with_reducible refine (HF0.out _).mono ?_); rintro x w10 ⟨rfl, hb0⟩; (obtain ⟨hc0, hf0⟩ := old_reads hb0; have hz0 := hb0.size; simp [World.setCell] at hz0; have hR0 : Below w.heap.size w w10 := Below.trans (by repeat (first | exact hR | refine Below.setCell ?_ (by simp) _)) (hb0.mono (by first | (simp [World.setCell]; done) | (have := hR.size; simp [World.setCell]; omega))); replace hR := hR0; replace hA5 := (hb0.cell (p := ⟨w.heap.size, 5, none⟩) (by first | (simp [World.setCell]; done) | (simp [World.setCell]; omega))).trans ((set_other (by simp)).trans hA5); have hlx0 : w.heap.size + 1 < w10.heap.size := (by omega); have hly0 : w.heap.size < w10.heap.size := (by omega))))
  all_goals
    go_ret
    exact ⟨ret_bool (by rw [Hfin.out]; simp), by repeat (first | exact hR | refine Below.setCell ?_ (by simp) _)⟩

set_option maxRecDepth 100000 in
set_option maxHeartbeats 4000000 in
theorem rbuilt_4_5  (n : Int) (s name src : ByteArray) (A : Option Addr) (m c : Nat) (args : List Ex) (w : World) (d : Nat) (okn : okS name) (ha : args.length = m) (t0 : freeB name = true) (t1 : decide (n = 0) = true) (t2 : noS s = true) (t3 : noS src = true) (t4 : decide (m = 0) = true) :
    Calls Tryd.prog 8 #[.agg #[.int .i64 4, .int .i64 n, .string s, .string name, .string src, .slice A m c]] w fun x w' => x = .returned (.bool (headR 4 n s name src args.length && args.all (builtE d))) ∧ Below w.heap.size w w' := by
  have hfin : headR 4 n s name src args.length = true := by
    rw [ha, headR_4 ]
    simp [t0, t1, t2, t3, t4]
  have Hfin := Lib.hid hfin
  clear hfin
  have HF0 := Lib.hid (fun W => freeRef_any name W okn)
  rw [t0] at HF0
  clear t0
  have t1b : (n == 0) = true := by simpa using t1
  have t1c : (n != 0) = false := by simpa using t1
  clear t1
  replace t2 := str_empty t2
  replace t3 := str_empty t3
  have t4b : m = 0 := by simpa using t4
  have hmb : m ≤ 1000 := by omega
  have Hm := Lib.hid t4b
  have t4c : ((m : Int) != 0) = false := by simp; omega
  clear t4b t4
  obtain ⟨w2, Hw2⟩ : ∃ w2, Hid (w2 = (w.alloc (.cells #[.int .i64 4, .int .i64 n, .string s, .string name, .string src, .slice A m c] 35)).alloc (.cells #[.int .i64 4, .int .i64 0, .string { data := #[] }, .string { data := #[] }, .string { data := #[] }, .slice none 0 0] 35)) := ⟨_, rfl⟩
  have hR : Below w.heap.size w w2 := by rw [Hw2.out]; exact ((Below.refl _ _).alloc (Nat.le_refl _) _).alloc (by simp) _
  have he2 : IsBlk w2 w.heap.size 35 #[.int .i64 4, .int .i64 n, .string s, .string name, .string src, .slice A m c] := by rw [Hw2.out]; exact (IsBlk.laid _ _ _).alloc _
  have hw2 : IsBlk w2 (w.heap.size + 1) 35 #[.int .i64 4, .int .i64 0, .string { data := #[] }, .string { data := #[] }, .string { data := #[] }, .slice none 0 0] := by rw [Hw2.out]; exact laid_at (by simp) _ _
  obtain ⟨x0, x1, x2, x3, x4, x5, xl⟩ := exBox he2
  obtain ⟨y0, y1, y2, y3, y4, y5, hlw⟩ := exBox hw2
  have hfz := hw2.frozen
  have hA5 := x5
  clear he2 hw2
  have Ha := Lib.hid ha
  clear ha
  go_enter Tryd.func8, Tryd.ntmps8
  go_upto_region 2 with (fail)
  rw [← Hw2.out]
  go_wp2_with (first | fail | (go_at_call 18; (with_reducible refine (HF0.out _).mono ?_); rintro x w10 ⟨rfl, hb0⟩; (obtain ⟨hc0, hf0⟩ := old_reads hb0; have hz0 := hb0.size; simp [World.setCell] at hz0; have hR0 : Below w.heap.size w w10 := Below.trans (by repeat (first | exact hR | refine Below.setCell ?_ (by simp) _)) (hb0.mono (by first | (simp [World.setCell]; done) | (have := hR.size; simp [World.setCell]; omega))); replace hR := hR0; replace hA5 := (hb0.cell (p := ⟨w.heap.size, 5, none⟩) (by first | (simp [World.setCell]; done) | (simp [World.setCell]; omega))).trans ((set_other (by simp)).trans hA5); have hlx0 : w.heap.size + 1 < w10.heap.size := (by omega); have hly0 : w.heap.size < w10.heap.size := (by omega))))
  go_loop [5] (fun i => i = .int .i64 0) (fun _ => 0)
  case atStart => rfl
  case round =>
    obtain rfl := hrel
    go_wp2
    go_ret
    have h0 : args = [] := List.eq_nil_of_length_eq_zero (by rw [Ha.out]; have := Hm.out; omega)
    subst h0
    exact ⟨ret_bool (by rw [Hfin.out]; simp), by repeat (first | exact hR | refine Below.setCell ?_ (by simp) _)⟩

set_option maxRecDepth 100000 in
set_option maxHeartbeats 4000000 in
theorem rbuilt_5_0  (n : Int) (s name src : ByteArray) (A : Option Addr) (m c : Nat) (args : List Ex) (w : World) (d : Nat) (okn : okS name) (ha : args.length = m) (t0 : freeB name = false) :
    Calls Tryd.prog 8 #[.agg #[.int .i64 5, .int .i64 n, .string s, .string name, .string src, .slice A m c]] w fun x w' => x = .returned (.bool (headR 5 n s name src args.length && args.all (builtE d))) ∧ Below w.heap.size w w' := by
  have hfin : headR 5 n s name src args.length = false := by
    rw [ha, headR_5 ]
    simp [t0]
  have Hfin := Lib.hid hfin
  clear hfin
  have HF0 := Lib.hid (fun W => freeRef_any name W okn)
  rw [t0] at HF0
  clear t0
  obtain ⟨w2, Hw2⟩ : ∃ w2, Hid (w2 = (w.alloc (.cells #[.int .i64 5, .int .i64 n, .string s, .string name, .string src, .slice A m c] 35)).alloc (.cells #[.int .i64 5, .int .i64 0, .string { data := #[] }, .string { data := #[] }, .string { data := #[] }, .slice none 0 0] 35)) := ⟨_, rfl⟩
  have hR : Below w.heap.size w w2 := by rw [Hw2.out]; exact ((Below.refl _ _).alloc (Nat.le_refl _) _).alloc (by simp) _
  have he2 : IsBlk w2 w.heap.size 35 #[.int .i64 5, .int .i64 n, .string s, .string name, .string src, .slice A m c] := by rw [Hw2.out]; exact (IsBlk.laid _ _ _).alloc _
  have hw2 : IsBlk w2 (w.heap.size + 1) 35 #[.int .i64 5, .int .i64 0, .string { data := #[] }, .string { data := #[] }, .string { data := #[] }, .slice none 0 0] := by rw [Hw2.out]; exact laid_at (by simp) _ _
  obtain ⟨x0, x1, x2, x3, x4, x5, xl⟩ := exBox he2
  obtain ⟨y0, y1, y2, y3, y4, y5, hlw⟩ := exBox hw2
  have hfz := hw2.frozen
  have hA5 := x5
  clear he2 hw2
  clear ha
  go_enter Tryd.func8, Tryd.ntmps8
  go_upto_region 2 with (fail)
  rw [← Hw2.out]
  go_wp2_with (first | fail | (go_at_call 18; (with_reducible refine (HF0.out _).mono ?_); rintro x w10 ⟨rfl, hb0⟩; (obtain ⟨hc0, hf0⟩ := old_reads hb0; have hz0 := hb0.size; simp [World.setCell] at hz0; have hR0 : Below w.heap.size w w10 := Below.trans (by repeat (first | exact hR | refine Below.setCell ?_ (by simp) _)) (hb0.mono (by first | (simp [World.setCell]; done) | (have := hR.size; simp [World.setCell]; omega))); replace hR := hR0; replace hA5 := (hb0.cell (p := ⟨w.heap.size, 5, none⟩) (by first | (simp [World.setCell]; done) | (simp [World.setCell]; omega))).trans ((set_other (by simp)).trans hA5); have hlx0 : w.heap.size + 1 < w10.heap.size := (by omega); have hly0 : w.heap.size < w10.heap.size := (by omega))))
  all_goals
    go_ret
    exact ⟨ret_bool (by rw [Hfin.out]; simp), by repeat (first | exact hR | refine Below.setCell ?_ (by simp) _)⟩

set_option maxRecDepth 100000 in
set_option maxHeartbeats 4000000 in
theorem rbuilt_5_1  (n : Int) (s name src : ByteArray) (A : Option Addr) (m c : Nat) (args : List Ex) (w : World) (d : Nat) (okn : okS name) (oks : okS s) (ha : args.length = m) (t0 : freeB name = true) (t1 : freeB s = false) :
    Calls Tryd.prog 8 #[.agg #[.int .i64 5, .int .i64 n, .string s, .string name, .string src, .slice A m c]] w fun x w' => x = .returned (.bool (headR 5 n s name src args.length && args.all (builtE d))) ∧ Below w.heap.size w w' := by
  have hfin : headR 5 n s name src args.length = false := by
    rw [ha, headR_5 ]
    simp [t0, t1]
  have Hfin := Lib.hid hfin
  clear hfin
  have HF0 := Lib.hid (fun W => freeRef_any name W okn)
  rw [t0] at HF0
  clear t0
  have HF1 := Lib.hid (fun W => freeRef_any s W oks)
  rw [t1] at HF1
  clear t1
  obtain ⟨w2, Hw2⟩ : ∃ w2, Hid (w2 = (w.alloc (.cells #[.int .i64 5, .int .i64 n, .string s, .string name, .string src, .slice A m c] 35)).alloc (.cells #[.int .i64 5, .int .i64 0, .string { data := #[] }, .string { data := #[] }, .string { data := #[] }, .slice none 0 0] 35)) := ⟨_, rfl⟩
  have hR : Below w.heap.size w w2 := by rw [Hw2.out]; exact ((Below.refl _ _).alloc (Nat.le_refl _) _).alloc (by simp) _
  have he2 : IsBlk w2 w.heap.size 35 #[.int .i64 5, .int .i64 n, .string s, .string name, .string src, .slice A m c] := by rw [Hw2.out]; exact (IsBlk.laid _ _ _).alloc _
  have hw2 : IsBlk w2 (w.heap.size + 1) 35 #[.int .i64 5, .int .i64 0, .string { data := #[] }, .string { data := #[] }, .string { data := #[] }, .slice none 0 0] := by rw [Hw2.out]; exact laid_at (by simp) _ _
  obtain ⟨x0, x1, x2, x3, x4, x5, xl⟩ := exBox he2
  obtain ⟨y0, y1, y2, y3, y4, y5, hlw⟩ := exBox hw2
  have hfz := hw2.frozen
  have hA5 := x5
  clear he2 hw2
  clear ha
  go_enter Tryd.func8, Tryd.ntmps8
  go_upto_region 2 with (fail)
  rw [← Hw2.out]
  go_wp2_with (first | fail | (go_at_call 18; (with_reducible refine (HF0.out _).mono ?_); rintro x w10 ⟨rfl, hb0⟩; (obtain ⟨hc0, hf0⟩ := old_reads hb0; have hz0 := hb0.size; simp [World.setCell] at hz0; have hR0 : Below w.heap.size w w10 := Below.trans (by repeat (first | exact hR | refine Below.setCell ?_ (by simp) _)) (hb0.mono (by first | (simp [World.setCell]; done) | (have := hR.size; simp [World.setCell]; omega))); replace hR := hR0; replace hA5 := (hb0.cell (p := ⟨w.heap.size, 5, none⟩) (by first | (simp [World.setCell]; done) | (simp [World.setCell]; omega))).trans ((set_other (by simp)).trans hA5); have hlx0 : w.heap.size + 1 < w10.heap.size := (by omega); have hly0 : w.heap.size < w10.heap.size := (by omega))) | (go_at_call 18; (with_reducible refine (HF1.out _).mono ?_); rintro x w11 ⟨rfl, hb1⟩; (obtain ⟨hc1, hf1⟩ := old_reads hb1; have hz1 := hb1.size; simp [World.setCell] at hz1; have hR1 : Below w.heap.size w w11 := Below.trans (by repeat (first | exact hR | refine Below.setCell ?_ (by simp) _)) (hb1.mono (by first | (simp [World.setCell]; done) | (have := hR.size; simp [World.setCell]; omega))); replace hR := hR1; replace hA5 := (hb1.cell (p := ⟨w.heap.size, 5, none⟩) (by first | (simp [World.setCell]; done) | (simp [World.setCell]; omega))).trans ((set_other (by simp)).trans hA5); have hlx1 : w.heap.size + 1 < w11.heap.size := (by omega); have hly1 : w.heap.size < w11.heap.size := (by omega))))
  all_goals
    go_ret
    exact ⟨ret_bool (by rw [Hfin.out]; simp), by repeat (first | exact hR | refine Below.setCell ?_ (by simp) _)⟩

set_option maxRecDepth 100000 in
set_option maxHeartbeats 4000000 in
theorem rbuilt_5_2  (n : Int) (s name src : ByteArray) (A : Option Addr) (m c : Nat) (args : List Ex) (w : World) (d : Nat) (okn : okS name) (oks : okS s) (ha : args.length = m) (t0 : freeB name = true) (t1 : freeB s = true) (t2 : decide (n = 0) = false) :
    Calls Tryd.prog 8 #[.agg #[.int .i64 5, .int .i64 n, .string s, .string name, .string src, .slice A m c]] w fun x w' => x = .returned (.bool (headR 5 n s name src args.length && args.all (builtE d))) ∧ Below w.heap.size w w' := by
  have hfin : headR 5 n s name src args.length = false := by
    rw [ha, headR_5 ]
    simp [t0, t1, t2]
  have Hfin := Lib.hid hfin
  clear hfin
  have HF0 := Lib.hid (fun W => freeRef_any name W okn)
  rw [t0] at HF0
  clear t0
  have HF1 := Lib.hid (fun W => freeRef_any s W oks)
  rw [t1] at HF1
  clear t1
  have t2b : (n == 0) = false := by simpa using t2
  have t2c : (n != 0) = true := by simpa using t2
  clear t2
  obtain ⟨w2, Hw2⟩ : ∃ w2, Hid (w2 = (w.alloc (.cells #[.int .i64 5, .int .i64 n, .string s, .string name, .string src, .slice A m c] 35)).alloc (.cells #[.int .i64 5, .int .i64 0, .string { data := #[] }, .string { data := #[] }, .string { data := #[] }, .slice none 0 0] 35)) := ⟨_, rfl⟩
  have hR : Below w.heap.size w w2 := by rw [Hw2.out]; exact ((Below.refl _ _).alloc (Nat.le_refl _) _).alloc (by simp) _
  have he2 : IsBlk w2 w.heap.size 35 #[.int .i64 5, .int .i64 n, .string s, .string name, .string src, .slice A m c] := by rw [Hw2.out]; exact (IsBlk.laid _ _ _).alloc _
  have hw2 : IsBlk w2 (w.heap.size + 1) 35 #[.int .i64 5, .int .i64 0, .string { data := #[] }, .string { data := #[] }, .string { data := #[] }, .slice none 0 0] := by rw [Hw2.out]; exact laid_at (by simp) _ _
  obtain ⟨x0, x1, x2, x3, x4, x5, xl⟩ := exBox he2
  obtain ⟨y0, y1, y2, y3, y4, y5, hlw⟩ := exBox hw2
  have hfz := hw2.frozen
  have hA5 := x5
  clear he2 hw2
  clear ha
  go_enter Tryd.func8, Tryd.ntmps8
  go_upto_region 2 with (fail)
  rw [← Hw2.out]
  go_wp2_with (first | fail | (go_at_call 18; (with_reducible refine (HF0.out _).mono ?_); rintro x w10 ⟨rfl, hb0⟩; (obtain ⟨hc0, hf0⟩ := old_reads hb0; have hz0 := hb0.size; simp [World.setCell] at hz0; have hR0 : Below w.heap.size w w10 := Below.trans (by repeat (first | exact hR | refine Below.setCell ?_ (by simp) _)) (hb0.mono (by first | (simp [World.setCell]; done) | (have := hR.size; simp [World.setCell]; omega))); replace hR := hR0; replace hA5 := (hb0.cell (p := ⟨w.heap.size, 5, none⟩) (by first | (simp [World.setCell]; done) | (simp [World.setCell]; omega))).trans ((set_other (by simp)).trans hA5); have hlx0 : w.heap.size + 1 < w10.heap.size := (by omega); have hly0 : w.heap.size < w10.heap.size := (by omega))) | (go_at_call 18; (with_reducible refine (HF1.out _).mono ?_); rintro x w11 ⟨rfl, hb1⟩; (obtain ⟨hc1, hf1⟩ := old_reads hb1; have hz1 := hb1.size; simp [World.setCell] at hz1; have hR1 : Below w.heap.size w w11 := Below.trans (by repeat (first | exact hR | refine Below.setCell ?_ (by simp) _)) (hb1.mono (by first | (simp [World.setCell]; done) | (have := hR.size; simp [World.setCell]; omega))); replace hR := hR1; replace hA5 := (hb1.cell (p := ⟨w.heap.size, 5, none⟩) (by first | (simp [World.setCell]; done) | (simp [World.setCell]; omega))).trans ((set_other (by simp)).trans hA5); have hlx1 : w.heap.size + 1 < w11.heap.size := (by omega); have hly1 : w.heap.size < w11.heap.size := (by omega))))
  all_goals
    go_ret
    exact ⟨ret_bool (by rw [Hfin.out]; simp), by repeat (first | exact hR | refine Below.setCell ?_ (by simp) _)⟩

set_option maxRecDepth 100000 in
set_option maxHeartbeats 4000000 in
theorem rbuilt_5_3  (n : Int) (s name src : ByteArray) (A : Option Addr) (m c : Nat) (args : List Ex) (w : World) (d : Nat) (okn : okS name) (oks : okS s) (ha : args.length = m) (t0 : freeB name = true) (t1 : freeB s = true) (t2 : decide (n = 0) = true) (t3 : noS src = false) :
    Calls Tryd.prog 8 #[.agg #[.int .i64 5, .int .i64 n, .string s, .string name, .string src, .slice A m c]] w fun x w' => x = .returned (.bool (headR 5 n s name src args.length && args.all (builtE d))) ∧ Below w.heap.size w w' := by
  have hfin : headR 5 n s name src args.length = false := by
    rw [ha, headR_5 ]
    simp [t0, t1, t2, t3]
  have Hfin := Lib.hid hfin
  clear hfin
  have HF0 := Lib.hid (fun W => freeRef_any name W okn)
  rw [t0] at HF0
  clear t0
  have HF1 := Lib.hid (fun W => freeRef_any s W oks)
  rw [t1] at HF1
  clear t1
  have t2b : (n == 0) = true := by simpa using t2
  have t2c : (n != 0) = false := by simpa using t2
  clear t2
  replace t3 := str_some t3
  have t3b : (src.toList == []) = false := by cases hq : src.toList <;> simp_all
  have t3c : (src.toList != []) = true := by cases hq : src.toList <;> simp_all
  obtain ⟨w2, Hw2⟩ : ∃ w2, Hid (w2 = (w.alloc (.cells #[.int .i64 5, .int .i64 n, .string s, .string name, .string src, .slice A m c] 35)).alloc (.cells #[.int .i64 5, .int .i64 0, .string { data := #[] }, .string { data := #[] }, .string { data := #[] }, .slice none 0 0] 35)) := ⟨_, rfl⟩
  have hR : Below w.heap.size w w2 := by rw [Hw2.out]; exact ((Below.refl _ _).alloc (Nat.le_refl _) _).alloc (by simp) _
  have he2 : IsBlk w2 w.heap.size 35 #[.int .i64 5, .int .i64 n, .string s, .string name, .string src, .slice A m c] := by rw [Hw2.out]; exact (IsBlk.laid _ _ _).alloc _
  have hw2 : IsBlk w2 (w.heap.size + 1) 35 #[.int .i64 5, .int .i64 0, .string { data := #[] }, .string { data := #[] }, .string { data := #[] }, .slice none 0 0] := by rw [Hw2.out]; exact laid_at (by simp) _ _
  obtain ⟨x0, x1, x2, x3, x4, x5, xl⟩ := exBox he2
  obtain ⟨y0, y1, y2, y3, y4, y5, hlw⟩ := exBox hw2
  have hfz := hw2.frozen
  have hA5 := x5
  clear he2 hw2
  clear ha
  go_enter Tryd.func8, Tryd.ntmps8
  go_upto_region 2 with (fail)
  rw [← Hw2.out]
  go_wp2_with (first | fail | (go_at_call 18; (with_reducible refine (HF0.out _).mono ?_); rintro x w10 ⟨rfl, hb0⟩; (obtain ⟨hc0, hf0⟩ := old_reads hb0; have hz0 := hb0.size; simp [World.setCell] at hz0; have hR0 : Below w.heap.size w w10 := Below.trans (by repeat (first | exact hR | refine Below.setCell ?_ (by simp) _)) (hb0.mono (by first | (simp [World.setCell]; done) | (have := hR.size; simp [World.setCell]; omega))); replace hR := hR0; replace hA5 := (hb0.cell (p := ⟨w.heap.size, 5, none⟩) (by first | (simp [World.setCell]; done) | (simp [World.setCell]; omega))).trans ((set_other (by simp)).trans hA5); have hlx0 : w.heap.size + 1 < w10.heap.size := (by omega); have hly0 : w.heap.size < w10.heap.size := (by omega))) | (go_at_call 18; (with_reducible refine (HF1.out _).mono ?_); rintro x w11 ⟨rfl, hb1⟩; (obtain ⟨hc1, hf1⟩ := old_reads hb1; have hz1 := hb1.size; simp [World.setCell] at hz1; have hR1 : Below w.heap.size w w11 := Below.trans (by repeat (first | exact hR | refine Below.setCell ?_ (by simp) _)) (hb1.mono (by first | (simp [World.setCell]; done) | (have := hR.size; simp [World.setCell]; omega))); replace hR := hR1; replace hA5 := (hb1.cell (p := ⟨w.heap.size, 5, none⟩) (by first | (simp [World.setCell]; done) | (simp [World.setCell]; omega))).trans ((set_other (by simp)).trans hA5); have hlx1 : w.heap.size + 1 < w11.heap.size := (by omega); have hly1 : w.heap.size < w11.heap.size := (by omega))))
  all_goals
    go_ret
    exact ⟨ret_bool (by rw [Hfin.out]; simp), by repeat (first | exact hR | refine Below.setCell ?_ (by simp) _)⟩

set_option maxRecDepth 100000 in
set_option maxHeartbeats 4000000 in
theorem rbuilt_5_4  (n : Int) (s name src : ByteArray) (A : Option Addr) (m c : Nat) (args : List Ex) (w : World) (d : Nat) (okn : okS name) (oks : okS s) (ha : args.length = m) (t0 : freeB name = true) (t1 : freeB s = true) (t2 : decide (n = 0) = true) (t3 : noS src = true) (t4 : decide (m = 0) = false) :
    Calls Tryd.prog 8 #[.agg #[.int .i64 5, .int .i64 n, .string s, .string name, .string src, .slice A m c]] w fun x w' => x = .returned (.bool (headR 5 n s name src args.length && args.all (builtE d))) ∧ Below w.heap.size w w' := by
  have hfin : headR 5 n s name src args.length = false := by
    rw [ha, headR_5 ]
    simp [t0, t1, t2, t3, t4]
  have Hfin := Lib.hid hfin
  clear hfin
  have HF0 := Lib.hid (fun W => freeRef_any name W okn)
  rw [t0] at HF0
  clear t0
  have HF1 := Lib.hid (fun W => freeRef_any s W oks)
  rw [t1] at HF1
  clear t1
  have t2b : (n == 0) = true := by simpa using t2
  have t2c : (n != 0) = false := by simpa using t2
  clear t2
  replace t3 := str_empty t3
  have t4c : ((m : Int) != 0) = true := by simp at t4 ⊢; omega
  clear t4
  obtain ⟨w2, Hw2⟩ : ∃ w2, Hid (w2 = (w.alloc (.cells #[.int .i64 5, .int .i64 n, .string s, .string name, .string src, .slice A m c] 35)).alloc (.cells #[.int .i64 5, .int .i64 0, .string { data := #[] }, .string { data := #[] }, .string { data := #[] }, .slice none 0 0] 35)) := ⟨_, rfl⟩
  have hR : Below w.heap.size w w2 := by rw [Hw2.out]; exact ((Below.refl _ _).alloc (Nat.le_refl _) _).alloc (by simp) _
  have he2 : IsBlk w2 w.heap.size 35 #[.int .i64 5, .int .i64 n, .string s, .string name, .string src, .slice A m c] := by rw [Hw2.out]; exact (IsBlk.laid _ _ _).alloc _
  have hw2 : IsBlk w2 (w.heap.size + 1) 35 #[.int .i64 5, .int .i64 0, .string { data := #[] }, .string { data := #[] }, .string { data := #[] }, .slice none 0 0] := by rw [Hw2.out]; exact laid_at (by simp) _ _
  obtain ⟨x0, x1, x2, x3, x4, x5, xl⟩ := exBox he2
  obtain ⟨y0, y1, y2, y3, y4, y5, hlw⟩ := exBox hw2
  have hfz := hw2.frozen
  have hA5 := x5
  clear he2 hw2
  clear ha
  go_enter Tryd.func8, Tryd.ntmps8
  go_upto_region 2 with (fail)
  rw [← Hw2.out]
  go_wp2_with (first | fail | (go_at_call 18; (with_reducible refine (HF0.out _).mono ?_); rintro x w10 ⟨rfl, hb0⟩; (obtain ⟨hc0, hf0⟩ := old_reads hb0; have hz0 := hb0.size; simp [World.setCell] at hz0; have hR0 : Below w.heap.size w w10 := Below.trans (by repeat (first | exact hR | refine Below.setCell ?_ (by simp) _)) (hb0.mono (by first | (simp [World.setCell]; done) | (have := hR.size; simp [World.setCell]; omega))); replace hR := hR0; replace hA5 := (hb0.cell (p := ⟨w.heap.size, 5, none⟩) (by first | (simp [World.setCell]; done) | (simp [World.setCell]; omega))).trans ((set_other (by simp)).trans hA5); have hlx0 : w.heap.size + 1 < w10.heap.size := (by omega); have hly0 : w.heap.size < w10.heap.size := (by omega))) | (go_at_call 18; (with_reducible refine (HF1.out _).mono ?_); rintro x w11 ⟨rfl, hb1⟩; (obtain ⟨hc1, hf1⟩ := old_reads hb1; have hz1 := hb1.size; simp [World.setCell] at hz1; have hR1 : Below w.heap.size w w11 := Below.trans (by repeat (first | exact hR | refine Below.setCell ?_ (by simp) _)) (hb1.mono (by first | (simp [World.setCell]; done) | (have := hR.size; simp [World.setCell]; omega))); replace hR := hR1; replace hA5 := (hb1.cell (p := ⟨w.heap.size, 5, none⟩) (by first | (simp [World.setCell]; done) | (simp [World.setCell]; omega))).trans ((set_other (by simp)).trans hA5); have hlx1 : w.heap.size + 1 < w11.heap.size := (by omega); have hly1 : w.heap.size < w11.heap.size := (by omega))))
  all_goals
    go_ret
    exact ⟨ret_bool (by rw [Hfin.out]; simp), by repeat (first | exact hR | refine Below.setCell ?_ (by simp) _)⟩

set_option maxRecDepth 100000 in
set_option maxHeartbeats 4000000 in
theorem rbuilt_5_5  (n : Int) (s name src : ByteArray) (A : Option Addr) (m c : Nat) (args : List Ex) (w : World) (d : Nat) (okn : okS name) (oks : okS s) (ha : args.length = m) (t0 : freeB name = true) (t1 : freeB s = true) (t2 : decide (n = 0) = true) (t3 : noS src = true) (t4 : decide (m = 0) = true) :
    Calls Tryd.prog 8 #[.agg #[.int .i64 5, .int .i64 n, .string s, .string name, .string src, .slice A m c]] w fun x w' => x = .returned (.bool (headR 5 n s name src args.length && args.all (builtE d))) ∧ Below w.heap.size w w' := by
  have hfin : headR 5 n s name src args.length = true := by
    rw [ha, headR_5 ]
    simp [t0, t1, t2, t3, t4]
  have Hfin := Lib.hid hfin
  clear hfin
  have HF0 := Lib.hid (fun W => freeRef_any name W okn)
  rw [t0] at HF0
  clear t0
  have HF1 := Lib.hid (fun W => freeRef_any s W oks)
  rw [t1] at HF1
  clear t1
  have t2b : (n == 0) = true := by simpa using t2
  have t2c : (n != 0) = false := by simpa using t2
  clear t2
  replace t3 := str_empty t3
  have t4b : m = 0 := by simpa using t4
  have hmb : m ≤ 1000 := by omega
  have Hm := Lib.hid t4b
  have t4c : ((m : Int) != 0) = false := by simp; omega
  clear t4b t4
  obtain ⟨w2, Hw2⟩ : ∃ w2, Hid (w2 = (w.alloc (.cells #[.int .i64 5, .int .i64 n, .string s, .string name, .string src, .slice A m c] 35)).alloc (.cells #[.int .i64 5, .int .i64 0, .string { data := #[] }, .string { data := #[] }, .string { data := #[] }, .slice none 0 0] 35)) := ⟨_, rfl⟩
  have hR : Below w.heap.size w w2 := by rw [Hw2.out]; exact ((Below.refl _ _).alloc (Nat.le_refl _) _).alloc (by simp) _
  have he2 : IsBlk w2 w.heap.size 35 #[.int .i64 5, .int .i64 n, .string s, .string name, .string src, .slice A m c] := by rw [Hw2.out]; exact (IsBlk.laid _ _ _).alloc _
  have hw2 : IsBlk w2 (w.heap.size + 1) 35 #[.int .i64 5, .int .i64 0, .string { data := #[] }, .string { data := #[] }, .string { data := #[] }, .slice none 0 0] := by rw [Hw2.out]; exact laid_at (by simp) _ _
  obtain ⟨x0, x1, x2, x3, x4, x5, xl⟩ := exBox he2
  obtain ⟨y0, y1, y2, y3, y4, y5, hlw⟩ := exBox hw2
  have hfz := hw2.frozen
  have hA5 := x5
  clear he2 hw2
  have Ha := Lib.hid ha
  clear ha
  go_enter Tryd.func8, Tryd.ntmps8
  go_upto_region 2 with (fail)
  rw [← Hw2.out]
  go_wp2_with (first | fail | (go_at_call 18; (with_reducible refine (HF0.out _).mono ?_); rintro x w10 ⟨rfl, hb0⟩; (obtain ⟨hc0, hf0⟩ := old_reads hb0; have hz0 := hb0.size; simp [World.setCell] at hz0; have hR0 : Below w.heap.size w w10 := Below.trans (by repeat (first | exact hR | refine Below.setCell ?_ (by simp) _)) (hb0.mono (by first | (simp [World.setCell]; done) | (have := hR.size; simp [World.setCell]; omega))); replace hR := hR0; replace hA5 := (hb0.cell (p := ⟨w.heap.size, 5, none⟩) (by first | (simp [World.setCell]; done) | (simp [World.setCell]; omega))).trans ((set_other (by simp)).trans hA5); have hlx0 : w.heap.size + 1 < w10.heap.size := (by omega); have hly0 : w.heap.size < w10.heap.size := (by omega))) | (go_at_call 18; (with_reducible refine (HF1.out _).mono ?_); rintro x w11 ⟨rfl, hb1⟩; (obtain ⟨hc1, hf1⟩ := old_reads hb1; have hz1 := hb1.size; simp [World.setCell] at hz1; have hR1 : Below w.heap.size w w11 := Below.trans (by repeat (first | exact hR | refine Below.setCell ?_ (by simp) _)) (hb1.mono (by first | (simp [World.setCell]; done) | (have := hR.size; simp [World.setCell]; omega))); replace hR := hR1; replace hA5 := (hb1.cell (p := ⟨w.heap.size, 5, none⟩) (by first | (simp [World.setCell]; done) | (simp [World.setCell]; omega))).trans ((set_other (by simp)).trans hA5); have hlx1 : w.heap.size + 1 < w11.heap.size := (by omega); have hly1 : w.heap.size < w11.heap.size := (by omega))))
  go_loop [5] (fun i => i = .int .i64 0) (fun _ => 0)
  case atStart => rfl
  case round =>
    obtain rfl := hrel
    go_wp2
    go_ret
    have h0 : args = [] := List.eq_nil_of_length_eq_zero (by rw [Ha.out]; have := Hm.out; omega)
    subst h0
    exact ⟨ret_bool (by rw [Hfin.out]; simp), by repeat (first | exact hR | refine Below.setCell ?_ (by simp) _)⟩
end Go.Proofs.YthiimingnmbgmaaDoor

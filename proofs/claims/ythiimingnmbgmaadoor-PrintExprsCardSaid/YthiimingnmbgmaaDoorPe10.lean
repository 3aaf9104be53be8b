/- Parts of this proof, one behind the other: SynF. -/
import Derived.Test.YthiimingnmbgmaaDoorPe9
import Derived.Deep.RegionHeld3
namespace Go.Proofs.YthiimingnmbgmaaDoor
open Go.RowKit Go.Afx


set_option maxRecDepth 100000 in
set_option maxHeartbeats 2000000 in
theorem fields_4 (n : Int) (s name src : ByteArray) (A : Option Addr) (m c : Nat) (w : World) (ok_name : okS name) :
    Calls Tryd.prog 44 #[.agg #[.int .i64 4, .int .i64 n, .string s, .string name, .string src, .slice A m c]] w fun x w' => x = .returned (.bool (fieldsR 4 n s name src)) ∧ Below w.heap.size w w' := by
  have ha := fun W => args_any 4 W
  have hr : rowsB 4 = false := rfl
  rw [hr] at ha
  have Ha := Lib.hid ha
  have Hr := Lib.hid hr
  clear ha hr
  obtain ⟨q, hq⟩ : ∃ q, freesB [name] = q := ⟨_, rfl⟩
  have hF := fun (W : World) (g : Nat) (h : LsAt (fun _ => True) W 1 SRow (some ⟨g, 0, none⟩) 1 1 [name]) => free_any _ _ _ _ _ W h
  rw [hq] at hF
  have HF := Lib.hid hF
  have Hq := Lib.hid hq
  clear hF hq
  obtain ⟨w1, Hw1⟩ : ∃ w1, Hid (w1 = w.alloc (.cells #[.int .i64 4, .int .i64 n, .string s, .string name, .string src, .slice A m c] 35)) := ⟨_, rfl⟩
  obtain ⟨w2, Hw2⟩ : ∃ w2, Hid (w2 = w1.alloc (.cells #[.int .i64 0, .int .i64 0, .string { data := #[] }, .string { data := #[] }, .string { data := #[] }, .slice none 0 0] 35)) := ⟨_, rfl⟩
  have hx2 : IsBlk w2 w.heap.size 35 #[.int .i64 4, .int .i64 n, .string s, .string name, .string src, .slice A m c] := by rw [Hw2.out, Hw1.out]; exact (IsBlk.laid _ _ _).alloc _
  have hy2 : IsBlk w2 (w.heap.size + 1) 35 #[.int .i64 0, .int .i64 0, .string { data := #[] }, .string { data := #[] }, .string { data := #[] }, .slice none 0 0] := by rw [Hw2.out, Hw1.out]; exact laid_at (by simp) _ _
  have hb2 : Below w.heap.size w w2 := by rw [Hw2.out, Hw1.out]; exact ((Below.refl _ _).alloc (Nat.le_refl _) _).alloc (by simp) _
  have hz2 : w2.heap.size = w.heap.size + 2 := by rw [Hw2.out, Hw1.out]; simp
  have Hz2 := Lib.hid hz2
  clear hz2
  have hf := fun (W : World) (hW : Below w2.heap.size w2 W) => And.intro (hx2.as_was (hW.block _ hx2.lt)) (hy2.as_was (hW.block _ hy2.lt))
  have Hf := Lib.hid hf
  clear hf
  have hxl := hx2.lt
  have hyl := hy2.lt
  go_enter Tryd.func44, Tryd.ntmps44
  go_wp2_with (go_at_call 43; refine (Ha.out _).mono ?_; rintro x w' ⟨rfl, rfl⟩)
  rw [← Hw1.out, ← Hw2.out]
  have x21 := hx2.cell 1
  have x22 := hx2.cell 2
  have x23 := hx2.cell 3
  have x24 := hx2.cell 4
  simp at x21 x22 x23 x24
  go_region_with (go_at_call 56; go_loud (refine (HF.out _ _ (LsAt.drew (strs_one (w := w2) 9 name rfl ok_name))).mono ?_; rintro x w4 ⟨rfl, hb4⟩; have hb24 : Below w2.heap.size w2 w4 := (((Below.refl _ _).alloc (Nat.le_refl _) _).drew).trans (hb4.mono (by simp)); have hx4 := (Hf.out w4 hb24).1; have hy4 := (Hf.out w4 hb24).2; have x41 := hx4.cell 1; have x42 := hx4.cell 2; have x43 := hx4.cell 3; have x44 := hx4.cell 4; have y41 := hy4.cell 1; have y42 := hy4.cell 2; have y43 := hy4.cell 3; have y44 := hy4.cell 4; have yf := hy4.frozen; have xl4 := hx4.lt; have yl4 := hy4.lt; simp at x41 x42 x43 x44 y41 y42 y43 y44))
  all_goals cases q
  all_goals go_wp2
  all_goals
    go_ret
    have hb04 := hb2.trans (hb24.mono hb2.size)
    have hq := Hq.out
    have hr := Hr.out
    rw [freesB_all] at hq
    refine ⟨ret_bool ?_, ?_⟩
    · clear Hf HF Ha x41 x42 x43 x44 y41 y42 y43 y44 yf
      simp_all [fieldsR, noS_nil]
      try omega
    · repeat (first | exact hb04 | refine Below.drew ?_ | refine Below.setCell ?_ (by simp) _)

set_option maxRecDepth 100000 in
set_option maxHeartbeats 2000000 in
theorem fields_5 (n : Int) (s name src : ByteArray) (A : Option Addr) (m c : Nat) (w : World) (ok_name : okS name) (ok_s : okS s) :
    Calls Tryd.prog 44 #[.agg #[.int .i64 5, .int .i64 n, .string s, .string name, .string src, .slice A m c]] w fun x w' => x = .returned (.bool (fieldsR 5 n s name src)) ∧ Below w.heap.size w w' := by
  have ha := fun W => args_any 5 W
  have hr : rowsB 5 = false := rfl
  rw [hr] at ha
  have Ha := Lib.hid ha
  have Hr := Lib.hid hr
  clear ha hr
  obtain ⟨q, hq⟩ : ∃ q, freesB [name, s] = q := ⟨_, rfl⟩
  have hF := fun (W : World) (g : Nat) (h : LsAt (fun _ => True) W 1 SRow (some ⟨g, 0, none⟩) 2 2 [name, s]) => free_any _ _ _ _ _ W h
  rw [hq] at hF
  have HF := Lib.hid hF
  have Hq := Lib.hid hq
  clear hF hq
  obtain ⟨w1, Hw1⟩ : ∃ w1, Hid (w1 = w.alloc (.cells #[.int .i64 5, .int .i64 n, .string s, .string name, .string src, .slice A m c] 35)) := ⟨_, rfl⟩
  obtain ⟨w2, Hw2⟩ : ∃ w2, Hid (w2 = w1.alloc (.cells #[.int .i64 0, .int .i64 0, .string { data := #[] }, .string { data := #[] }, .string { data := #[] }, .slice none 0 0] 35)) := ⟨_, rfl⟩
  have hx2 : IsBlk w2 w.heap.size 35 #[.int .i64 5, .int .i64 n, .string s, .string name, .string src, .slice A m c] := by rw [Hw2.out, Hw1.out]; exact (IsBlk.laid _ _ _).alloc _
  have hy2 : IsBlk w2 (w.heap.size + 1) 35 #[.int .i64 0, .int .i64 0, .string { data := #[] }, .string { data := #[] }, .string { data := #[] }, .slice none 0 0] := by rw [Hw2.out, Hw1.out]; exact laid_at (by simp) _ _
  have hb2 : Below w.heap.size w w2 := by rw [Hw2.out, Hw1.out]; exact ((Below.refl _ _).alloc (Nat.le_refl _) _).alloc (by simp) _
  have hz2 : w2.heap.size = w.heap.size + 2 := by rw [Hw2.out, Hw1.out]; simp
  have Hz2 := Lib.hid hz2
  clear hz2
  have hf := fun (W : World) (hW : Below w2.heap.size w2 W) => And.intro (hx2.as_was (hW.block _ hx2.lt)) (hy2.as_was (hW.block _ hy2.lt))
  have Hf := Lib.hid hf
  clear hf
  have hxl := hx2.lt
  have hyl := hy2.lt
  go_enter Tryd.func44, Tryd.ntmps44
  go_wp2_with (go_at_call 43; refine (Ha.out _).mono ?_; rintro x w' ⟨rfl, rfl⟩)
  rw [← Hw1.out, ← Hw2.out]
  have x21 := hx2.cell 1
  have x22 := hx2.cell 2
  have x23 := hx2.cell 3
  have x24 := hx2.cell 4
  simp at x21 x22 x23 x24
  go_region_held3 (fun w' => w'.cell? ⟨w.heap.size, 3, none⟩ = some (.string name) ∧ w'.cell? ⟨w.heap.size, 2, none⟩ = some (.string s)) ((first | exact ⟨x43, x42⟩ | exact ⟨(World.cell?_alloc_lt w2 _ ⟨w.heap.size, 3, none⟩ hxl).trans x23, (World.cell?_alloc_lt w2 _ ⟨w.heap.size, 2, none⟩ hxl).trans x22⟩ | (constructor <;> go_simp; done) | (simp [*]; done))) (first | (go_at_call 56; go_loud (refine (HF.out _ _ (LsAt.drew (strs_two (w := w2) 9 name s rfl ok_name ok_s))).mono ?_; rintro x w4 ⟨rfl, hb4⟩; have hb24 : Below w2.heap.size w2 w4 := (((Below.refl _ _).alloc (Nat.le_refl _) _).drew).trans (hb4.mono (by simp)); have hx4 := (Hf.out w4 hb24).1; have hy4 := (Hf.out w4 hb24).2; have x41 := hx4.cell 1; have x42 := hx4.cell 2; have x43 := hx4.cell 3; have x44 := hx4.cell 4; have y41 := hy4.cell 1; have y42 := hy4.cell 2; have y43 := hy4.cell 3; have y44 := hy4.cell 4; have yf := hy4.frozen; have xl4 := hx4.lt; have yl4 := hy4.lt; simp at x41 x42 x43 x44 y41 y42 y43 y44)))
  all_goals cases q
  all_goals go_wp2
  all_goals
    go_ret
    have hb04 := hb2.trans (hb24.mono hb2.size)
    have hq := Hq.out
    have hr := Hr.out
    rw [freesB_all] at hq
    refine ⟨ret_bool ?_, ?_⟩
    · clear Hf HF Ha x41 x42 x43 x44 y41 y42 y43 y44 yf
      simp_all [fieldsR, noS_nil]
      try omega
    · repeat (first | exact hb04 | refine Below.drew ?_ | refine Below.setCell ?_ (by simp) _)

set_option maxRecDepth 100000 in
set_option maxHeartbeats 2000000 in
theorem fields_rows (op n : Int) (s name src : ByteArray) (A : Option Addr) (m c : Nat) (w : World) (hop : 21 ≤ op) (hop2 : op ≤ 24) (ok_name : okS name) (ok_src : okS src) :
    Calls Tryd.prog 44 #[.agg #[.int .i64 op, .int .i64 n, .string s, .string name, .string src, .slice A m c]] w fun x w' => x = .returned (.bool (fieldsR op n s name src)) ∧ Below w.heap.size w w' := by
  have ha := fun W => args_any op W
  have hr : rowsB op = true := by simp [rowsB]; omega
  rw [hr] at ha
  have Ha := Lib.hid ha
  have Hr := Lib.hid hr
  clear ha hr
  have e1 : (op == 1) = false := by simp; omega
  have e2 : (op == 2) = false := by simp; omega
  have e3 : (op == 3) = false := by simp; omega
  have e4 : (op == 4) = false := by simp; omega
  have e5 : (op == 5) = false := by simp; omega
  obtain ⟨q, hq⟩ : ∃ q, freesB [name, src] = q := ⟨_, rfl⟩
  have hF := fun (W : World) (g : Nat) (h : LsAt (fun _ => True) W 1 SRow (some ⟨g, 0, none⟩) 2 2 [name, src]) => free_any _ _ _ _ _ W h
  rw [hq] at hF
  have HF := Lib.hid hF
  have Hq := Lib.hid hq
  clear hF hq
  obtain ⟨w1, Hw1⟩ : ∃ w1, Hid (w1 = w.alloc (.cells #[.int .i64 op, .int .i64 n, .string s, .string name, .string src, .slice A m c] 35)) := ⟨_, rfl⟩
  obtain ⟨w2, Hw2⟩ : ∃ w2, Hid (w2 = w1.alloc (.cells #[.int .i64 0, .int .i64 0, .string { data := #[] }, .string { data := #[] }, .string { data := #[] }, .slice none 0 0] 35)) := ⟨_, rfl⟩
  have hx2 : IsBlk w2 w.heap.size 35 #[.int .i64 op, .int .i64 n, .string s, .string name, .string src, .slice A m c] := by rw [Hw2.out, Hw1.out]; exact (IsBlk.laid _ _ _).alloc _
  have hy2 : IsBlk w2 (w.heap.size + 1) 35 #[.int .i64 0, .int .i64 0, .string { data := #[] }, .string { data := #[] }, .string { data := #[] }, .slice none 0 0] := by rw [Hw2.out, Hw1.out]; exact laid_at (by simp) _ _
  have hb2 : Below w.heap.size w w2 := by rw [Hw2.out, Hw1.out]; exact ((Below.refl _ _).alloc (Nat.le_refl _) _).alloc (by simp) _
  have hz2 : w2.heap.size = w.heap.size + 2 := by rw [Hw2.out, Hw1.out]; simp
  have Hz2 := Lib.hid hz2
  clear hz2
  have hf := fun (W : World) (hW : Below w2.heap.size w2 W) => And.intro (hx2.as_was (hW.block _ hx2.lt)) (hy2.as_was (hW.block _ hy2.lt))
  have Hf := Lib.hid hf
  clear hf
  have hxl := hx2.lt
  have hyl := hy2.lt
  go_enter Tryd.func44, Tryd.ntmps44
  go_wp2_with (go_at_call 43; refine (Ha.out _).mono ?_; rintro x w' ⟨rfl, rfl⟩)
  rw [← Hw1.out, ← Hw2.out]
  have x21 := hx2.cell 1
  have x22 := hx2.cell 2
  have x23 := hx2.cell 3
  have x24 := hx2.cell 4
  simp at x21 x22 x23 x24
  go_region_held3 (fun w' => w'.cell? ⟨w.heap.size, 3, none⟩ = some (.string name) ∧ w'.cell? ⟨w.heap.size, 4, none⟩ = some (.string src)) ((first | exact ⟨x43, x44⟩ | exact ⟨(World.cell?_alloc_lt w2 _ ⟨w.heap.size, 3, none⟩ hxl).trans x23, (World.cell?_alloc_lt w2 _ ⟨w.heap.size, 4, none⟩ hxl).trans x24⟩ | (constructor <;> go_simp; done) | (simp [*]; done))) (first | (go_at_call 56; go_loud (refine (HF.out _ _ (LsAt.drew (strs_two (w := w2) 9 name src rfl ok_name ok_src))).mono ?_; rintro x w4 ⟨rfl, hb4⟩; have hb24 : Below w2.heap.size w2 w4 := (((Below.refl _ _).alloc (Nat.le_refl _) _).drew).trans (hb4.mono (by simp)); have hx4 := (Hf.out w4 hb24).1; have hy4 := (Hf.out w4 hb24).2; have x41 := hx4.cell 1; have x42 := hx4.cell 2; have x43 := hx4.cell 3; have x44 := hx4.cell 4; have y41 := hy4.cell 1; have y42 := hy4.cell 2; have y43 := hy4.cell 3; have y44 := hy4.cell 4; have yf := hy4.frozen; have xl4 := hx4.lt; have yl4 := hy4.lt; simp at x41 x42 x43 x44 y41 y42 y43 y44)))
  all_goals cases q
  all_goals go_wp2
  all_goals
    go_ret
    have hb04 := hb2.trans (hb24.mono hb2.size)
    have hq := Hq.out
    have hr := Hr.out
    rw [freesB_all] at hq
    refine ⟨ret_bool ?_, ?_⟩
    · clear Hf HF Ha x41 x42 x43 x44 y41 y42 y43 y44 yf
      simp_all [fieldsR, noS_nil]
      try omega
    · repeat (first | exact hb04 | refine Below.drew ?_ | refine Below.setCell ?_ (by simp) _)

theorem fields_any (op n : Int) (s name src : ByteArray) (A : Option Addr) (m c : Nat) (w : World) (h1 : okS name) (h2 : okS s) (h3 : okS src) :
    Calls Tryd.prog 44 #[.agg #[.int .i64 op, .int .i64 n, .string s, .string name, .string src, .slice A m c]] w fun x w' => x = .returned (.bool (fieldsR op n s name src)) ∧ Below w.heap.size w w' := by
  by_cases e1 : op = 1
  · subst e1; exact fields_1 n s name src A m c w
  by_cases e2 : op = 2
  · subst e2; exact fields_2 n s name src A m c w
  by_cases e3 : op = 3
  · subst e3; exact fields_3 n s name src A m c w
  by_cases e4 : op = 4
  · subst e4; exact fields_4 n s name src A m c w h1
  by_cases e5 : op = 5
  · subst e5; exact fields_5 n s name src A m c w h1 h2
  by_cases er : 21 ≤ op ∧ op ≤ 24
  · exact fields_rows op n s name src A m c w er.1 er.2 h1 h3
  · exact fields_other n s name src A m c w op (by omega) (by omega)
end Go.Proofs.YthiimingnmbgmaaDoor

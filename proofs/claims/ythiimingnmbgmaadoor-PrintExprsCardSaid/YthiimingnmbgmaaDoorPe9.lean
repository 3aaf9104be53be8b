/- Parts of this proof, one behind the other: SynE. -/
import Derived.Test.YthiimingnmbgmaaDoorPe8
import Derived.Deep.RegionLaw
import Derived.Deep.RegionWith
namespace Go.Proofs.YthiimingnmbgmaaDoor
open Go.RowKit Go.Afx

theorem noS_nil (s : ByteArray) : noS s = s.toList.isEmpty := by
  unfold noS
  rw [Bool.eq_iff_iff, decide_eq_true_iff, List.isEmpty_iff]
  have h0 : ByteArray.empty.toList = [] := by rw [ByteArray.toList_eq]; rfl
  constructor
  · rintro rfl; exact h0
  · intro h
    exact bs_inj (h.trans h0.symm)

theorem strs_one {w : World} {g : Nat} (T : TypeId) (a : ByteArray) (hg : g = w.heap.size) (ha : okS a) : LsAt (fun _ => True) (w.alloc (.cells #[.string a] T)) 1 SRow (some ⟨g, 0, none⟩) 1 1 [a] :=
  ⟨[[.string a]], RowsAt.lit' _ _ 1 hg rfl (by simp) rfl (by unfold maxLen; omega), fun _ _ _ => trivial, rfl, fun k r x hr hx => by
    cases k with
    | zero => simp at hr hx; subst hr hx; exact ⟨rfl, rfl, ha⟩
    | succ k => simp at hr⟩
theorem strs_two {w : World} {g : Nat} (T : TypeId) (a b : ByteArray) (hg : g = w.heap.size) (ha : okS a) (hb : okS b) : LsAt (fun _ => True) (w.alloc (.cells #[.string a, .string b] T)) 1 SRow (some ⟨g, 0, none⟩) 2 2 [a, b] :=
  ⟨[[.string a], [.string b]], RowsAt.lit' _ _ 2 hg rfl (by simp) rfl (by unfold maxLen; omega), fun _ _ _ => trivial, rfl, fun k r x hr hx => by
    match k with
    | 0 => simp at hr hx; subst hr hx; exact ⟨rfl, rfl, ha⟩
    | 1 => simp at hr hx; subst hr hx; exact ⟨rfl, rfl, hb⟩
    | k + 2 => simp at hr⟩
theorem LsAt.drew {α : Type} {F : Nat → Prop} {w : World} {sz : Nat} {P : List Value → α → Prop} {A : Option Addr} {n c : Nat} {xs : List α} (h : LsAt F w sz P A n c xs) : LsAt F w.drew sz P A n c xs := h.below (Below.refl _ _).drew

section
variable (n : Int) (s name src : ByteArray) (A : Option Addr) (m c : Nat) (w : World)

set_option maxRecDepth 100000 in
set_option maxHeartbeats 1000000 in
theorem fields_1 : Calls Tryd.prog 44 #[.agg #[.int .i64 1, .int .i64 n, .string s, .string name, .string src, .slice A m c]] w fun x w' => x = .returned (.bool (fieldsR 1 n s name src)) ∧ Below w.heap.size w w' := by
  have ha := fun W => args_any 1 W
  have hr : rowsB 1 = false := rfl
  rw [hr] at ha
  have Ha := Lib.hid ha
  clear ha
  by_cases hn : 0 ≤ n
  · go_enter Tryd.func44, Tryd.ntmps44
    go_wp2_with (go_at_call 43; refine (Ha.out _).mono ?_; rintro x w' ⟨rfl, rfl⟩)
    go_region
    all_goals go_wp2
    all_goals
      go_ret
      refine ⟨ret_bool ?_, ?_⟩
      · simp_all [fieldsR, noS_nil]
        try omega
      · repeat (first | exact Below.refl _ _ | refine Below.drew ?_ | refine Below.alloc ?_ (by simp) _ | refine Below.setCell ?_ (by simp) _)
  · have hd : decide (0 ≤ n) = false := by simpa using hn
    go_enter Tryd.func44, Tryd.ntmps44
    go_wp2_with (go_at_call 43; refine (Ha.out _).mono ?_; rintro x w' ⟨rfl, rfl⟩)
    go_region
    all_goals go_wp2
    all_goals
      go_ret
      refine ⟨ret_bool ?_, ?_⟩
      · simp_all [fieldsR, noS_nil]
        try omega
      · repeat (first | exact Below.refl _ _ | refine Below.drew ?_ | refine Below.alloc ?_ (by simp) _ | refine Below.setCell ?_ (by simp) _)

set_option maxRecDepth 100000 in
set_option maxHeartbeats 1000000 in
theorem fields_2 : Calls Tryd.prog 44 #[.agg #[.int .i64 2, .int .i64 n, .string s, .string name, .string src, .slice A m c]] w fun x w' => x = .returned (.bool (fieldsR 2 n s name src)) ∧ Below w.heap.size w w' := by
  have ha := fun W => args_any 2 W
  have hr : rowsB 2 = false := rfl
  rw [hr] at ha
  have Ha := Lib.hid ha
  clear ha
  by_cases hs : s.size ≤ 200
  · go_enter Tryd.func44, Tryd.ntmps44
    go_wp2_with (go_at_call 43; refine (Ha.out _).mono ?_; rintro x w' ⟨rfl, rfl⟩)
    go_region
    all_goals go_wp2
    all_goals
      go_ret
      refine ⟨ret_bool ?_, ?_⟩
      · simp_all [fieldsR, noS_nil]
        try omega
      · repeat (first | exact Below.refl _ _ | refine Below.drew ?_ | refine Below.alloc ?_ (by simp) _ | refine Below.setCell ?_ (by simp) _)
  · have hd : decide (s.size ≤ 200) = false := by simpa using hs
    go_enter Tryd.func44, Tryd.ntmps44
    go_wp2_with (go_at_call 43; refine (Ha.out _).mono ?_; rintro x w' ⟨rfl, rfl⟩)
    go_region
    all_goals go_wp2
    all_goals
      go_ret
      refine ⟨ret_bool ?_, ?_⟩
      · simp_all [fieldsR, noS_nil]
        try omega
      · repeat (first | exact Below.refl _ _ | refine Below.drew ?_ | refine Below.alloc ?_ (by simp) _ | refine Below.setCell ?_ (by simp) _)

set_option maxRecDepth 100000 in
set_option maxHeartbeats 1000000 in
theorem fields_3 : Calls Tryd.prog 44 #[.agg #[.int .i64 3, .int .i64 n, .string s, .string name, .string src, .slice A m c]] w fun x w' => x = .returned (.bool (fieldsR 3 n s name src)) ∧ Below w.heap.size w w' := by
  have ha := fun W => args_any 3 W
  have hr : rowsB 3 = false := rfl
  rw [hr] at ha
  have Ha := Lib.hid ha
  clear ha
  go_enter Tryd.func44, Tryd.ntmps44
  go_wp2_with (go_at_call 43; refine (Ha.out _).mono ?_; rintro x w' ⟨rfl, rfl⟩)
  go_region
  all_goals go_wp2
  all_goals
    go_ret
    refine ⟨ret_bool ?_, ?_⟩
    · simp_all [fieldsR, noS_nil]
      try omega
    · repeat (first | exact Below.refl _ _ | refine Below.drew ?_ | refine Below.alloc ?_ (by simp) _ | refine Below.setCell ?_ (by simp) _)

set_option maxRecDepth 100000 in
set_option maxHeartbeats 1000000 in
theorem fields_other (op : Int) (ho : op < 1 ∨ 5 < op) (hr0 : op < 21 ∨ 24 < op) : Calls Tryd.prog 44 #[.agg #[.int .i64 op, .int .i64 n, .string s, .string name, .string src, .slice A m c]] w fun x w' => x = .returned (.bool (fieldsR op n s name src)) ∧ Below w.heap.size w w' := by
  have ha := fun W => args_any op W
  have hr : rowsB op = false := by simp [rowsB]; omega
  rw [hr] at ha
  have Ha := Lib.hid ha
  clear ha
  have e1 : (op == 1) = false := by simp; omega
  have e2 : (op == 2) = false := by simp; omega
  have e3 : (op == 3) = false := by simp; omega
  have e4 : (op == 4) = false := by simp; omega
  have e5 : (op == 5) = false := by simp; omega
  have Hr := Lib.hid hr
  clear hr
  go_enter Tryd.func44, Tryd.ntmps44
  go_wp2_with (go_at_call 43; refine (Ha.out _).mono ?_; rintro x w' ⟨rfl, rfl⟩)
  all_goals
    go_ret
    refine ⟨ret_bool ?_, ?_⟩
    · simp_all [fieldsR, noS_nil, Hr.out]
      try omega
    · repeat (first | exact Below.refl _ _ | refine Below.drew ?_ | refine Below.alloc ?_ (by simp) _ | refine Below.setCell ?_ (by simp) _)
end
end Go.Proofs.YthiimingnmbgmaaDoor

/- Syntax, part A: sizes: the leaves. -/
import Derived.Test.YtgihhkfppnhdpaaProg
import Derived.Test.YtgihhkfppnhdpaaSynP
import Derived.WalkSpells
import Derived.WalkLawsBesides
import Derived.Deep.QuietTactic
import Derived.BigQuiet
import Derived.BigRegion
import Derived.Outline
import Derived.Lib.Hide
namespace Go.Proofs.Ytgihhkfppnhdpaa
open Go.RowKit Go.Afx


theorem over_any (a b : Int) (w : World) (ha : 0 ≤ a) (hb : 0 ≤ b) (ha' : a ≤ 1000) (hb' : b ≤ 1000) :
    Calls Try.prog 49 #[.agg #[.int .i64 a, .int .i64 b]] w fun e w' => e = .returned (.agg #[.int .i64 (overZ (a, b)).1, .int .i64 (overZ (a, b)).2]) ∧ Below w.heap.size w w' := by
  go_enter Try.func49, Try.ntmps49
  go_wp2
  all_goals
    refine bodyPost_ret (v := .agg #[.int .i64 (overZ (a, b)).1, .int .i64 (overZ (a, b)).2]) ?_ rfl ⟨rfl, ?_⟩
    · simp [results, Try.results49, go_sem, overZ]
      omega
    · exact ((Below.refl _ _).alloc (Nat.le_refl _) _).alloc (by simp) _

theorem full_any (g : Nat) (a b : Int) (w : World) (hk : IsBlk w g 63 #[.int .i64 a, .int .i64 b]) :
    Calls Try.prog 45 #[.pointer (some ⟨g, 0, none⟩)] w fun e w' => e = .returned (.bool (fullZ (a, b))) ∧ w = w' := by
  have h0 := hk.cell 0
  have h1 := hk.cell 1
  simp at h0 h1
  have hlt := hk.lt
  go_enter Try.func45, Try.ntmps45
  go_wp2
  all_goals
    go_ret
    refine ⟨ret_bool ?_, rfl⟩
    simp_all [fullZ]

theorem blk_two {w : World} {g : Nat} {T : TypeId} {a b x y X Y : Int} {o : Obj} (hk : IsBlk w g T #[.int .i64 a, .int .i64 b]) (hx : X = x) (hy : Y = y) :
    IsBlk (((w.setCell ⟨g, 0, none⟩ (.int .i64 X)).setCell ⟨g, 1, none⟩ (.int .i64 Y)).alloc o).drew g T #[.int .i64 x, .int .i64 y] := by
  subst hx hy
  exact ((hk.stored 0 _).stored 1 _).alloc o
theorem ret_ib {a b : Int} {x y : Bool} (h : a = b) (k : x = y) : Ending.returned (.tuple #[.int .i64 a, .bool x]) = .returned (.tuple #[.int .i64 b, .bool y]) := by rw [h, k]

theorem add_any (g : Nat) (a b c d : Int) (w : World) (hk : IsBlk w g 63 #[.int .i64 a, .int .i64 b]) (ha : 0 ≤ a) (ha' : a ≤ 1000) (hc : 0 ≤ c) (hc' : c ≤ 1000) :
    Calls Try.prog 46 #[.pointer (some ⟨g, 0, none⟩), .agg #[.int .i64 c, .int .i64 d]] w fun e w' => e = .returned (.tuple #[]) ∧
      IsBlk w' g 63 #[.int .i64 (addZ (a, b) (c, d)).1, .int .i64 (addZ (a, b) (c, d)).2] ∧ But (fun k => k = g) w w' := by
  have h0 := hk.cell 0
  have h1 := hk.cell 1
  simp at h0 h1
  have hlt := hk.lt
  have hfz := hk.frozen
  go_enter Try.func46, Try.ntmps46
  go_wp2
  go_region
  all_goals go_wp2
  all_goals
    go_end0
    exact ⟨rfl, blk_two hk (by simp only [addZ]; omega) (by simp only [addZ]; omega), ((((But.refl (fun k => k = g) w).setCell (p := ⟨g, 0, none⟩) (.inl rfl) _).setCell (p := ⟨g, 1, none⟩) (.inl rfl) _).alloc _).drew⟩
theorem told_any (g : Nat) (a b : Int) (w : World) (hk : IsBlk w g 63 #[.int .i64 a, .int .i64 b]) :
    Calls Try.prog 32 #[.pointer (some ⟨g, 0, none⟩)] w fun e w' => e = .returned (.tuple #[.int .i64 (toldZ (a, b)).1, .int .i64 (toldZ (a, b)).2]) ∧ Below w.heap.size w w' := by
  have h0 := hk.cell 0
  have h1 := hk.cell 1
  simp at h0 h1
  have hlt := hk.lt
  cases hf : fullZ (a, b) with
  | false =>
    have Hf := Lib.hid hf
    have hc := full_any g a b w hk
    rw [hf] at hc
    have Hc := Lib.hid hc
    clear hc hf
    go_enter Try.func32, Try.ntmps32
    go_wp2_with (go_at_call 45; refine Hc.out.mono ?_; rintro e w' ⟨rfl, rfl⟩)
    go_quiet (fail)
    go_wp2
    go_ret2
    exact ⟨by simp [toldZ, Hf.out], below_drewN (Below.refl _ _) _⟩
  | true =>
    have Hf := Lib.hid hf
    have hc := full_any g a b w hk
    rw [hf] at hc
    have Hc := Lib.hid hc
    clear hc hf
    go_enter Try.func32, Try.ntmps32
    go_wp2_with (go_at_call 45; refine Hc.out.mono ?_; rintro e w' ⟨rfl, rfl⟩)
    go_ret2
    exact ⟨by simp [toldZ, Hf.out], Below.refl _ _⟩

theorem small_any (g : Nat) (a b : Int) (w : World) (hk : IsBlk w g 63 #[.int .i64 a, .int .i64 b]) :
    Calls Try.prog 37 #[.pointer (some ⟨g, 0, none⟩)] w fun e w' => e = .returned (.bool (smallZ (a, b))) ∧ w = w' := by
  have h0 := hk.cell 0
  have h1 := hk.cell 1
  simp at h0 h1
  have hlt := hk.lt
  go_enter Try.func37, Try.ntmps37
  go_wp2
  all_goals
    go_ret
    refine ⟨ret_bool ?_, rfl⟩
    simp_all [smallZ]
    try omega

theorem args_any (op : Int) (w : World) :
    Calls Try.prog 86 #[.int .i64 op] w fun e w' => e = .returned (.tuple #[.int .i64 (arityB op), .bool (rowsB op)]) ∧ w = w' := by
  go_enter Try.func86, Try.ntmps86
  go_wp2
  all_goals
    go_ret2
    (try simp only [beq_iff_eq, beq_eq_false_iff_ne, ne_eq] at *)
    first | (exfalso; omega) | exact ⟨ret_ib (by unfold arityB; repeat (first | rw [if_pos (by omega)] | rw [if_neg (by omega)])) (by simp [rowsB]; try omega), by first | rfl | trivial⟩
end Go.Proofs.Ytgihhkfppnhdpaa

/- Syntax, part H: has, within. -/
import Derived.Test.YtgihhkfppnhdpaaSynG
namespace Go.Proofs.Ytgihhkfppnhdpaa
open Go.RowKit Go.Afx

theorem has_any (ok : Bool) (s : ByteArray) (w : World) (hs : okS s) : Calls Try.prog 88 #[.bool ok, .string s] w fun x w' => ∃ A n c, x = .returned (.slice A n c) ∧ LsAt (fun _ => True) w' 1 SRow A n c (if ok then [s] else []) ∧ Below w.heap.size w w' := by
  cases ok
  · go_enter Try.func88, Try.ntmps88
    go_wp2
    go_ret
    exact ⟨none, 0, 0, rfl, LsAt.nil_ _ _ _ _, Below.refl _ _⟩
  · go_enter Try.func88, Try.ntmps88
    go_wp2
    go_ret
    exact ⟨_, 1, 1, rfl, strs_one 9 s rfl hs, (Below.refl _ _).alloc (Nat.le_refl _) _⟩

theorem within_any (n lo hi : Int) (w : World) : Calls Try.prog 54 #[.int .i64 n, .int .i64 lo, .int .i64 hi] w fun x w' => x = .returned (.bool (decide (lo ≤ n) && decide (n ≤ hi))) ∧ w = w' := by
  go_enter Try.func54, Try.ntmps54
  go_wp2
  all_goals
    go_ret
    refine ⟨ret_bool ?_, rfl⟩
    rw [Bool.eq_iff_iff]
    simp
    try omega
end Go.Proofs.Ytgihhkfppnhdpaa

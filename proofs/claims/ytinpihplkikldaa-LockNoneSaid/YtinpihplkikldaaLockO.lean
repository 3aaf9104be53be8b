/- Lock, part O: of no table nothing comes. -/
import Derived.Test.YtinpihplkikldaaLockM
namespace Go.Proofs.Ytinpihplkikldaa
open Go.RowKit Go.Afx

theorem askNil (id : Int) (v : Value) (w : World) : Calls Try.prog 38 #[.pointer none, .int .i64 id, v] w fun e w' => e = .returned (.int .i64 1) ∧ w = w' := by
  go_enter Try.func38, Try.ntmps38
  go_wp2
  go_ret
  exact ⟨rfl, rfl⟩
theorem grantNil (v : Value) (w : World) : Calls Try.prog 37 #[.pointer none, v] w fun e w' => e = .returned (.int .i64 1) ∧ w = w' := by
  go_enter Try.func37, Try.ntmps37
  go_wp2
  go_ret
  exact ⟨rfl, rfl⟩
theorem freeNil (v : Value) (w : World) : Calls Try.prog 36 #[.pointer none, v] w fun e w' => e = .returned (.int .i64 1) ∧ w = w' := by
  go_enter Try.func36, Try.ntmps36
  go_wp2
  go_ret
  exact ⟨rfl, rfl⟩
theorem idsNil (f : Value) (w : World) : Calls Try.prog 65 #[.pointer none, f] w fun e w' => e = .returned (.slice none 0 0) ∧ w = w' := by
  go_enter Try.func65, Try.ntmps65
  go_wp2
  go_ret
  exact ⟨rfl, rfl⟩
theorem readyNil (w : World) : Calls Try.prog 35 #[.pointer none] w fun e w' => e = .returned (.slice none 0 0) ∧ Below w.heap.size w w' := by
  go_enter Try.func35, Try.ntmps35
  go_wp2_with (go_at_call 65; refine (idsNil _ _).mono ?_; rintro e w' ⟨rfl, rfl⟩)
  go_ret
  exact ⟨rfl, (Below.refl _ _).alloc (Nat.le_refl _) _⟩
theorem waitNil (w : World) : Calls Try.prog 34 #[.pointer none] w fun e w' => e = .returned (.slice none 0 0) ∧ Below w.heap.size w w' := by
  go_enter Try.func34, Try.ntmps34
  go_wp2_with (go_at_call 65; refine (idsNil _ _).mono ?_; rintro e w' ⟨rfl, rfl⟩)
  go_ret
  exact ⟨rfl, (Below.refl _ _).alloc (Nat.le_refl _) _⟩
theorem wantsNil (id : Int) (w : World) : Calls Try.prog 33 #[.pointer none, .int .i64 id] w fun e w' => e = .returned (.slice none 0 0) ∧ w = w' := by
  go_enter Try.func33, Try.ntmps33
  go_wp2
  go_ret
  exact ⟨rfl, rfl⟩

theorem insNil (w : World) : Calls Try.prog 118 #[.slice none 0 0, .int .i64 0, .int .i64 0] w fun e w' => e = .returned (.tuple #[]) ∧ w = w' := by
  go_enter Try.func118, Try.ntmps118
  go_wp2
  refine wp_loop_rounds 1 ?_
  rw [rounds_succ]
  go_wp2
  go_end0
  exact ⟨rfl, rfl⟩
theorem pdqNil (k : Int) (w : World) : Calls Try.prog 96 #[.slice none 0 0, .int .i64 0, .int .i64 0, .int .i64 k] w fun e w' => e = .returned (.tuple #[]) ∧ w = w' := by
  go_enter Try.func96, Try.ntmps96
  go_wp2
  refine wp_loop_rounds 1 ?_
  rw [rounds_succ]
  go_wp2_with (go_at_call 118; refine (insNil _).mono ?_; rintro e w' ⟨rfl, rfl⟩)
  refine bodyPost_ret (results_none rfl _ _ _) rfl ?_
  exact ⟨rfl, rfl⟩
/-- some number, and nothing has turned -/
def SomeI (w : World) (e : Ending) (w' : World) : Prop := ∃ k : Int, e = .returned (.int .i64 k) ∧ w = w'
set_option maxRecDepth 100000 in
set_option maxHeartbeats 1000000 in
theorem len64Zero (w : World) : Calls Try.prog 128 #[.int .u64 0] w (SomeI w) := by
  go_enter Try.func128, Try.ntmps128
  go_wp2
  go_ret
  exact ⟨_, rfl, rfl⟩
theorem lenZero (w : World) : Calls Try.prog 97 #[.int .u64 0] w (SomeI w) := by
  go_enter Try.func97, Try.ntmps97
  go_wp2_with (go_at_call 128; refine (len64Zero _).mono ?_; rintro e w' ⟨k, rfl, rfl⟩)
  go_ret
  exact ⟨_, rfl, rfl⟩
theorem sortNil (w : World) : Calls Try.prog 67 #[.slice none 0 0] w fun e w' => e = .returned (.tuple #[]) ∧ w = w' := by
  go_enter Try.func67, Try.ntmps67
  go_wp2_with (first | (go_at_call 97; refine (lenZero _).mono ?_; rintro e w' ⟨k, rfl, rfl⟩) | (go_at_call 96; refine (pdqNil _ _).mono ?_; rintro e w' ⟨rfl, rfl⟩))
  go_end0
  exact ⟨rfl, rfl⟩
theorem holdNil (w : World) : Calls Try.prog 32 #[.pointer none] w fun e w' => e = .returned (.slice none 0 0) ∧ Below w.heap.size w w' := by
  go_enter Try.func32, Try.ntmps32
  go_wp2_with (first | (go_at_call 65; refine (idsNil _ _).mono ?_; rintro e w' ⟨rfl, rfl⟩) | (go_at_call 67; refine (sortNil _).mono ?_; rintro e w' ⟨rfl, rfl⟩))
  go_ret
  exact ⟨rfl, (Below.refl _ _).alloc (Nat.le_refl _) _⟩

set_option maxHeartbeats 1000000 in
theorem none_walk (id : Int) (s : ByteArray) (x : Bool) (w : World) :
    Calls Try.prog 8 #[.int .i64 id, .agg #[.string s, .bool x]] w fun e w' => e = .returned (.bool true) ∧ Below w.heap.size w w' := by
  by_cases hs : 100 < s.size
  · go_enter Try.func8, Try.ntmps8
    go_wp2_with (go_at_call 10; refine (awake_any _).mono ?_; rintro e w2 ⟨rfl, hb2⟩)
    go_ret
    exact ⟨rfl, ((Below.refl _ _).alloc (Nat.le_refl _) _).trans (hb2.mono (by simp))⟩
  · go_enter Try.func8, Try.ntmps8
    go_wp2_with (first
      | (go_at_call 38; refine (askNil _ _ _).mono ?_; rintro e w' ⟨rfl, rfl⟩)
      | (go_at_call 37; refine (grantNil _ _).mono ?_; rintro e w' ⟨rfl, rfl⟩)
      | (go_at_call 36; refine (freeNil _ _).mono ?_; rintro e w' ⟨rfl, rfl⟩)
      | (go_at_call 35; refine (readyNil _).mono ?_; rintro e w3 ⟨rfl, hb3⟩)
      | (go_at_call 34; refine (waitNil _).mono ?_; rintro e w4 ⟨rfl, hb4⟩)
      | (go_at_call 32; refine (holdNil _).mono ?_; rintro e w5 ⟨rfl, hb5⟩)
      | (go_at_call 33; refine (wantsNil _ _).mono ?_; rintro e w' ⟨rfl, rfl⟩)
      | (go_at_call 10; refine (awake_any _).mono ?_; rintro e w2 ⟨rfl, hb2⟩))
    go_ret
    refine ⟨rfl, ?_⟩
    have k3 := hb3.size
    have k4 := hb4.size
    have k5 := hb5.size
    simp at k3
    have h3 : Below w.heap.size w w3 := (((((Below.refl w.heap.size w).alloc (Nat.le_refl _) _).alloc (by simp) _).alloc (by simp; omega) _).alloc (by simp; omega) _).trans (hb3.mono (by simp; omega))
    exact ((h3.trans (hb4.mono (by omega))).trans (hb5.mono (by omega))).trans (hb2.mono (by omega))
end Go.Proofs.Ytinpihplkikldaa

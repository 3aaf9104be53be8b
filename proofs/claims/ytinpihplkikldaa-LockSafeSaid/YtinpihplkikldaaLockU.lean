/- Lock, part U: the statement's own ready. -/
import Derived.Test.YtinpihplkikldaaLockT
namespace Go.Proofs.Ytinpihplkikldaa
open Go.RowKit Go.Afx

theorem drewN_drewN (w : World) (m k : Nat) : (w.drewN m).drewN k = w.drewN (m + k) := by simp [World.drewN, Nat.add_assoc]
theorem quiet_drawn {P : Program} {f : FuncId} {args : Array Value} {w : World} {m n : Nat} {v : Value} (h : Calls P f args (w.drewN (m + n)) fun e w' => e = .returned v ∧ ∃ k, w' = (w.drewN (m + n)).drewN k) :
    Calls P f args (w.drewN (m + n)) fun e w' => e = .returned v ∧ ∃ k, w' = w.drewN (m + k) := by
  refine h.mono ?_
  rintro e w' ⟨rfl, k, rfl⟩
  exact ⟨rfl, n + k, by simp [World.drewN, Nat.add_assoc]⟩

set_option maxRecDepth 100000 in
set_option maxHeartbeats 2000000 in
theorem ready_ref (base : Nat) (A : Option Addr) (n c : Nat) (L : List AskD) (rows) (i : Nat) (hi : i < n) (w : World) (hL : LisAt w base A n c L rows) :
    Calls Try.prog 64 #[.slice A n c, .int .i64 i] w fun e w' => ∃ b : Bool, e = .returned (.bool b) ∧ ∃ k, w' = w.drewN k := by
  have hn := hL.n_le
  obtain ⟨g, Ai, ci, a, hA, hbg, hgl, hLi, hi0, hi1, hi2, hwi, hfz, hrow⟩ := hL.get hi
  subst hA
  clear hLi hrow
  go_enter Try.func64, Try.ntmps64
  go_wp2
  go_loopw [5] (fun k wr => ∃ x : Nat, x ≤ n ∧ k = .int .i64 x ∧ ∃ m, wr = w.drewN m) (fun k _ => n - (intOf k).toNat)
  case atStart => exact ⟨0, Nat.zero_le _, rfl, 0, rfl⟩
  case round =>
    obtain ⟨x, hx, rfl, m, rfl⟩ := hrel
    by_cases hlt : x < n
    · obtain ⟨g', Ak, ck, b, hA', hbg', hgl', hLk, hc0, hc1, hc2, hwk, hfzk, hrowk⟩ := hL.get hlt
      simp only [Option.some.injEq, Addr.mk.injEq, and_true] at hA'
      subst hA'
      clear hLk hrowk
      generalize b.held = bh at *
      by_cases hxi : x = i
      · have hne : ((x : Int) != (i : Int)) = false := by simp [hxi]
        clear hxi
        go_wp2
        go_quiet (fail)
        go_wp2
        go_roundw
        case rel => exact ⟨x + 1, by omega, by go_num, _, rfl⟩
        case measure => simp [intOf]; omega
      · have hne : ((x : Int) != (i : Int)) = true := by simp; omega
        clear hxi
        cases bh
        · by_cases hxlt : x < i
          · obtain ⟨cv, hcv⟩ : ∃ cv, clashL b.ws a.ws = cv := ⟨_, rfl⟩
            have hcall := fun k => clash_ref Ak Ai _ ck _ ci b.ws a.ws (w.drewN k) (hwk.below (below_drewN (Below.refl _ _) k)) (hwi.below (below_drewN (Below.refl _ _) k))
            rw [hcv] at hcall
            have Hcall := Lib.hid hcall
            clear hcall hcv
            cases cv
            · go_wp2
              go_quiet ((go_at_call 12; exact quiet_drawn (Hcall.out _)))
              go_wp2
              go_roundw
              case rel => exact ⟨x + 1, by omega, by go_num, _, rfl⟩
              case measure => simp [intOf]; omega
            · go_wp2
              go_quiet ((go_at_call 12; exact quiet_drawn (Hcall.out _)))
              go_wp2
              go_ret
              exact ⟨false, rfl, _, drewN_drewN _ _ _⟩
          · go_wp2
            go_quiet (fail)
            go_wp2
            go_roundw
            case rel => exact ⟨x + 1, by omega, by go_num, _, rfl⟩
            case measure => simp [intOf]; omega
        · obtain ⟨cv, hcv⟩ : ∃ cv, clashL b.ws a.ws = cv := ⟨_, rfl⟩
          have hcall := fun k => clash_ref Ak Ai _ ck _ ci b.ws a.ws (w.drewN k) (hwk.below (below_drewN (Below.refl _ _) k)) (hwi.below (below_drewN (Below.refl _ _) k))
          rw [hcv] at hcall
          have Hcall := Lib.hid hcall
          clear hcall hcv
          cases cv
          · go_wp2
            go_quiet ((go_at_call 12; exact quiet_drawn (Hcall.out _)))
            go_wp2
            go_roundw
            case rel => exact ⟨x + 1, by omega, by go_num, _, rfl⟩
            case measure => simp [intOf]; omega
          · go_wp2
            go_quiet ((go_at_call 12; exact quiet_drawn (Hcall.out _)))
            go_wp2
            go_ret
            exact ⟨false, rfl, _, drewN_drewN _ _ _⟩
    · go_wp2
      go_ret
      exact ⟨_, rfl, _, rfl⟩
end Go.Proofs.Ytinpihplkikldaa

/- Lock, part C: the sort. -/
import Derived.Test.YtinpihplkikldaaLockA
import Derived.Deep.RegionHeld3
import Derived.Deep.DeepCutAuto
import Derived.RegionTactic
import Derived.BigRegion
namespace Go.Proofs.Ytinpihplkikldaa
open Go.RowKit Go.Afx

theorem cmpClosure_any (a b : ByteArray) (x y : Bool) (w : World) :
    Calls Try.prog 41 #[.agg #[.string a, .bool x], .agg #[.string b, .bool y]] w fun e w' => e = .returned (.int .i64 (cmpS a b)) ∧ Below w.heap.size w w' := by
  go_enter Try.func41, Try.ntmps41
  go_wp2_with (go_at_call 42; refine (compare_any _ _ _).mono ?_; rintro e w' ⟨rfl, rfl⟩)
  go_ret
  exact ⟨rfl, ((Below.refl _ _).alloc (Nat.le_refl _) _).alloc (by simp) _⟩

theorem cmpS_neg {a b : ByteArray} : cmpS a b < 0 ↔ Op.bytesLess a.toList b.toList = true := by
  unfold cmpS
  split
  · simp [*]
  · split <;> simp [*]

/-- what a sort leaves: a permutation, not falling by its names -/
def Sorts (base : Nat) (A : Option Addr) (n c : Nat) (ws : List Wt) (w : World) (e : Ending) (w' : World) : Prop :=
  ∃ ws' : List Wt, ws'.Perm ws ∧ ws'.Pairwise leW ∧ e = .returned (.tuple #[]) ∧ w'.ownsRow base 31 2 (.slice A n c) n (flatW ws') ∧ But (fun k => A.map (·.block) = some k) w w'

set_option maxHeartbeats 1000000 in
theorem insertion_all (base : Nat) (A : Option Addr) (n c : Nat) (ws : List Wt) (hn : n ≤ 1000) (hl : ws.length = n) (w : World) (hown : w.ownsRow base 31 2 (.slice A n c) n (flatW ws)) :
    Calls Try.prog 101 #[.slice A n c, .int .i64 0, .int .i64 n, .func (.func 41) #[] #[]] w (Sorts base A n c ws w) := by
  have Hl := Lib.hid hl; clear hl
  go_enter Try.func101, Try.ntmps101
  go_wp2
  go_loopw [8] (fun i wr => ∃ (k : Nat) (ws' : List Wt), 1 ≤ k ∧ i = .int .i64 k ∧ ws'.Perm ws ∧ (ws'.take k).Pairwise leW ∧ wr.ownsRow base 31 2 (.slice A n c) n (flatW ws') ∧ But (fun k => A.map (·.block) = some k) w wr) (fun i _ => n - (intOf i).toNat)
  case atStart => exact ⟨1, ws, by omega, rfl, .refl _, by match ws with | [] => simp | [_] => simp | _ :: _ :: _ => simp, hown, But.refl _ _⟩
  case round =>
    obtain ⟨k, ws', h1, rfl, hperm, hsort, hown', hbut⟩ := hrel
    have Hsort := Lib.hid hsort; clear hsort
    by_cases hlt : k < n
    · have hlen' : Hid (ws'.length = n) := Lib.hid (hperm.length_eq.trans Hl.out)
      obtain ⟨xa, xx, hxk⟩ : ∃ xa xx, ws'[k]? = some (xa, xx) := ⟨_, _, List.getElem?_eq_getElem (by rw [hlen'.out]; exact hlt)⟩
      have Hsplit : Hid (ws' = ws'.take k ++ (xa, xx) :: ws'.drop (k + 1)) := by
        refine Lib.hid ?_
        obtain ⟨hk', hx'⟩ := List.getElem?_eq_some_iff.1 hxk
        rw [← hx', ← List.drop_eq_getElem_cons hk', List.take_append_drop]
      have Htl : Hid ((ws'.take k).length = k) := Lib.hid (by rw [List.length_take, hlen'.out]; omega)
      have Hxk := Lib.hid hxk; clear hxk
      go_wp2
      go_loopw [9] (fun i wr => ∃ (j : Nat) (P R : List Wt), j = P.length ∧ i = .int .i64 j ∧ P ++ R = ws'.take k ∧ (∀ r ∈ R, leW (xa, xx) r) ∧ wr.ownsRow base 31 2 (.slice A n c) n (flatW (P ++ (xa, xx) :: (R ++ ws'.drop (k + 1)))) ∧ But (fun k => A.map (·.block) = some k) w wr) (fun i _ => (intOf i).toNat)
      case atStart => exact ⟨k, ws'.take k, [], Htl.out.symm, rfl, by simp, by simp, by rw [List.nil_append, ← Hsplit.out]; exact hown', hbut⟩
      case round =>
        obtain ⟨j, P, R, hjP, rfl, hPR, hR, hown'', hbut'⟩ := hrel
        have HjP := Lib.hid hjP; clear hjP
        have HPR := Lib.hid hPR; clear hPR
        have HR := Lib.hid hR; clear hR
        have hjk : j ≤ k := by
          have h := congrArg List.length HPR.out
          rw [List.length_append, Htl.out, ← HjP.out] at h
          omega
        -- behind the loop: all up to k is sorted
        have Hout : Hid ((∀ p ∈ P, leW p (xa, xx)) → ((P ++ (xa, xx) :: (R ++ ws'.drop (k + 1))).Perm ws ∧ ((P ++ (xa, xx) :: (R ++ ws'.drop (k + 1))).take (k + 1)).Pairwise leW)) := by
          refine Lib.hid fun hP => ⟨?_, ?_⟩
          · have h1 : (P ++ (xa, xx) :: (R ++ ws'.drop (k + 1))).Perm (P ++ R ++ (xa, xx) :: ws'.drop (k + 1)) := by
              rw [List.append_assoc]
              exact List.Perm.append_left P List.perm_middle.symm
            refine h1.trans ?_
            rw [HPR.out, ← Hsplit.out]
            exact hperm
          · have h2 : (P ++ (xa, xx) :: (R ++ ws'.drop (k + 1))).take (k + 1) = P ++ (xa, xx) :: R := by
              have e : P ++ (xa, xx) :: (R ++ ws'.drop (k + 1)) = (P ++ (xa, xx) :: R) ++ ws'.drop (k + 1) := by simp
              rw [e]
              have hl : (P ++ (xa, xx) :: R).length = k + 1 := by
                have h := congrArg List.length HPR.out
                rw [List.length_append, Htl.out] at h
                rw [List.length_append, List.length_cons]
                omega
              rw [← hl, List.take_left]
            rw [h2]
            exact ins_sorted (by rw [HPR.out]; exact Hsort.out) HR.out hP
        by_cases h0 : 0 < j
        · obtain ⟨g, cap, hA, hb, hg⟩ := hown''.form (by omega)
          simp only [Value.slice.injEq] at hA
          obtain ⟨rfl, _, rfl⟩ := hA
          obtain ⟨P', yb, yy, Hpp⟩ : ∃ P' yb yy, Hid (P = P' ++ [(yb, yy)]) := by
            have hne : P ≠ [] := by rintro rfl; have := HjP.out; simp at this; omega
            exact ⟨P.dropLast, (P.getLast hne).1, (P.getLast hne).2, Lib.hid (List.dropLast_concat_getLast hne).symm⟩
          have Hj' : Hid (j = P'.length + 1) := Lib.hid (by rw [HjP.out, Hpp.out]; simp)
          have He : Hid (P ++ (xa, xx) :: (R ++ ws'.drop (k + 1)) = P' ++ (yb, yy) :: (xa, xx) :: (R ++ ws'.drop (k + 1))) := Lib.hid (by rw [Hpp.out]; simp)
          have hx := flatW_at P (R ++ ws'.drop (k + 1)) xa xx j HjP.out
          have hy := flatW_at P' ((xa, xx) :: (R ++ ws'.drop (k + 1))) yb yy (j - 1) (by have := Hj'.out; omega)
          rw [← He.out] at hy
          have hc0 : wr.cell? ⟨g, j * 2, none⟩ = some (.string xa) := (hown''.cellAt (j * 2) (by omega)).trans hx.1
          have hc1 : wr.cell? ⟨g, j * 2 + 1, none⟩ = some (.bool xx) := (hown''.cellAt (j * 2 + 1) (by omega)).trans hx.2
          have hd0 : wr.cell? ⟨g, (j - 1) * 2, none⟩ = some (.string yb) := (hown''.cellAt ((j - 1) * 2) (by omega)).trans hy.1
          have hd1 : wr.cell? ⟨g, (j - 1) * 2 + 1, none⟩ = some (.bool yy) := (hown''.cellAt ((j - 1) * 2 + 1) (by omega)).trans hy.2
          clear hx hy
          have hbig : ((j : Int)) ≤ 1000 := by omega
          have hw1 : IntKind.i64.wrap ((j : Int) - 1) = (j : Int) - 1 := IntWalk.i64_in _ (by omega)
          have hw2 : 0 ≤ (j : Int) - 1 := by omega
          have hw3 : ((j : Int) - 1).toNat = j - 1 := by omega
          have ht : decide ((0 : Int) < (j : Int)) = true := by simp; omega
          have hj1 : j - 1 < n := by omega
          have hw4 : (j : Int) - 1 < (n : Int) := by omega
          have hw5 : (j : Int) < (n : Int) := by omega
          have hw6 : 1 ≤ (j : Int) := by omega
          have hw7 : (j : Int) ≤ (n : Int) := by omega
          have hw8 : 1 ≤ j := by omega
          have hj0 : j < n := by omega
          by_cases hcs : cmpS xa yb < 0
          · go_wp2
            go_region_held3 (fun w' => w'.cell? ⟨g, j * 2, none⟩ = some (.string xa) ∧ w'.cell? ⟨g, j * 2 + 1, none⟩ = some (.bool xx) ∧ w'.cell? ⟨g, (j - 1) * 2, none⟩ = some (.string yb) ∧ w'.cell? ⟨g, (j - 1) * 2 + 1, none⟩ = some (.bool yy) ∧ g < w'.heap.size) ((first | (simp [*]; done) | (refine ⟨?_, ?_, ?_, ?_, ?_⟩ <;> first | (rw [hcc _ _ (by assumption)]; assumption) | omega)))
              (first | (go_at_call 41; refine (cmpClosure_any _ _ _ _ _).mono ?_; rintro e w' ⟨rfl, hb⟩; obtain ⟨hcc, _⟩ := old_reads hb; have hsz := hb.size; have hbel : Below wr.heap.size wr w' := ⟨hb.os, hb.tape, hb.output, hb.size, hb.block⟩; have hown3 := own_below hown'' hbel; have hfz := hown3.frozenAt))
            go_wp2
            obtain ⟨hc0, hc1, hd0, hd1, hsg⟩ : w'.cell? ⟨g, j * 2, none⟩ = some (.string xa) ∧ w'.cell? ⟨g, j * 2 + 1, none⟩ = some (.bool xx) ∧ w'.cell? ⟨g, (j - 1) * 2, none⟩ = some (.string yb) ∧ w'.cell? ⟨g, (j - 1) * 2 + 1, none⟩ = some (.bool yy) ∧ g < w'.heap.size := by assumption
            go_region
            go_wp2
            go_roundw
            case rel =>
              refine ⟨j - 1, P', (yb, yy) :: R, by have := Hj'.out; omega, by go_num, by rw [← HPR.out, Hpp.out]; simp, ?_, ?_, ?_⟩
              · intro r hr
                rcases List.mem_cons.1 hr with rfl | hr
                · exact leW_of_lt (cmpS_neg.1 hcs)
                · exact HR.out r hr
              · rw [He.out] at hown3
                exact (own_swap hown3 Hj'.out).drew
              · exact (((((hbut'.then_below hbel).setCell (p := ⟨g, j * 2, none⟩) (.inl rfl) _).setCell (p := ⟨g, j * 2 + 1, none⟩) (.inl rfl) _).setCell (p := ⟨g, (j - 1) * 2, none⟩) (.inl rfl) _).setCell (p := ⟨g, (j - 1) * 2 + 1, none⟩) (.inl rfl) _).drew
            case measure => simp [intOf]; omega
          · have hcs' : decide (cmpS xa yb < 0) = false := by simpa using hcs
            have Hfin := Hout.out (by
              rw [Hpp.out]
              refine last_le (y := (yb, yy)) (by rw [← Hpp.out]; have h := Hsort.out; rw [← HPR.out, List.pairwise_append] at h; exact h.1) ?_
              have := mt cmpS_neg.2 hcs
              simpa [leW, ltW] using this)
            have HF := Lib.hid Hfin; clear Hfin hcs
            go_wp2
            go_region_held3 (fun w' => w'.cell? ⟨g, j * 2, none⟩ = some (.string xa) ∧ w'.cell? ⟨g, j * 2 + 1, none⟩ = some (.bool xx) ∧ w'.cell? ⟨g, (j - 1) * 2, none⟩ = some (.string yb) ∧ w'.cell? ⟨g, (j - 1) * 2 + 1, none⟩ = some (.bool yy) ∧ g < w'.heap.size) ((first | (simp [*]; done) | (refine ⟨?_, ?_, ?_, ?_, ?_⟩ <;> first | (rw [hcc _ _ (by assumption)]; assumption) | omega)))
              (first | (go_at_call 41; refine (cmpClosure_any _ _ _ _ _).mono ?_; rintro e w' ⟨rfl, hb⟩; obtain ⟨hcc, _⟩ := old_reads hb; have hsz := hb.size; have hbel : Below wr.heap.size wr w' := ⟨hb.os, hb.tape, hb.output, hb.size, hb.block⟩; have hown3 := own_below hown'' hbel; have hfz := hown3.frozenAt))
            go_wp2
            go_roundw
            case rel => exact ⟨k + 1, _, by omega, by go_num, HF.out.1, HF.out.2, hown3, hbut'.then_below hbel⟩
            case measure => simp [intOf]; omega
        · have HF : Hid (_) := Lib.hid (Hout.out (by
            have e : P = [] := List.eq_nil_of_length_eq_zero (by have := HjP.out; omega)
            rw [e]; simp))
          obtain rfl : j = 0 := by omega
          go_wp2
          go_quiet (fail)
          go_wp2
          go_roundw
          case rel => exact ⟨k + 1, _, by omega, by go_num, HF.out.1, HF.out.2, hown'', hbut'.drewN _⟩
          case measure => simp [intOf]; omega
    · go_wp2
      go_end0
      exact ⟨ws', hperm, by have h := Hsort.out; rwa [List.take_of_length_le (by rw [hperm.length_eq, Hl.out]; omega)] at h, rfl, hown', hbut⟩
end Go.Proofs.Ytinpihplkikldaa

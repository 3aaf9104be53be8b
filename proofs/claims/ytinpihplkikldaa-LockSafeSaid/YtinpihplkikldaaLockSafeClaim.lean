/- 'affluxlaw22.LockSafe' returns true for every list of acts, and the list reads afterwards as it read before. No condition. -/
import Derived.Test.YtinpihplkikldaaRows
import Derived.Test.YtinpihplkikldaaLockZ
import Derived.Test.YtinpihplkikldaaRead
import Derived.ProofKit
import Derived.OpenShut
import Derived.ChangeOld
import Derived.Lib.SmallJoins
namespace Go.Proofs.Ytinpihplkikldaa
open Go.ChangeShapes Go.WideShapes Go.ChangeAt Go.RowKit Go.Afx Go.Joins

theorem safe_own : ownKnob Try.prog.godebug = none := by kernel_rfl
theorem safe_laidOut : laidOutB Try.prog = true := by kernel_rfl

theorem safe_cellsStr : Try.prog.cellsOf 9 = 1 := by kernel_rfl
theorem safe_cellsBool : Try.prog.cellsOf 4 = 1 := by kernel_rfl
theorem safe_cellsInt : Try.prog.cellsOf 3 = 1 := by kernel_rfl
theorem safe_cellsInts : Try.prog.cellsOf 24 = 1 := by kernel_rfl
theorem safe_cellsWants : Try.prog.cellsOf 22 = 1 := by kernel_rfl
theorem safe_two {r : List Value} (h : r.length = 2) : ∃ u v, r = [u, v] := by
  match r, h with
  | [u, v], _ => exact ⟨u, v, rfl⟩
theorem safe_one {r : List Value} (h : r.length = 1) : ∃ u, r = [u] := by
  match r, h with
  | [u], _ => exact ⟨u, rfl⟩
theorem safe_four {r : List Value} (h : r.length = 4) : ∃ u v x y, r = [u, v, x, y] := by
  match r, h with
  | [u, v, x, y], _ => exact ⟨u, v, x, y, rfl⟩

section
variable {H : Type} {enc : TypeId × Value → H} {w : World} {base : Nat} {spare : Nat → Bool} {held : Bool}

theorem safe_wants {fuel n c : Nat} {A : Option Addr} {x : DataW H × List MemPlace} (h : DataW.trod enc Try.prog w base spare held fuel 22 [.slice A n c] = some x) : ∃ ws, WAt w A n c ws := by
  obtain ⟨rows, hr, hrow⟩ := rows_of_trod (sz := 2) Try.underlying22 (by kernel_rfl) (by decide) h
  obtain ⟨ws, rfl⟩ := rows_map wrow (rows := rows) fun k r hk => by
    obtain ⟨hl, m, y, ht⟩ := hrow k r hk
    obtain ⟨u, v, rfl⟩ := safe_two hl
    obtain ⟨y0, y1, q, _, _, h0, h1⟩ := trod_struct2 Try.underlying31 ht
    simp only [safe_cellsStr, safe_cellsBool, List.drop_zero, List.drop_succ_cons, List.take_succ_cons, List.take_zero] at h0 h1
    obtain ⟨s, e0, _⟩ := DataW.trod_string Try.underlying9 h0
    obtain ⟨b, e1, _⟩ := DataW.trod_bool Try.underlying4 h1
    simp only [List.cons.injEq, and_true] at e0 e1
    exact ⟨(s, b), by rw [e0, e1]; rfl⟩
  exact ⟨ws, hr⟩

theorem safe_ints {fuel n c : Nat} {A : Option Addr} {x : DataW H × List MemPlace} (h : DataW.trod enc Try.prog w base spare held fuel 24 [.slice A n c] = some x) : ∃ xs, IAt w A n c xs := by
  obtain ⟨rows, hr, hrow⟩ := rows_of_trod (sz := 1) Try.underlying24 (by kernel_rfl) (by decide) h
  obtain ⟨xs, rfl⟩ := rows_map (fun x : Int => [Value.int .i64 x]) (rows := rows) fun k r hk => by
    obtain ⟨hl, m, y, ht⟩ := hrow k r hk
    obtain ⟨s, e0, _⟩ := DataW.trod_int Try.underlying3 ht
    exact ⟨s, e0⟩
  exact ⟨xs, hr⟩

theorem safe_slice {t e : TypeId} {fuel : Nat} {v : Value} {x : DataW H × List MemPlace} (ht : Try.prog.underlying t = some (.slice e)) (h : DataW.trod enc Try.prog w base spare held fuel t [v] = some x) : ∃ A n c, v = .slice A n c := by
  rcases DataW.trod_slice ht h with ⟨hcs, _⟩ | ⟨a, len, cap, _, _, _, _, hcs, _⟩
  · injection hcs with hcs; exact ⟨_, _, _, hcs⟩
  · injection hcs with hcs; exact ⟨_, _, _, hcs⟩

theorem safe_acts {fuel n c : Nat} {A : Option Addr} {x : DataW H × List MemPlace} (h : DataW.trod enc Try.prog w base spare held fuel 27 [.slice A n c] = some x) : ∃ acts, ActsAt w A n c acts := by
  obtain ⟨rows, hr, hrow⟩ := rows_of_trod (sz := 4) Try.underlying27 (by kernel_rfl) (by decide) h
  have key : ∀ r ∈ rows, ∃ a, actRow w r a := fun r hrm => by
    obtain ⟨k, hk⟩ := List.mem_iff_getElem?.1 hrm
    obtain ⟨hl, m, y, ht⟩ := hrow k r hk
    obtain ⟨u0, u1, u2, u3, rfl⟩ := safe_four hl
    obtain ⟨y0, y1, y2, y3, q, _, _, h0, h1, h2, h3⟩ := trod_struct4 Try.underlying26 ht
    simp only [safe_cellsInt, safe_cellsInts, safe_cellsWants, List.drop_zero, List.drop_succ_cons, List.take_succ_cons, List.take_zero] at h0 h1 h2 h3
    obtain ⟨k0, e0, _⟩ := DataW.trod_int Try.underlying3 h0
    obtain ⟨k1, e1, _⟩ := DataW.trod_int Try.underlying3 h1
    obtain ⟨A2, n2, c2, e2⟩ := safe_slice Try.underlying24 h2
    obtain ⟨A3, n3, c3, e3⟩ := safe_slice Try.underlying22 h3
    simp only [List.cons.injEq, and_true] at e0 e1
    subst e0 e1 e2 e3
    obtain ⟨xs, hx⟩ := safe_ints h2
    obtain ⟨ws, hw⟩ := safe_wants h3
    exact ⟨⟨k0, k1, xs, ws⟩, A2, n2, c2, A3, n3, c3, rfl, hx, hw⟩
  have all : ∀ (l : List (List Value)), (∀ r ∈ l, ∃ a, actRow w r a) → ∃ acts : List ActD, acts.length = l.length ∧ ∀ (k : Nat) (a : ActD), acts[k]? = some a → ∃ r, l[k]? = some r ∧ actRow w r a := fun l => by
    induction l with
    | nil => exact fun _ => ⟨[], rfl, fun k a h => by simp at h⟩
    | cons r l ih =>
      intro hall
      obtain ⟨a, ha⟩ := hall r (by simp)
      obtain ⟨acts, h1, h2⟩ := ih fun r hr => hall r (by simp [hr])
      refine ⟨a :: acts, by simp [h1], fun k b hb => ?_⟩
      cases k with
      | zero => simp at hb; subst hb; exact ⟨r, rfl, ha⟩
      | succ k => exact h2 k b (by simpa using hb)
  obtain ⟨acts, h1, h2⟩ := all rows key
  exact ⟨acts, rows, hr, by rw [h1, hr.len], h2⟩
end

set_option maxRecDepth 100000 in
theorem safe_lifted (os : Os) (started : os.Started) (H : Type) (enc : TypeId × Value → H) :
    ReturnsInHanded {} Try.checked os 7 .any (Rows.lockSafeSpec.pre6 enc Try.prog Try.f7 Rows.lockSafeRow.domain false) (Rows.lockSafeSpec.post enc Try.prog Try.f7 false true false false) := by
  refine returnsInHanded_of_change (C := Try.checked) safe_own started (by kernel_rfl) Try.func7
    (ChangeSpec.witness6 (enc := enc) (C := Try.checked) false ⟨#[], #[.slice none 0 0], []⟩ 8 (by kernel_rfl) (by kernel_rfl) (by kernel_rfl) (by kernel_rfl)) ?_
  intro W base args ds gs before hval0 hW _ _
  have hval : ∀ (j : Nat) t v, Try.f7.params[j]? = some t → args[j]? = some v → Value.okWide Try.prog W .any base t v := hval0
  have hW' := hW
  obtain ⟨p, q, hA0, hV, rfl, hfz, hnd⟩ := hW
  have hA : DataW.TrodAll enc Try.prog W 0 (fun _ => true) true Try.f7.params.toList args.toList ds p := hA0
  rw [Try.params7] at hA hval
  obtain ⟨v0, vs0, d0, ds0, p0, q0, hargs, rfl, rfl, h0, r0⟩ := trodAll_cons hA
  obtain ⟨rfl, rfl, rfl⟩ := trodAll_nil r0
  obtain rfl : args = #[v0] := by cases args; simp_all
  obtain ⟨rfl, rfl⟩ := trodVars_none hV
  obtain ⟨a0, len0, cap0, rfl⟩ := okWide_slice Try.underlying27 (hval 0 27 v0 rfl rfl)
  have k0 := h0
  have lt0 : ∀ x ∈ p0, x.block < W.heap.size := by obtain ⟨m, hm⟩ := k0; exact DataW.trod_lt m _ _ _ hm
  obtain ⟨acts, w0⟩ : ∃ acts, ActsAt W a0 len0 cap0 acts := by obtain ⟨fuel, hf⟩ := h0; exact safe_acts hf
  clear hA0 hval0
  refine (safe_walk a0 len0 cap0 acts W w0).mono fun e W' ⟨he, bel⟩ => ?_
  subst he
  exact ⟨_, rfl, _, _, _, [], _, [], hW', trodAll_mk1 (shut_bool Try.underlying4 _), (trodAll_cons_mk (Below.trod safe_laidOut (by kernel_rfl) (of_decide_eq_true (by kernel_rfl)) k0 bel lt0) trodAll_mk0), rfl, bel.frame _, fun h => by cases h⟩

/-- THE STATEMENT -/
theorem lockSafe_holds : Rows.LockSafeSaid :=
  OpenClaim.holds_of_wide 7 Try.f7 rfl rfl rfl rfl rfl rfl rfl ⟨rfl, rfl, rfl, rfl, rfl⟩ rfl rfl rfl rfl rfl (by kernel_rfl) Try.func7 (by kernel_rfl)
    (of_decide_eq_true (by kernel_rfl)) (by unfold Func.isWrapper; first | (rw [if_pos (by decide +kernel)]; kernel_rfl) | (rw [if_neg (by decide +kernel)]; exact ⟨rfl, rfl⟩))
    (fun os started H enc _ => safe_lifted os started H enc)
end Go.Proofs.Ytinpihplkikldaa

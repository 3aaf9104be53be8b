/- 'affluxlaw22.LockUnions' returns true for every two lists of wants, and both read afterwards as they read before. No condition. -/
import Derived.Test.YtinpihplkikldaaRows
import Derived.Test.YtinpihplkikldaaLockN
import Derived.Test.YtinpihplkikldaaRead
import Derived.ProofKit
import Derived.OpenShut
import Derived.ChangeOld
namespace Go.Proofs.Ytinpihplkikldaa
open Go.ChangeShapes Go.WideShapes Go.ChangeAt Go.RowKit Go.Afx

theorem own : ownKnob Try.prog.godebug = none := by kernel_rfl
theorem laidOut : laidOutB Try.prog = true := by kernel_rfl

theorem cellsStr : Try.prog.cellsOf 9 = 1 := by kernel_rfl
theorem cellsBool : Try.prog.cellsOf 4 = 1 := by kernel_rfl
theorem two_of {r : List Value} (h : r.length = 2) : ∃ u v, r = [u, v] := by
  match r, h with
  | [u, v], _ => exact ⟨u, v, rfl⟩

theorem wants_of_trod {H : Type} {enc : TypeId × Value → H} {w : World} {base : Nat} {spare : Nat → Bool} {held : Bool} {fuel n c : Nat} {A : Option Addr} {x : DataW H × List MemPlace}
    (h : DataW.trod enc Try.prog w base spare held fuel 22 [.slice A n c] = some x) : ∃ ws, WAt w A n c ws := by
  obtain ⟨rows, hr, hrow⟩ := rows_of_trod (sz := 2) Try.underlying22 (by kernel_rfl) (by decide) h
  obtain ⟨ws, rfl⟩ := rows_map wrow (rows := rows) fun k r hk => by
    obtain ⟨hl, m, y, ht⟩ := hrow k r hk
    obtain ⟨u, v, rfl⟩ := two_of hl
    obtain ⟨y0, y1, q, _, _, h0, h1⟩ := trod_struct2 Try.underlying31 ht
    simp only [cellsStr, cellsBool, List.drop_zero, List.drop_succ_cons, List.take_succ_cons, List.take_zero] at h0 h1
    obtain ⟨s, e0, _⟩ := DataW.trod_string Try.underlying9 h0
    obtain ⟨b, e1, _⟩ := DataW.trod_bool Try.underlying4 h1
    simp only [List.cons.injEq, and_true] at e0 e1
    exact ⟨(s, b), by rw [e0, e1]; rfl⟩
  exact ⟨ws, hr⟩

set_option maxRecDepth 100000 in
theorem unions_lifted (os : Os) (started : os.Started) (H : Type) (enc : TypeId × Value → H) :
    ReturnsInHanded {} Try.checked os 3 .any (Rows.lockUnionsSpec.pre6 enc Try.prog Try.f3 Rows.lockUnionsRow.domain false) (Rows.lockUnionsSpec.post enc Try.prog Try.f3 false true false false) := by
  refine returnsInHanded_of_change (C := Try.checked) own started (by kernel_rfl) Try.func3
    (ChangeSpec.witness6 (enc := enc) (C := Try.checked) false ⟨#[], #[.slice none 0 0, .slice none 0 0], []⟩ 8 (by kernel_rfl) (by kernel_rfl) (by kernel_rfl) (by kernel_rfl)) ?_
  intro W base args ds gs before hval0 hW _ _
  have hval : ∀ (j : Nat) t v, Try.f3.params[j]? = some t → args[j]? = some v → Value.okWide Try.prog W .any base t v := hval0
  have hW' := hW
  obtain ⟨p, q, hA0, hV, rfl, hfz, hnd⟩ := hW
  have hA : DataW.TrodAll enc Try.prog W 0 (fun _ => true) true Try.f3.params.toList args.toList ds p := hA0
  rw [Try.params3] at hA hval
  obtain ⟨v0, vs0, d0, ds0, p0, q0, hargs, rfl, rfl, h0, r0⟩ := trodAll_cons hA
  obtain ⟨v1, vs1, d1, ds1, p1, q1, rfl, rfl, rfl, h1, r1⟩ := trodAll_cons r0
  obtain ⟨rfl, rfl, rfl⟩ := trodAll_nil r1
  obtain rfl : args = #[v0, v1] := by cases args; simp_all
  obtain ⟨rfl, rfl⟩ := trodVars_none hV
  obtain ⟨a0, len0, cap0, rfl⟩ := okWide_slice Try.underlying22 (hval 0 22 v0 rfl rfl)
  obtain ⟨a1, len1, cap1, rfl⟩ := okWide_slice Try.underlying22 (hval 1 22 v1 rfl rfl)
  have k0 := h0
  have k1 := h1
  have lt0 : ∀ x ∈ p0, x.block < W.heap.size := by obtain ⟨m, hm⟩ := k0; exact DataW.trod_lt m _ _ _ hm
  have lt1 : ∀ x ∈ p1, x.block < W.heap.size := by obtain ⟨m, hm⟩ := k1; exact DataW.trod_lt m _ _ _ hm
  obtain ⟨ws0, w0⟩ : ∃ ws, WAt W a0 len0 cap0 ws := by obtain ⟨fuel, hf⟩ := h0; exact wants_of_trod hf
  obtain ⟨ws1, w1⟩ : ∃ ws, WAt W a1 len1 cap1 ws := by obtain ⟨fuel, hf⟩ := h1; exact wants_of_trod hf
  clear hA0 hval0
  refine (unions_walk a0 a1 len0 cap0 len1 cap1 ws0 ws1 W w0 w1).mono fun e W' ⟨he, bel⟩ => ?_
  subst he
  exact ⟨_, rfl, _, _, _, [], _, [], hW', trodAll_mk1 (shut_bool Try.underlying4 _), (trodAll_cons_mk (Below.trod laidOut (by kernel_rfl) (of_decide_eq_true (by kernel_rfl)) k0 bel lt0) (trodAll_cons_mk (Below.trod laidOut (by kernel_rfl) (of_decide_eq_true (by kernel_rfl)) k1 bel lt1) trodAll_mk0)), rfl, bel.frame _, fun h => by cases h⟩

/-- THE STATEMENT -/
theorem lockUnions_holds : Rows.LockUnionsSaid :=
  OpenClaim.holds_of_wide 3 Try.f3 rfl rfl rfl rfl rfl rfl rfl ⟨rfl, rfl, rfl, rfl, rfl⟩ rfl rfl rfl rfl rfl (by kernel_rfl) Try.func3 (by kernel_rfl)
    (of_decide_eq_true (by kernel_rfl)) (by unfold Func.isWrapper; first | (rw [if_pos (by decide +kernel)]; kernel_rfl) | (rw [if_neg (by decide +kernel)]; exact ⟨rfl, rfl⟩))
    (fun os started H enc _ => unions_lifted os started H enc)
end Go.Proofs.Ytinpihplkikldaa

/- 'affluxlaw12.SyntaxWithin' returns true for every procedure that is told as data, and every number, and the datum reads afterwards as it read before. No condition. -/
import Derived.Test.YtgihhkfppnhdpaaRows
import Derived.Test.YtgihhkfppnhdpaaSp30
import Derived.Test.YtgihhkfppnhdpaaSp28
import Derived.Test.YtgihhkfppnhdpaaSp29
import Derived.ProofKit
import Derived.OpenShut
import Derived.ChangeOld
import Derived.ChangeMaps5
namespace Go.Proofs.Ytgihhkfppnhdpaa
open Go.ChangeShapes Go.WideShapes Go.ChangeAt Go.RowKit Go.Afx

theorem own : ownKnob Try.prog.godebug = none := by kernel_rfl
theorem laidOut : laidOutB Try.prog = true := by kernel_rfl
theorem cellsSay : Try.prog.cellsOf 31 = 8 := by kernel_rfl

set_option maxRecDepth 100000 in
theorem it_lifted (os : Os) (started : os.Started) (H : Type) (enc : TypeId × Value → H) :
    ReturnsInHanded {} Try.checked os 4 .any (Rows.syntaxWithinSpec.pre6 enc Try.prog Try.f4 Rows.syntaxWithinRow.domain false) (Rows.syntaxWithinSpec.post enc Try.prog Try.f4 false true false false) := by
  refine returnsInHanded_of_change (C := Try.checked) own started (by kernel_rfl) Try.func4
    (ChangeSpec.witness6 (enc := enc) (C := Try.checked) false ⟨#[], #[.agg #[.string ⟨#[]⟩, .string ⟨#[]⟩, .string ⟨#[]⟩, .int .i64 0, .slice none 0 0, .slice none 0 0, .slice none 0 0, .slice none 0 0], .int .i64 0], []⟩ 8 (by kernel_rfl) (by kernel_rfl) (by kernel_rfl) (by kernel_rfl)) ?_
  intro W base args ds gs before hval0 hW _ _
  have hval : ∀ (j : Nat) t v, Try.f4.params[j]? = some t → args[j]? = some v → Value.okWide Try.prog W .any base t v := hval0
  have hW' := hW
  obtain ⟨p, q, hA0, hV, rfl, hfz, hnd⟩ := hW
  have hA : DataW.TrodAll enc Try.prog W 0 (fun _ => true) true Try.f4.params.toList args.toList ds p := hA0
  rw [Try.params4] at hA hval
  obtain ⟨v0, vs0, d0, ds0, p0, q0, hargs, rfl, rfl, h0, r0⟩ := trodAll_cons hA
  obtain ⟨v1, vs1, d1, ds1, p1, q1, rfl, rfl, rfl, h1, r1⟩ := trodAll_cons r0
  obtain ⟨rfl, rfl, rfl⟩ := trodAll_nil r1
  obtain rfl : args = #[v0, v1] := by cases args; simp_all
  obtain ⟨rfl, rfl⟩ := trodVars_none hV
  obtain ⟨cs, rfl, hcs⟩ := okWide_struct Try.underlying31 (hval 0 31 v0 rfl rfl)
  rw [cellsSay] at hcs
  have k0 := h0
  have lt0 : ∀ x ∈ p0, x.block < W.heap.size := by obtain ⟨m, hm⟩ := k0; exact DataW.trod_lt m _ _ _ hm
  have k1 := h1
  have lt1 : ∀ x ∈ p1, x.block < W.heap.size := by obtain ⟨m, hm⟩ := k1; exact DataW.trod_lt m _ _ _ hm
  obtain ⟨k, rfl⟩ := okWide_int Try.underlying3 (hval 1 3 v1 rfl rfl)
  obtain ⟨name, src, part, fuel, Ap, np, cp, params, A, A', n, c, n', c', xs, ys, Ak, nk, ck, ks, hr, hp, hl, hk, hb, okn, oks, okp, okf⟩ := (by obtain ⟨fuel, hf⟩ := h0; exact say_of (r := cs.toList) (by simpa using hcs) hf : ∃ (name src part : ByteArray) (fuel : Int) (Ap : Option Addr) (np cp : Nat) (params : List Co) (A A' : Option Addr) (n c n' c' : Nat) (xs : List Lf) (ys : List Kn) (Ak : Option Addr) (nk ck : Nat) (ks : List Int), cs.toList = [.string name, .string src, .string part, .int .i64 fuel, .slice Ap np cp, .slice A n c, .slice A' n' c', .slice Ak nk ck] ∧ LsAt (Old W) W 2 CoRow Ap np cp params ∧ LsAt (Old W) W 6 (LfAt (Old W) W) A n c xs ∧ LsAt (Old W) W 8 (KnAt (Old W) W) A' n' c' ys ∧ LsAt (Old W) W 1 IRow Ak nk ck ks ∧ okS name ∧ okS src ∧ okS part ∧ okI fuel)
  obtain rfl : cs = #[.string name, .string src, .string part, .int .i64 fuel, .slice Ap np cp, .slice A n c, .slice A' n' c', .slice Ak nk ck] := by cases cs; simp_all
  clear hA0 hval0
  refine (within_walk (fun F => rbuiltS_any F 101) (Old W) name src part fuel Ap np cp params A A' n c n' c' xs ys Ak nk ck ks k W hp hl hk hb (fun _ h => h) okn oks okp okf).mono fun e W' ⟨he, bel⟩ => ?_
  subst he
  exact ⟨_, rfl, _, _, _, [], _, [], hW', trodAll_mk1 (shut_bool Try.underlying4 _), (trodAll_cons_mk (Below.trod laidOut (by kernel_rfl) (of_decide_eq_true (by kernel_rfl)) k0 bel lt0) (trodAll_cons_mk (Below.trod laidOut (by kernel_rfl) (of_decide_eq_true (by kernel_rfl)) k1 bel lt1) trodAll_mk0)), rfl, bel.frame _, fun h => by cases h⟩

/-- THE STATEMENT -/
theorem syntaxWithin_holds : Rows.SyntaxWithinSaid :=
  OpenClaim.holds_of_wide 4 Try.f4 rfl rfl rfl rfl rfl rfl rfl ⟨rfl, rfl, rfl, rfl, rfl⟩ rfl rfl rfl rfl rfl (by kernel_rfl) Try.func4 (by kernel_rfl)
    (of_decide_eq_true (by kernel_rfl)) (by unfold Func.isWrapper; first | (rw [if_pos (by decide +kernel)]; kernel_rfl) | (rw [if_neg (by decide +kernel)]; exact ⟨rfl, rfl⟩))
    (fun os started H enc _ => it_lifted os started H enc)
end Go.Proofs.Ytgihhkfppnhdpaa

/- 'affluxlaw15.TypesWrong' returns true for every catalog and every procedure that is told as data, and both read afterwards as they read before. No condition. -/
import Derived.Test.YtmfcmpnlipnopaaGreatRows
import Derived.Test.YtmfcmpnlipnopaaGreatTw45
import Derived.Test.YtmfcmpnlipnopaaGreatTw44
import Derived.ProofKit
import Derived.OpenShut
import Derived.ChangeOld
import Derived.ChangeMaps5
namespace Go.Proofs.YtmfcmpnlipnopaaGreat
open Go.ChangeShapes Go.WideShapes Go.ChangeAt Go.RowKit Go.Afx

theorem own : ownKnob Tryz.prog.godebug = none := by kernel_rfl
theorem laidOut : laidOutB Tryz.prog = true := by kernel_rfl
theorem cellsCat : Tryz.prog.cellsOf 27 = 5 := by kernel_rfl
theorem cellsSay : Tryz.prog.cellsOf 33 = 8 := by kernel_rfl

set_option maxRecDepth 100000 in
theorem it_lifted (os : Os) (started : os.Started) (H : Type) (enc : TypeId × Value → H) :
    ReturnsInHanded {} Tryz.checked os 3 .any (Rows.typesWrongSpec.pre6 enc Tryz.prog Tryz.f3 Rows.typesWrongRow.domain false) (Rows.typesWrongSpec.post enc Tryz.prog Tryz.f3 false true false false) := by
  refine returnsInHanded_of_change (C := Tryz.checked) own started (by kernel_rfl) Tryz.func3
    (ChangeSpec.witness6 (enc := enc) (C := Tryz.checked) false ⟨#[], #[.agg #[.slice none 0 0, .slice none 0 0, .slice none 0 0, .slice none 0 0, .slice none 0 0], .agg #[.string ⟨#[]⟩, .string ⟨#[]⟩, .string ⟨#[]⟩, .int .i64 0, .slice none 0 0, .slice none 0 0, .slice none 0 0, .slice none 0 0]], []⟩ 8 (by kernel_rfl) (by kernel_rfl) (by kernel_rfl) (by kernel_rfl)) ?_
  intro W base args ds gs before hval0 hW _ _
  have hval : ∀ (j : Nat) t v, Tryz.f3.params[j]? = some t → args[j]? = some v → Value.okWide Tryz.prog W .any base t v := hval0
  have hW' := hW
  obtain ⟨p, q, hA0, hV, rfl, hfz, hnd⟩ := hW
  have hA : DataW.TrodAll enc Tryz.prog W 0 (fun _ => true) true Tryz.f3.params.toList args.toList ds p := hA0
  rw [Tryz.params3] at hA hval
  obtain ⟨v0, vs0, d0, ds0, p0, q0, hargs, rfl, rfl, h0, r0⟩ := trodAll_cons hA
  obtain ⟨v1, vs1, d1, ds1, p1, q1, rfl, rfl, rfl, h1, r1⟩ := trodAll_cons r0
  obtain ⟨rfl, rfl, rfl⟩ := trodAll_nil r1
  obtain rfl : args = #[v0, v1] := by cases args; simp_all
  obtain ⟨rfl, rfl⟩ := trodVars_none hV
  obtain ⟨cs0, rfl, hcs0⟩ := okWide_struct Tryz.underlying27 (hval 0 27 v0 rfl rfl)
  rw [cellsCat] at hcs0
  obtain ⟨cs, rfl, hcs⟩ := okWide_struct Tryz.underlying33 (hval 1 33 v1 rfl rfl)
  rw [cellsSay] at hcs
  have k0 := h0
  have k1 := h1
  have lt0 : ∀ x ∈ p0, x.block < W.heap.size := by obtain ⟨m, hm⟩ := k0; exact DataW.trod_lt m _ _ _ hm
  have lt1 : ∀ x ∈ p1, x.block < W.heap.size := by obtain ⟨m, hm⟩ := k1; exact DataW.trod_lt m _ _ _ hm
  obtain ⟨A1, A2, A3, A4, A5, n1, c1, n2, c2, n3, c3, n4, c4, n5, c5, xs1, xs2, xs4, hr0, g1, g2, g4⟩ := (by obtain ⟨fuel, hf⟩ := h0; exact cat_of (r := cs0.toList) (by simpa using hcs0) hf : ∃ (A1 A2 A3 A4 A5 : Option Addr) (n1 c1 n2 c2 n3 c3 n4 c4 n5 c5 : Nat) (xs1 xs2 xs4 : List Nat), cs0.toList = [.slice A1 n1 c1, .slice A2 n2 c2, .slice A3 n3 c3, .slice A4 n4 c4, .slice A5 n5 c5] ∧ LsAt (Old W) W 6 SchR A1 n1 c1 xs1 ∧ LsAt (Old W) W 2 StrR A2 n2 c2 xs2 ∧ LsAt (Old W) W 2 StrR A4 n4 c4 xs4)
  obtain rfl : cs0 = #[.slice A1 n1 c1, .slice A2 n2 c2, .slice A3 n3 c3, .slice A4 n4 c4, .slice A5 n5 c5] := by cases cs0; simp_all
  obtain ⟨name, src, part, fuel, Ap, np, cp, params, A, A', n, c, n', c', xs, ys, Ak, nk, ck, ks, hr, hp, hl, hk, hb, okn, oks, okp, okf⟩ := (by obtain ⟨fuel, hf⟩ := h1; exact say_of (r := cs.toList) (by simpa using hcs) hf : ∃ (name src part : ByteArray) (fuel : Int) (Ap : Option Addr) (np cp : Nat) (params : List Co) (A A' : Option Addr) (n c n' c' : Nat) (xs : List Lf) (ys : List Kn) (Ak : Option Addr) (nk ck : Nat) (ks : List Int), cs.toList = [.string name, .string src, .string part, .int .i64 fuel, .slice Ap np cp, .slice A n c, .slice A' n' c', .slice Ak nk ck] ∧ LsAt (Old W) W 2 CoRow Ap np cp params ∧ LsAt (Old W) W 6 (LfAt (Old W) W) A n c xs ∧ LsAt (Old W) W 8 (KnAt (Old W) W) A' n' c' ys ∧ LsAt (Old W) W 1 IRow Ak nk ck ks ∧ okS name ∧ okS src ∧ okS part ∧ okI fuel)
  obtain rfl : cs = #[.string name, .string src, .string part, .int .i64 fuel, .slice Ap np cp, .slice A n c, .slice A' n' c', .slice Ak nk ck] := by cases cs; simp_all
  clear hA0 hval0
  refine (wrong_walk (fun F => rbuiltS_any F 101) (Old W) A1 A2 A3 A4 A5 n1 c1 n2 c2 n3 c3 n4 c4 n5 c5 xs1 xs2 xs4 name src part fuel Ap np cp params A A' n c n' c' xs ys Ak nk ck ks W g1 g2 g4 hp hl hk hb (fun _ h => h) okn oks okp okf).mono fun e W' ⟨he, bel⟩ => ?_
  subst he
  exact ⟨_, rfl, _, _, _, [], _, [], hW', trodAll_mk1 (shut_bool Tryz.underlying4 _), (trodAll_cons_mk (Below.trod laidOut (by kernel_rfl) (of_decide_eq_true (by kernel_rfl)) k0 bel lt0) (trodAll_cons_mk (Below.trod laidOut (by kernel_rfl) (of_decide_eq_true (by kernel_rfl)) k1 bel lt1) trodAll_mk0)), rfl, bel.frame _, fun h => by cases h⟩

/-- THE STATEMENT -/
theorem typesWrong_holds : Rows.TypesWrongSaid :=
  OpenClaim.holds_of_wide 3 Tryz.f3 rfl rfl rfl rfl rfl rfl rfl ⟨rfl, rfl, rfl, rfl, rfl⟩ rfl rfl rfl rfl rfl (by kernel_rfl) Tryz.func3 (by kernel_rfl)
    (of_decide_eq_true (by kernel_rfl)) (by unfold Func.isWrapper; first | (rw [if_pos (by decide +kernel)]; kernel_rfl) | (rw [if_neg (by decide +kernel)]; exact ⟨rfl, rfl⟩))
    (fun os started H enc _ => it_lifted os started H enc)
end Go.Proofs.YtmfcmpnlipnopaaGreat

/- 'affluxlaw14.PrintBack' returns true for every procedure that is told as data, and it reads afterwards as it read before: the tied card of the statement. No condition. -/
import Derived.Test.YtjjfkhbajidmdaaGreatDoorRows
import Derived.Test.YtjjfkhbajidmdaaGreatDoorCards
import Derived.Test.YtjjfkhbajidmdaaGreatDoorTie
import Derived.Test.YtjjfkhbajidmdaaGreatDoorPb45
import Derived.Test.YtjjfkhbajidmdaaGreatDoorPb14
import Derived.ProofKit
import Derived.OpenShut
import Derived.ChangeOld
import Derived.ChangeMaps5
import Derived.LaidMore
import Derived.Lay
import Derived.SevenTiedAt
import Derived.Stop.Joined
import Derived.Shelf.Vars
namespace Go.Proofs.YtjjfkhbajidmdaaGreatDoor
open Go.ChangeShapes Go.WideShapes Go.ChangeAt Go.RowKit Go.Afx

theorem own : ownKnob Tryz.prog.godebug = none := by kernel_rfl
theorem laidOut : laidOutB Tryz.prog = true := by kernel_rfl
theorem ac3 : Tryz.prog.cellsOf 27 = 8 := by kernel_rfl
/-- the library's variable holds some number -/
theorem aiU {W : World} (h : W.ShapedOpen Tryz.prog) : dZ W :=
  cell_of_shapedOpen_int (g := 0) (t := 3) (zero := #[.int .i64 0]) (k := .i64) h (of_decide_eq_true (by kernel_rfl)) (by kernel_rfl) rfl (by kernel_rfl) (by kernel_rfl) Tryz.underlying3

section
variable {H : Type} {enc : TypeId × Value → H}
/-- a call proved for every world that has the program's shape and meets X -/
theorem Yx {a : Assume} {C : Checked} {os : Os} {f : FuncId} {fn : Func} {s : ChangeSpec} {conds : List PathCond} {apart fresh handsOn again : Bool} {X : World → Array Value → Prop}
    (hX : ∀ (w w' : World) (args : Array Value), w.heap = w'.heap → X w args → X w' args)
    (own : ownKnob C.prog.godebug = none) (started : os.Started) (noInit : C.prog.inits.idxOf? f = none) (hfn : C.prog.funcs[f]? = some fn)
    (witness : ∃ (w : World) (tape : Tape) (i : Input), w.os = os ∧ (w.forCall tape i).Shaped C.prog ∧ i.vars = [] ∧ Input.okWide C.prog (w.forCall tape i) .any w.heap.size f i ∧
      ((s.pre enc C.prog fn conds apart (w.forCall tape i).memory i.args ∧ X (w.forCall tape i).memory i.args) ∧ sizedMet enc C.prog fn (OpenSpec.ofChange s) apart (w.forCall tape i).memory i.args) ∧ a.holds C.prog (lone (Frame.enter C.prog f i.args .normal) [] (w.forCall tape i)))
    (contract : ∀ (W : World) (base : Nat) (args : Array Value) (ds gs : List (DataW H)) (before : List MemPlace),
      (∀ (j : Nat) t v, fn.params[j]? = some t → args[j]? = some v → Value.okWide C.prog W .any base t v) →
      DataW.Whole enc C.prog fn.params.toList s.vars apart W args.toList ds gs before → W.ShapedOpen C.prog → X W args →
      Calls C.prog f args W fun e W' => ∃ v, e = .returned v ∧ s.post enc C.prog fn apart fresh handsOn again W args v W') :
    ReturnsInHanded a C os f .any (fun w args => (s.pre enc C.prog fn conds apart w args ∧ X w args) ∧ sizedMet enc C.prog fn (OpenSpec.ofChange s) apart w args) (s.post enc C.prog fn apart fresh handsOn again) := by
  refine returnsInHanded_of_calls own started noInit witness ?_
  intro w tape i _ hsh _ hok hpre _
  obtain ⟨_, _, _, fn', hfn', _, _, _, _, hval⟩ := hok
  obtain rfl : fn' = fn := Option.some.inj (hfn'.symm.trans hfn)
  obtain ⟨⟨⟨ds, gs, before, hw, _⟩, hx⟩, _⟩ := hpre
  refine (contract (w.forCall tape i) w.heap.size i.args ds gs before hval (DataW.Whole.of_heap (w' := w.forCall tape i) (by rfl) hw) hsh (hX _ _ _ (by rfl) hx)).mono fun e W' ⟨v, he, hp⟩ => ?_
  subst he
  exact ChangeSpec.post_blind hp
end

set_option maxRecDepth 100000 in
theorem Yy (os : Os) (started : os.Started) (H : Type) (enc : TypeId × Value → H) :
    ReturnsInHanded {} Tryz.checked os 3 .any (fun w args => (Rows.printBackSpec.pre enc Tryz.prog Tryz.f3 Rows.printBackRow.domain false w args ∧ laidMetH Tryz.prog Rows.printBackRow.laid w) ∧ sizedMet enc Tryz.prog Tryz.f3 (OpenSpec.ofChange Rows.printBackSpec) false w args)
      (Rows.printBackSpec.post enc Tryz.prog Tryz.f3 false true false false) := by
  refine Yx (C := Tryz.checked) (X := fun w _ => laidMetH Tryz.prog Rows.printBackRow.laid w) (fun _ _ _ hh h => h.of_heap hh) own started (by kernel_rfl) Tryz.func3
    (ChangeSpec.witness_shaped (enc := enc) (C := Tryz.checked) (os := os) (X := fun w _ => laidMetH Tryz.prog Rows.printBackRow.laid w) false (World.laidAll Tryz.prog os Rows.printBackRow.laid) #[.agg #[.string ⟨#[]⟩, .string ⟨#[]⟩, .string ⟨#[]⟩, .int .i64 0, .slice none 0 0, .slice none 0 0, .slice none 0 0, .slice none 0 0]] 8 (World.laidAll_os _ _ _)
      (World.shaped_of_ZipB (by kernel_rfl) (by kernel_rfl)) (by kernel_rfl) (by kernel_rfl) (by kernel_rfl)
      (by rw [MakeChecks.laidMetH_plain _ _ _ (by kernel_rfl)]; exact laidMet_laidAll _ (by kernel_rfl) (by kernel_rfl))) ?_
  intro W base args ds gs before hval0 hW hsh _
  have hval : ∀ (j : Nat) t v, Tryz.f3.params[j]? = some t → args[j]? = some v → Value.okWide Tryz.prog W .any base t v := hval0
  have hm := aiU hsh
  have hW' := hW
  obtain ⟨p, q, hA0, hV, rfl, hfz, hnd⟩ := hW
  have hA : DataW.TrodAll enc Tryz.prog W 0 (fun _ => true) true Tryz.f3.params.toList args.toList ds p := hA0
  rw [Tryz.params3] at hA hval
  obtain ⟨v0, vs0, d0, ds0, p0, q0, hargs, rfl, rfl, h0, r0⟩ := trodAll_cons hA
  obtain ⟨rfl, rfl, rfl⟩ := trodAll_nil r0
  obtain rfl : args = #[v0] := by cases args; simp_all
  obtain ⟨rfl, rfl⟩ := trodVars_none hV
  obtain ⟨cs, rfl, hcs⟩ := okWide_struct Tryz.underlying27 (hval 0 27 v0 rfl rfl)
  rw [ac3] at hcs
  have k0 := h0
  have lt0 : ∀ x ∈ p0, x.block < W.heap.size := by obtain ⟨m, hm⟩ := k0; exact DataW.trod_lt m _ _ _ hm
  obtain ⟨name, src, part, fuel, Ap, np, cp, params, A, A', n, c, n', c', xs, ys, Ak, nk, ck, ks, hr, hp, hl, hk, hb, uU, oks, okp, okf⟩ := (by obtain ⟨fuel, hf⟩ := h0; exact ag5 (r := cs.toList) (by simpa using hcs) hf : ∃ (name src part : ByteArray) (fuel : Int) (Ap : Option Addr) (np cp : Nat) (params : List Co) (A A' : Option Addr) (n c n' c' : Nat) (xs : List Lf) (ys : List Kn) (Ak : Option Addr) (nk ck : Nat) (ks : List Int), cs.toList = [.string name, .string src, .string part, .int .i64 fuel, .slice Ap np cp, .slice A n c, .slice A' n' c', .slice Ak nk ck] ∧ ai (Old W) W 2 rO Ap np cp params ∧ ai (Old W) W 6 (yU (Old W) W) A n c xs ∧ ai (Old W) W 8 (yV (Old W) W) A' n' c' ys ∧ ai (Old W) W 1 kD Ak nk ck ks ∧ okS name ∧ okS src ∧ okS part ∧ okI fuel)
  obtain rfl : cs = #[.string name, .string src, .string part, .int .i64 fuel, .slice Ap np cp, .slice A n c, .slice A' n' c', .slice Ak nk ck] := by cases cs; simp_all
  clear hA0 hval0
  refine (JV (Old W) name src part fuel Ap np cp params A A' n c n' c' xs ys Ak nk ck ks W hp hl hk hb (fun _ h => h) uU oks okp okf hm).mono fun e W' ⟨he, bel⟩ => ?_
  subst he
  exact ⟨_, rfl, _, _, _, [], _, [], hW', trodAll_mk1 (shut_bool Tryz.underlying4 _), (trodAll_cons_mk (Below.trod laidOut (by kernel_rfl) (of_decide_eq_true (by kernel_rfl)) k0 bel lt0) trodAll_mk0), rfl, bel.frame _, fun h => by cases h⟩

theorem Yz : Rows.PrintBackSaid :=
  OpenClaim.holds_of_wide 3 Tryz.f3 rfl rfl rfl rfl rfl rfl rfl ⟨rfl, rfl, rfl, rfl, rfl⟩ rfl rfl rfl rfl rfl (by kernel_rfl) Tryz.func3 (by kernel_rfl)
    (of_decide_eq_true (by kernel_rfl)) (by unfold Func.isWrapper; first | (rw [if_pos (by decide +kernel)]; kernel_rfl) | (rw [if_neg (by decide +kernel)]; exact ⟨rfl, rfl⟩))
    (fun os started H enc _ => Yy os started H enc)
/-- THE STATEMENT: the tied card -/
theorem printBack_holds : Rows.PrintBackCardSaid :=
  Claim7.holds_tied_plain_at .later [] [.data, .pinned] true _ false
    Yz (fun _ h => by cases h) (by kernel_rfl) (fun _ h => by cases h) printBack_row_tie rfl ⟨rfl, rfl⟩ (by kernel_rfl) rfl
    (fun f fn hf hfn => by
      obtain rfl : f = 3 := Option.some.inj ((show Tryz.prog.funcNamed "afflux/affluxlaw14.PrintBack" = some 3 by kernel_rfl).symm.trans hf) |>.symm
      obtain rfl : fn = Tryz.f3 := (Option.some.inj (Tryz.func3.symm.trans hfn)).symm
      exact ⟨by kernel_rfl, fun j t ht => by
        rw [Tryz.params3] at ht
        have hm : t ∈ [27] := by simpa using Array.mem_of_getElem? ht
        have hall : ([27].all fun u => !Tryz.prog.wantsStandIn u) = true := by kernel_rfl
        exact (show Tryz.prog.wantsStandIn t = false by simpa using List.all_eq_true.1 hall t hm)⟩)
    (by kernel_rfl)
end Go.Proofs.YtjjfkhbajidmdaaGreatDoor

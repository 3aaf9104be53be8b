/-
  NARROWER THAN 'FOR EVERY INPUT', by the rows' own cells (each row's printed sentence says how): TypesWrong: loops · TypesMore: loops.
  DERIVED. THE GIVEN ROWS OF THIS SEAT. 2 by the template 'for every input the law returns true; each argument reads behind the call as it read before'; 0 by the template 'total and deterministic' (their statements: YtmfcmpnlipnopaaGreatTotals.lean).
  GIVEN WITH THE SEED: the statements are not yours to turn. If you find one false, say at which input.
  Laid BY PROGRAM, IN A SANDBOX (cutbox-rows.mjs): the forced cells as the released guide's own fill.sh prints them over the translation 33e8f79976768b04… (all of the seat's roots in one cut). By AI agents, Wed Nov 11 2026. No macro, syntax, notation, axiom, sorry.
-/
import Derived.Test.YtmfcmpnlipnopaaGreatChecked
import GoSem.Claim
import GoSem.ClaimJoined
import GoSem.ClaimMapViews
import Derived.JoinedTies
import Derived.KernelRfl
namespace Go.Proofs.YtmfcmpnlipnopaaGreat
/- THE CELL 'sum', in the pinned program and in every row, IS THE sha256 OF THE DUMP (.gsa) THAT YtmfcmpnlipnopaaGreatProg.lean LOADS. Nothing in Lean hashes anything: it is a label: what it is worth is what the hold of that sum in a sandbox is worth. -/
noncomputable def Tryz.pinned : Pinned := { name := "ytmfcmpnlipnopaagreat", sum := "33e8f79976768b044d57cd0a18162755f512cab4a6fa543758eba516aa3126c3", checked := Tryz.checked }
namespace Rows
def none {H : Type} : Left H := { results := [], args := [] }

/-- 'affluxlaw15.TypesWrong': WHATEVER THE INPUT: true; the input reads as it did. -/
def typesWrongSpec : ChangeSpec := { name := "typesWrong", fn := fun _ => fun
  | [d1, d2] => { results := [.lit (.bool true)], args := [d1, d2] }
  | _ => none }
def typesWrongRow : OpenClaim := { program := "ytmfcmpnlipnopaagreat", sum := "33e8f79976768b044d57cd0a18162755f512cab4a6fa543758eba516aa3126c3", func := "afflux/affluxlaw15.TypesWrong", spec := "typesWrong", unfollowed := true, recurses := true, loops := true, apart := false }
def TypesWrongSaid : Prop := typesWrongRow.holds Tryz.pinned (OpenSpec.ofChange typesWrongSpec)

/-- ITS FALSE NEIGHBOUR: 'it returns false'. Refute it at one input. -/
def typesWrongWrong : ChangeSpec := { name := "typesWrong", fn := fun _ => fun
  | [d1, d2] => { results := [.lit (.bool false)], args := [d1, d2] }
  | _ => none }
def TypesWrongWrongFalsely : Prop := typesWrongRow.holds Tryz.pinned (OpenSpec.ofChange typesWrongWrong)

/-- 'affluxlaw15.TypesMore': WHATEVER THE INPUT: true; the input reads as it did. -/
def typesMoreSpec : ChangeSpec := { name := "typesMore", fn := fun _ => fun
  | [d1, d2] => { results := [.lit (.bool true)], args := [d1, d2] }
  | _ => none }
def typesMoreRow : OpenClaim := { program := "ytmfcmpnlipnopaagreat", sum := "33e8f79976768b044d57cd0a18162755f512cab4a6fa543758eba516aa3126c3", func := "afflux/affluxlaw15.TypesMore", spec := "typesMore", unfollowed := true, recurses := true, loops := true, apart := false }
def TypesMoreSaid : Prop := typesMoreRow.holds Tryz.pinned (OpenSpec.ofChange typesMoreSpec)

/-- ITS FALSE NEIGHBOUR: 'it returns false'. Refute it at one input. -/
def typesMoreWrong : ChangeSpec := { name := "typesMore", fn := fun _ => fun
  | [d1, d2] => { results := [.lit (.bool false)], args := [d1, d2] }
  | _ => none }
def TypesMoreWrongFalsely : Prop := typesMoreRow.holds Tryz.pinned (OpenSpec.ofChange typesMoreWrong)

/- THE SECOND FORM. 'bulk': how many values and letters a reading holds, each counted each time it is reached (what is shared counts as often as it is met; a slice's spare places count too). A statement '..UptoSaid' is the law's where the arguments, and the package variables that the reading takes, are together of bulk at most 1048576: NARROWER than '..Said'. Prove '..Said' where nothing that the law and all that it calls make is longer than what came in: it says more and counts as full. Else prove '..UptoSaid'. A law counts once. -/
mutual
def uptoBulk {H : Type} : DataW H → Nat
  | .lit (.string bytes) => bytes.length + 1
  | .lit _ => 1
  | .nil => 1
  | .ptr d => uptoBulk d + 1
  | .slice elems spare => uptoBulkAll elems + uptoBulkAll spare + 1
  | .agg parts => uptoBulkAll parts + 1
  | .iface _ d => uptoBulk d + 1
  | .map entries => uptoBulkEntries entries + 1
  | .held _ => 1
def uptoBulkAll {H : Type} : List (DataW H) → Nat
  | [] => 0
  | d :: r => uptoBulk d + uptoBulkAll r
def uptoBulkEntries {H : Type} : List (Lit × DataW H) → Nat
  | [] => 0
  | x :: r => uptoBulkEntry x + uptoBulkEntries r
def uptoBulkEntry {H : Type} : Lit × DataW H → Nat
  | (.string bytes, d) => bytes.length + uptoBulk d + 1
  | (_, d) => uptoBulk d + 1
 end
def uptoSmall : (H : Type) → List (DataW H) → Bool := fun _ ds => decide (uptoBulkAll ds ≤ 1048576)
def OpenSpec.upto (s : _root_.Go.ChangeSpec) : _root_.Go.OpenSpec := { _root_.Go.OpenSpec.ofChange s with cond := some uptoSmall }

/-- 'affluxlaw15.TypesWrong', WHERE WHAT IT READS IS OF BULK AT MOST 1048576: true; the input reads as it did. -/
def typesWrongUptoRow : OpenClaim := { program := "ytmfcmpnlipnopaagreat", sum := "33e8f79976768b044d57cd0a18162755f512cab4a6fa543758eba516aa3126c3", func := "afflux/affluxlaw15.TypesWrong", spec := "typesWrong", unfollowed := true, recurses := true, loops := true, apart := false, narrowed := true }
def TypesWrongUptoSaid : Prop := typesWrongUptoRow.holds Tryz.pinned (OpenSpec.upto typesWrongSpec)

/-- 'affluxlaw15.TypesMore', WHERE WHAT IT READS IS OF BULK AT MOST 1048576: true; the input reads as it did. -/
def typesMoreUptoRow : OpenClaim := { program := "ytmfcmpnlipnopaagreat", sum := "33e8f79976768b044d57cd0a18162755f512cab4a6fa543758eba516aa3126c3", func := "afflux/affluxlaw15.TypesMore", spec := "typesMore", unfollowed := true, recurses := true, loops := true, apart := false, narrowed := true }
def TypesMoreUptoSaid : Prop := typesMoreUptoRow.holds Tryz.pinned (OpenSpec.upto typesMoreSpec)

end Rows
end Go.Proofs.YtmfcmpnlipnopaaGreat

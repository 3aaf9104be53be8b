/-
  No cell of these rows narrows 'for every input' (looked for: loops, veiled, ifaces, maps, wideKeys, modest, calm, conditions, laid).
  DERIVED. THE GIVEN ROWS OF THIS SEAT. 4 by the template 'for every input the law returns true; each argument reads behind the call as it read before'; 0 by the template 'total and deterministic' (their statements: YtlakeanldbdedaaGreatTotals.lean).
  GIVEN WITH THE SEED: the statements are not yours to turn. If you find one false, say at which input.
  Laid BY PROGRAM, IN A SANDBOX (cutbox-rows.mjs): the forced cells as the released guide's own fill.sh prints them over the translation 84135308e7434f3b… (all of the seat's roots in one cut). By AI agents, Wed Nov 11 2026. No macro, syntax, notation, axiom, sorry.
-/
import Derived.Test.YtlakeanldbdedaaGreatChecked
import GoSem.Claim
import GoSem.ClaimJoined
import GoSem.ClaimMapViews
import Derived.JoinedTies
import Derived.KernelRfl
namespace Go.Proofs.YtlakeanldbdedaaGreat
/- THE CELL 'sum', in the pinned program and in every row, IS THE sha256 OF THE DUMP (.gsa) THAT YtlakeanldbdedaaGreatProg.lean LOADS. Nothing in Lean hashes anything: it is a label: what it is worth is what the hold of that sum in a sandbox is worth. -/
noncomputable def Tryz.pinned : Pinned := { name := "ytlakeanldbdedaagreat", sum := "84135308e7434f3b5206815f804e3c0f861495d78c0e777a92e3a22313b03fad", checked := Tryz.checked }
namespace Rows
def none {H : Type} : Left H := { results := [], args := [] }

/-- 'affluxlaw13.ParseRight': WHATEVER THE INPUT: true; the input reads as it did. -/
def parseRightSpec : ChangeSpec := { name := "parseRight", fn := fun _ => fun
  | [d] => { results := [.lit (.bool true)], args := [d] }
  | _ => none }
def parseRightRow : OpenClaim := { program := "ytlakeanldbdedaagreat", sum := "84135308e7434f3b5206815f804e3c0f861495d78c0e777a92e3a22313b03fad", func := "afflux/affluxlaw13.ParseRight", spec := "parseRight", inPlace := ["internal/bytealg.IndexByteString", "math/bits.Add64"], unfollowed := true, recurses := true, apart := false }
def ParseRightSaid : Prop := parseRightRow.holds Tryz.pinned (OpenSpec.ofChange parseRightSpec)

/-- ITS FALSE NEIGHBOUR: 'it returns false'. Refute it at one input. -/
def parseRightWrong : ChangeSpec := { name := "parseRight", fn := fun _ => fun
  | [d] => { results := [.lit (.bool false)], args := [d] }
  | _ => none }
def ParseRightWrongFalsely : Prop := parseRightRow.holds Tryz.pinned (OpenSpec.ofChange parseRightWrong)

/-- 'affluxlaw13.ParseCuts': WHATEVER THE INPUT: true; the input reads as it did. -/
def parseCutsSpec : ChangeSpec := { name := "parseCuts", fn := fun _ => fun
  | [d1, d2] => { results := [.lit (.bool true)], args := [d1, d2] }
  | _ => none }
def parseCutsRow : OpenClaim := { program := "ytlakeanldbdedaagreat", sum := "84135308e7434f3b5206815f804e3c0f861495d78c0e777a92e3a22313b03fad", func := "afflux/affluxlaw13.ParseCuts", spec := "parseCuts", inPlace := ["internal/bytealg.IndexByteString", "math/bits.Add64"], unfollowed := true, recurses := true, apart := false }
def ParseCutsSaid : Prop := parseCutsRow.holds Tryz.pinned (OpenSpec.ofChange parseCutsSpec)

/-- ITS FALSE NEIGHBOUR: 'it returns false'. Refute it at one input. -/
def parseCutsWrong : ChangeSpec := { name := "parseCuts", fn := fun _ => fun
  | [d1, d2] => { results := [.lit (.bool false)], args := [d1, d2] }
  | _ => none }
def ParseCutsWrongFalsely : Prop := parseCutsRow.holds Tryz.pinned (OpenSpec.ofChange parseCutsWrong)

/-- 'affluxlaw13.ParseExprs': WHATEVER THE INPUT: true; the input reads as it did. -/
def parseExprsSpec : ChangeSpec := { name := "parseExprs", fn := fun _ => fun
  | [d] => { results := [.lit (.bool true)], args := [d] }
  | _ => none }
def parseExprsRow : OpenClaim := { program := "ytlakeanldbdedaagreat", sum := "84135308e7434f3b5206815f804e3c0f861495d78c0e777a92e3a22313b03fad", func := "afflux/affluxlaw13.ParseExprs", spec := "parseExprs", inPlace := ["internal/bytealg.IndexByteString", "math/bits.Add64"], unfollowed := true, recurses := true, apart := false }
def ParseExprsSaid : Prop := parseExprsRow.holds Tryz.pinned (OpenSpec.ofChange parseExprsSpec)

/-- ITS FALSE NEIGHBOUR: 'it returns false'. Refute it at one input. -/
def parseExprsWrong : ChangeSpec := { name := "parseExprs", fn := fun _ => fun
  | [d] => { results := [.lit (.bool false)], args := [d] }
  | _ => none }
def ParseExprsWrongFalsely : Prop := parseExprsRow.holds Tryz.pinned (OpenSpec.ofChange parseExprsWrong)

/-- 'affluxlaw13.ParseLoose': WHATEVER THE INPUT: true; the input reads as it did. -/
def parseLooseSpec : ChangeSpec := { name := "parseLoose", fn := fun _ => fun
  | [d1, d2] => { results := [.lit (.bool true)], args := [d1, d2] }
  | _ => none }
def parseLooseRow : OpenClaim := { program := "ytlakeanldbdedaagreat", sum := "84135308e7434f3b5206815f804e3c0f861495d78c0e777a92e3a22313b03fad", func := "afflux/affluxlaw13.ParseLoose", spec := "parseLoose", inPlace := ["internal/bytealg.IndexByteString", "math/bits.Add64"], unfollowed := true, recurses := true, apart := false }
def ParseLooseSaid : Prop := parseLooseRow.holds Tryz.pinned (OpenSpec.ofChange parseLooseSpec)

/-- ITS FALSE NEIGHBOUR: 'it returns false'. Refute it at one input. -/
def parseLooseWrong : ChangeSpec := { name := "parseLoose", fn := fun _ => fun
  | [d1, d2] => { results := [.lit (.bool false)], args := [d1, d2] }
  | _ => none }
def ParseLooseWrongFalsely : Prop := parseLooseRow.holds Tryz.pinned (OpenSpec.ofChange parseLooseWrong)

/- THE SECOND FORM. 'bulk': how many values and letters a reading holds, each counted each time it is reached (what is shared counts as often as it is met; a slice's spare places count too). A statement '..UptoSaid' is the law's where the arguments, and the package variables that the reading takes, are together of bulk at most 1048576: NARROWER than '..Said'. Prove '..Said' where nothing that the law and all that it calls make is longer than what came in: it says more and counts as full. Else prove '..UptoSaid'. A law counts once. -/
mutual
def uptoBulk {H : Type} : DataW H → Nat
  | .lit (.string bytes) => bytes.length + 1
  | .lit _ => 1
  | .nil => 1
  | .ptr d => uptoBulk d + 1
  | .slice elems spare => uptoBulkAll elems + uptoBulkAll spare + 1
  | .agg parts => uptoBulkAll parts + 1
  | .iface _ d => uptoBulk d + 1
  | .map entries => uptoBulkEntries entries + 1
  | .held _ => 1
def uptoBulkAll {H : Type} : List (DataW H) → Nat
  | [] => 0
  | d :: r => uptoBulk d + uptoBulkAll r
def uptoBulkEntries {H : Type} : List (Lit × DataW H) → Nat
  | [] => 0
  | x :: r => uptoBulkEntry x + uptoBulkEntries r
def uptoBulkEntry {H : Type} : Lit × DataW H → Nat
  | (.string bytes, d) => bytes.length + uptoBulk d + 1
  | (_, d) => uptoBulk d + 1
 end
def uptoSmall : (H : Type) → List (DataW H) → Bool := fun _ ds => decide (uptoBulkAll ds ≤ 1048576)
def OpenSpec.upto (s : _root_.Go.ChangeSpec) : _root_.Go.OpenSpec := { _root_.Go.OpenSpec.ofChange s with cond := some uptoSmall }

/-- 'affluxlaw13.ParseRight', WHERE WHAT IT READS IS OF BULK AT MOST 1048576: true; the input reads as it did. -/
def parseRightUptoRow : OpenClaim := { program := "ytlakeanldbdedaagreat", sum := "84135308e7434f3b5206815f804e3c0f861495d78c0e777a92e3a22313b03fad", func := "afflux/affluxlaw13.ParseRight", spec := "parseRight", inPlace := ["internal/bytealg.IndexByteString", "math/bits.Add64"], unfollowed := true, recurses := true, apart := false, narrowed := true }
def ParseRightUptoSaid : Prop := parseRightUptoRow.holds Tryz.pinned (OpenSpec.upto parseRightSpec)

/-- 'affluxlaw13.ParseCuts', WHERE WHAT IT READS IS OF BULK AT MOST 1048576: true; the input reads as it did. -/
def parseCutsUptoRow : OpenClaim := { program := "ytlakeanldbdedaagreat", sum := "84135308e7434f3b5206815f804e3c0f861495d78c0e777a92e3a22313b03fad", func := "afflux/affluxlaw13.ParseCuts", spec := "parseCuts", inPlace := ["internal/bytealg.IndexByteString", "math/bits.Add64"], unfollowed := true, recurses := true, apart := false, narrowed := true }
def ParseCutsUptoSaid : Prop := parseCutsUptoRow.holds Tryz.pinned (OpenSpec.upto parseCutsSpec)

/-- 'affluxlaw13.ParseExprs', WHERE WHAT IT READS IS OF BULK AT MOST 1048576: true; the input reads as it did. -/
def parseExprsUptoRow : OpenClaim := { program := "ytlakeanldbdedaagreat", sum := "84135308e7434f3b5206815f804e3c0f861495d78c0e777a92e3a22313b03fad", func := "afflux/affluxlaw13.ParseExprs", spec := "parseExprs", inPlace := ["internal/bytealg.IndexByteString", "math/bits.Add64"], unfollowed := true, recurses := true, apart := false, narrowed := true }
def ParseExprsUptoSaid : Prop := parseExprsUptoRow.holds Tryz.pinned (OpenSpec.upto parseExprsSpec)

/-- 'affluxlaw13.ParseLoose', WHERE WHAT IT READS IS OF BULK AT MOST 1048576: true; the input reads as it did. -/
def parseLooseUptoRow : OpenClaim := { program := "ytlakeanldbdedaagreat", sum := "84135308e7434f3b5206815f804e3c0f861495d78c0e777a92e3a22313b03fad", func := "afflux/affluxlaw13.ParseLoose", spec := "parseLoose", inPlace := ["internal/bytealg.IndexByteString", "math/bits.Add64"], unfollowed := true, recurses := true, apart := false, narrowed := true }
def ParseLooseUptoSaid : Prop := parseLooseUptoRow.holds Tryz.pinned (OpenSpec.upto parseLooseSpec)

end Rows
end Go.Proofs.YtlakeanldbdedaaGreat

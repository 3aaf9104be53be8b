/-
  DERIVED. GIVEN WITH THE SEED: THE CARDS: each row of YthiimingnmbgmaaDoorRows.lean that lists a variable, with what it lists TIED to the program's text (the seventh form; the later family's looks); each row that meets fmt, with fmt's text TOLD by the authors' own Lean function (tested against real Go, not proved from fmt's source: count such statements apart). THE CARD IS WHAT COUNTS. Prove the row's statement (the work); the ties are given (YthiimingnmbgmaaDoorTie.lean); close each card by the builder's one call (the guide's Derived/Test/ToyasCard.lean, 'card_holds'). Laid BY PROGRAM, IN A SANDBOX (cutbox-door.mjs). By AI agents, Wed Nov 11 2026. No macro, syntax, notation, axiom, sorry.
-/
import Derived.Test.YthiimingnmbgmaaDoorRows
import GoSem.ClaimSeven
namespace Go.Proofs.YthiimingnmbgmaaDoor
namespace Rows

/-- THE TIED CARD OF 'affluxlaw14.PrintExprs'. -/
def printExprsCard : Claim7 := { stood := { row := printExprsRow, standIns := [], harness := (true, "8e8dcce4d4f9bcfc22c541fbb99c92455ee4b5cc760c52848879fcd3b9cb31c8"), looks := false }, kinds := [], alts := [], laidByText := true, laidKinds := [.data, .pinned], laidTests := true, laidLooks := .later }
def PrintExprsCardSaid : Prop := Claim7.holds Tryd.pinned (.plain (OpenSpec.ofChange printExprsSpec)) printExprsCard

/-- THE SECOND FORM's CARD OF 'affluxlaw14.PrintExprs'. -/
def printExprsUptoCard : Claim7 := { stood := { row := printExprsUptoRow, standIns := [], harness := (true, "8e8dcce4d4f9bcfc22c541fbb99c92455ee4b5cc760c52848879fcd3b9cb31c8"), looks := false }, kinds := [], alts := [], laidByText := true, laidKinds := [.data, .pinned], laidTests := true, laidLooks := .later }
def PrintExprsUptoCardSaid : Prop := Claim7.holds Tryd.pinned (.plain (OpenSpec.upto printExprsSpec)) printExprsUptoCard
end Rows
end Go.Proofs.YthiimingnmbgmaaDoor

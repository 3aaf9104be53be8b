/-
  DERIVED. GIVEN WITH THE SEED: THE CARDS: each row of YtdgapmnojmhllaaGreatDoorRows.lean that lists a variable, with what it lists TIED to the program's text (the seventh form; the later family's looks); each row that meets fmt, with fmt's text TOLD by the authors' own Lean function (tested against real Go, not proved from fmt's source: count such statements apart). THE CARD IS WHAT COUNTS. Prove the row's statement (the work); the ties are given (YtdgapmnojmhllaaGreatDoorTie.lean); close each card by the builder's one call (the guide's Derived/Test/ToyasCard.lean, 'card_holds'). Laid BY PROGRAM, IN A SANDBOX (cutbox-door.mjs). By AI agents, Wed Nov 11 2026. No macro, syntax, notation, axiom, sorry.
-/
import Derived.Test.YtdgapmnojmhllaaGreatDoorRows
import GoSem.ClaimSeven
namespace Go.Proofs.YtdgapmnojmhllaaGreatDoor
namespace Rows

/-- THE TIED CARD OF 'affluxlaw14.PrintFew'. -/
def printFewCard : Claim7 := { stood := { row := printFewRow, standIns := [], harness := (true, "e002bfb50791d7355f81da3b711776514165662f658e833e249efbb8a4e2c748"), looks := false }, kinds := [], alts := [], laidByText := true, laidKinds := [.data, .pinned], laidTests := true, laidLooks := .later }
def PrintFewCardSaid : Prop := Claim7.holds Tryz.pinned (.plain (OpenSpec.ofChange printFewSpec)) printFewCard

/-- THE TIED CARD OF 'affluxlaw14.PrintBack'. -/
def printBackCard : Claim7 := { stood := { row := printBackRow, standIns := [], harness := (true, "e002bfb50791d7355f81da3b711776514165662f658e833e249efbb8a4e2c748"), looks := false }, kinds := [], alts := [], laidByText := true, laidKinds := [.data, .pinned], laidTests := true, laidLooks := .later }
def PrintBackCardSaid : Prop := Claim7.holds Tryz.pinned (.plain (OpenSpec.ofChange printBackSpec)) printBackCard

/-- THE SECOND FORM's CARD OF 'affluxlaw14.PrintFew'. -/
def printFewUptoCard : Claim7 := { stood := { row := printFewUptoRow, standIns := [], harness := (true, "e002bfb50791d7355f81da3b711776514165662f658e833e249efbb8a4e2c748"), looks := false }, kinds := [], alts := [], laidByText := true, laidKinds := [.data, .pinned], laidTests := true, laidLooks := .later }
def PrintFewUptoCardSaid : Prop := Claim7.holds Tryz.pinned (.plain (OpenSpec.upto printFewSpec)) printFewUptoCard

/-- THE SECOND FORM's CARD OF 'affluxlaw14.PrintBack'. -/
def printBackUptoCard : Claim7 := { stood := { row := printBackUptoRow, standIns := [], harness := (true, "e002bfb50791d7355f81da3b711776514165662f658e833e249efbb8a4e2c748"), looks := false }, kinds := [], alts := [], laidByText := true, laidKinds := [.data, .pinned], laidTests := true, laidLooks := .later }
def PrintBackUptoCardSaid : Prop := Claim7.holds Tryz.pinned (.plain (OpenSpec.upto printBackSpec)) printBackUptoCard
end Rows
end Go.Proofs.YtdgapmnojmhllaaGreatDoor

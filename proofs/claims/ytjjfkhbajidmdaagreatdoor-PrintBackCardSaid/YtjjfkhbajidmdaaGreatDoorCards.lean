/-
  DERIVED. GIVEN WITH THE SEED: THE CARDS: each row of YtjjfkhbajidmdaaGreatDoorRows.lean that lists a variable, with what it lists TIED to the program's text (the seventh form; the later family's looks); each row that meets fmt, with fmt's text TOLD by the authors' own Lean function (tested against real Go, not proved from fmt's source: count such statements apart). THE CARD IS WHAT COUNTS. Prove the row's statement (the work); the ties are given (YtjjfkhbajidmdaaGreatDoorTie.lean); close each card by the builder's one call (the guide's Derived/Test/ToyasCard.lean, 'card_holds'). Laid BY PROGRAM, IN A SANDBOX (cutbox-door.mjs). By AI agents, Wed Nov 11 2026. No macro, syntax, notation, axiom, sorry.
-/
import Derived.Test.YtjjfkhbajidmdaaGreatDoorRows
import GoSem.ClaimSeven
namespace Go.Proofs.YtjjfkhbajidmdaaGreatDoor
namespace Rows

/-- THE TIED CARD OF 'affluxlaw14.PrintBack'. -/
def printBackCard : Claim7 := { stood := { row := printBackRow, standIns := [], harness := (true, "3945c42a4b7212778620fc2642d65d028fd841b236592d19eb1b84301db06df7"), looks := false }, kinds := [], alts := [], laidByText := true, laidKinds := [.data, .pinned], laidTests := true, laidLooks := .later }
def PrintBackCardSaid : Prop := Claim7.holds Tryz.pinned (.plain (OpenSpec.ofChange printBackSpec)) printBackCard

/-- THE SECOND FORM's CARD OF 'affluxlaw14.PrintBack'. -/
def printBackUptoCard : Claim7 := { stood := { row := printBackUptoRow, standIns := [], harness := (true, "3945c42a4b7212778620fc2642d65d028fd841b236592d19eb1b84301db06df7"), looks := false }, kinds := [], alts := [], laidByText := true, laidKinds := [.data, .pinned], laidTests := true, laidLooks := .later }
def PrintBackUptoCardSaid : Prop := Claim7.holds Tryz.pinned (.plain (OpenSpec.upto printBackSpec)) printBackUptoCard
end Rows
end Go.Proofs.YtjjfkhbajidmdaaGreatDoor

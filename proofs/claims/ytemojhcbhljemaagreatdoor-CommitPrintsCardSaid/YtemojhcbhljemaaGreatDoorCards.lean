/-
  DERIVED. GIVEN WITH THE SEED: THE CARDS: each row of YtemojhcbhljemaaGreatDoorRows.lean that lists a variable, with what it lists TIED to the program's text (the seventh form; the later family's looks); each row that meets fmt, with fmt's text TOLD by the authors' own Lean function (tested against real Go, not proved from fmt's source: count such statements apart). THE CARD IS WHAT COUNTS. Prove the row's statement (the work); the ties are given (YtemojhcbhljemaaGreatDoorTie.lean); close each card by the builder's one call (the guide's Derived/Test/ToyasCard.lean, 'card_holds'). Laid BY PROGRAM, IN A SANDBOX (cutbox-door.mjs). By AI agents, Wed Nov 11 2026. No macro, syntax, notation, axiom, sorry.
-/
import Derived.Test.YtemojhcbhljemaaGreatDoorRows
import GoSem.ClaimSeven
namespace Go.Proofs.YtemojhcbhljemaaGreatDoor
namespace Rows

/-- THE TIED CARD OF 'trestlelaw09.CommitPrints'. -/
def commitPrintsCard : Claim7 := { stood := { row := commitPrintsRow, standIns := [], harness := (true, "53fdcac26502f874ede31dea2c8820465147cf64e621fb1a57af1c6b7d70c900"), looks := true }, kinds := [], alts := [], laidByText := true, laidKinds := [.data, .data, .data, .data, .sentinel, .sentinel, .pinned], laidTests := true, laidLooks := .later }
def CommitPrintsCardSaid : Prop := Claim7.holds Tryz.pinned (.plain (OpenSpec.ofChange commitPrintsSpec)) commitPrintsCard

/-- THE SECOND FORM's CARD OF 'trestlelaw09.CommitPrints'. -/
def commitPrintsUptoCard : Claim7 := { stood := { row := commitPrintsUptoRow, standIns := [], harness := (true, "53fdcac26502f874ede31dea2c8820465147cf64e621fb1a57af1c6b7d70c900"), looks := true }, kinds := [], alts := [], laidByText := true, laidKinds := [.data, .data, .data, .data, .sentinel, .sentinel, .pinned], laidTests := true, laidLooks := .later }
def CommitPrintsUptoCardSaid : Prop := Claim7.holds Tryz.pinned (.plain (OpenSpec.upto commitPrintsSpec)) commitPrintsUptoCard
end Rows
end Go.Proofs.YtemojhcbhljemaaGreatDoor

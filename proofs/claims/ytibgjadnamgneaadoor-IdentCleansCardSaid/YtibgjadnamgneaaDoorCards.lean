/-
  DERIVED. GIVEN WITH THE SEED: THE CARDS: each row of YtibgjadnamgneaaDoorRows.lean that lists a variable, with what it lists TIED to the program's text (the seventh form; the later family's looks); each row that meets fmt, with fmt's text TOLD by the authors' own Lean function (tested against real Go, not proved from fmt's source: count such statements apart). THE CARD IS WHAT COUNTS. Prove the row's statement (the work); the ties are given (YtibgjadnamgneaaDoorTie.lean); close each card by the builder's one call (the guide's Derived/Test/ToyasCard.lean, 'card_holds'). Laid BY PROGRAM, IN A SANDBOX (cutbox-door.mjs). By AI agents, Wed Nov 11 2026. No macro, syntax, notation, axiom, sorry.
-/
import Derived.Test.YtibgjadnamgneaaDoorRows
import GoSem.ClaimSeven
namespace Go.Proofs.YtibgjadnamgneaaDoor
namespace Rows

/-- THE TIED CARD OF 'trestlelaw06.IdentWords'. -/
def identWordsCard : Claim7 := { stood := { row := identWordsRow, standIns := [], harness := (true, "b771b500078866bfe58270c6710f3379d6f9f91b218270e7fd8940a3dd665c46"), looks := true }, kinds := [], alts := [], laidByText := true, laidKinds := [.data, .data, .data, .data, .pinned], laidTests := true, laidLooks := .later }
def IdentWordsCardSaid : Prop := Claim7.holds Tryd.pinned (.plain (OpenSpec.ofChange identWordsSpec)) identWordsCard

/-- THE TIED CARD OF 'trestlelaw06.IdentZones'. -/
def identZonesCard : Claim7 := { stood := { row := identZonesRow, standIns := [], harness := (true, "b771b500078866bfe58270c6710f3379d6f9f91b218270e7fd8940a3dd665c46"), looks := true }, kinds := [], alts := [], laidByText := true, laidKinds := [.data, .data, .data, .data, .pinned], laidTests := true, laidLooks := .later }
def IdentZonesCardSaid : Prop := Claim7.holds Tryd.pinned (.plain (OpenSpec.ofChange identZonesSpec)) identZonesCard

/-- THE TIED CARD OF 'trestlelaw06.IdentCleans'. -/
def identCleansCard : Claim7 := { stood := { row := identCleansRow, standIns := [], harness := (true, "b771b500078866bfe58270c6710f3379d6f9f91b218270e7fd8940a3dd665c46"), looks := true }, kinds := [], alts := [], laidByText := true, laidKinds := [.data, .data, .data, .data, .pinned], laidTests := true, laidLooks := .later }
def IdentCleansCardSaid : Prop := Claim7.holds Tryd.pinned (.plain (OpenSpec.ofChange identCleansSpec)) identCleansCard

/-- THE TIED CARD OF 'trestlelaw06.IdentPrints'. -/
def identPrintsCard : Claim7 := { stood := { row := identPrintsRow, standIns := [], harness := (true, "b771b500078866bfe58270c6710f3379d6f9f91b218270e7fd8940a3dd665c46"), looks := true }, kinds := [], alts := [], laidByText := true, laidKinds := [.data, .data, .data, .data, .sentinel, .sentinel, .pinned], laidTests := true, laidLooks := .later }
def IdentPrintsCardSaid : Prop := Claim7.holds Tryd.pinned (.plain (OpenSpec.ofChange identPrintsSpec)) identPrintsCard

/-- THE TIED CARD OF 'trestlelaw06.IdentBack'. -/
def identBackCard : Claim7 := { stood := { row := identBackRow, standIns := [], harness := (true, "b771b500078866bfe58270c6710f3379d6f9f91b218270e7fd8940a3dd665c46"), looks := true }, kinds := [], alts := [], laidByText := true, laidKinds := [.data, .data, .data, .data, .sentinel, .sentinel, .pinned], laidTests := true, laidLooks := .later }
def IdentBackCardSaid : Prop := Claim7.holds Tryd.pinned (.plain (OpenSpec.ofChange identBackSpec)) identBackCard

/-- THE SECOND FORM's CARD OF 'trestlelaw06.IdentWords'. -/
def identWordsUptoCard : Claim7 := { stood := { row := identWordsUptoRow, standIns := [], harness := (true, "b771b500078866bfe58270c6710f3379d6f9f91b218270e7fd8940a3dd665c46"), looks := true }, kinds := [], alts := [], laidByText := true, laidKinds := [.data, .data, .data, .data, .pinned], laidTests := true, laidLooks := .later }
def IdentWordsUptoCardSaid : Prop := Claim7.holds Tryd.pinned (.plain (OpenSpec.upto identWordsSpec)) identWordsUptoCard

/-- THE SECOND FORM's CARD OF 'trestlelaw06.IdentZones'. -/
def identZonesUptoCard : Claim7 := { stood := { row := identZonesUptoRow, standIns := [], harness := (true, "b771b500078866bfe58270c6710f3379d6f9f91b218270e7fd8940a3dd665c46"), looks := true }, kinds := [], alts := [], laidByText := true, laidKinds := [.data, .data, .data, .data, .pinned], laidTests := true, laidLooks := .later }
def IdentZonesUptoCardSaid : Prop := Claim7.holds Tryd.pinned (.plain (OpenSpec.upto identZonesSpec)) identZonesUptoCard

/-- THE SECOND FORM's CARD OF 'trestlelaw06.IdentCleans'. -/
def identCleansUptoCard : Claim7 := { stood := { row := identCleansUptoRow, standIns := [], harness := (true, "b771b500078866bfe58270c6710f3379d6f9f91b218270e7fd8940a3dd665c46"), looks := true }, kinds := [], alts := [], laidByText := true, laidKinds := [.data, .data, .data, .data, .pinned], laidTests := true, laidLooks := .later }
def IdentCleansUptoCardSaid : Prop := Claim7.holds Tryd.pinned (.plain (OpenSpec.upto identCleansSpec)) identCleansUptoCard

/-- THE SECOND FORM's CARD OF 'trestlelaw06.IdentPrints'. -/
def identPrintsUptoCard : Claim7 := { stood := { row := identPrintsUptoRow, standIns := [], harness := (true, "b771b500078866bfe58270c6710f3379d6f9f91b218270e7fd8940a3dd665c46"), looks := true }, kinds := [], alts := [], laidByText := true, laidKinds := [.data, .data, .data, .data, .sentinel, .sentinel, .pinned], laidTests := true, laidLooks := .later }
def IdentPrintsUptoCardSaid : Prop := Claim7.holds Tryd.pinned (.plain (OpenSpec.upto identPrintsSpec)) identPrintsUptoCard

/-- THE SECOND FORM's CARD OF 'trestlelaw06.IdentBack'. -/
def identBackUptoCard : Claim7 := { stood := { row := identBackUptoRow, standIns := [], harness := (true, "b771b500078866bfe58270c6710f3379d6f9f91b218270e7fd8940a3dd665c46"), looks := true }, kinds := [], alts := [], laidByText := true, laidKinds := [.data, .data, .data, .data, .sentinel, .sentinel, .pinned], laidTests := true, laidLooks := .later }
def IdentBackUptoCardSaid : Prop := Claim7.holds Tryd.pinned (.plain (OpenSpec.upto identBackSpec)) identBackUptoCard
end Rows
end Go.Proofs.YtibgjadnamgneaaDoor

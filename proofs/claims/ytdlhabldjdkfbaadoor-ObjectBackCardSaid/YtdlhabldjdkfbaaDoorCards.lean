/-
  DERIVED. GIVEN WITH THE SEED: THE CARDS: each row of YtdlhabldjdkfbaaDoorRows.lean that lists a variable, with what it lists TIED to the program's text (the seventh form; the later family's looks); each row that meets fmt, with fmt's text TOLD by the authors' own Lean function (tested against real Go, not proved from fmt's source: count such statements apart). THE CARD IS WHAT COUNTS. Prove the row's statement (the work); the ties are given (YtdlhabldjdkfbaaDoorTie.lean); close each card by the builder's one call (the guide's Derived/Test/ToyasCard.lean, 'card_holds'). Laid BY PROGRAM, IN A SANDBOX (cutbox-door.mjs). By AI agents, Wed Nov 11 2026. No macro, syntax, notation, axiom, sorry.
-/
import Derived.Test.YtdlhabldjdkfbaaDoorRows
import GoSem.ClaimSeven
namespace Go.Proofs.YtdlhabldjdkfbaaDoor
namespace Rows

/-- THE TIED CARD OF 'trestlelaw07.ObjectLimit'. -/
def objectLimitCard : Claim7 := { stood := { row := objectLimitRow, standIns := [], harness := (true, "2c6fcdd786c72d3dbf31865ab95848068815e43d2a618e7d8dc581eaf45442de"), looks := true }, kinds := [], alts := [], laidByText := true, laidKinds := [.data, .data, .data], laidTests := true, laidLooks := .later }
def ObjectLimitCardSaid : Prop := Claim7.holds Tryd.pinned (.plain (OpenSpec.ofChange objectLimitSpec)) objectLimitCard

/-- THE TIED CARD OF 'trestlelaw07.ObjectHeads'. -/
def objectHeadsCard : Claim7 := { stood := { row := objectHeadsRow, standIns := [], harness := (true, "2c6fcdd786c72d3dbf31865ab95848068815e43d2a618e7d8dc581eaf45442de"), looks := true }, kinds := [], alts := [], laidByText := true, laidKinds := [.data, .data, .data], laidTests := true, laidLooks := .later }
def ObjectHeadsCardSaid : Prop := Claim7.holds Tryd.pinned (.plain (OpenSpec.ofChange objectHeadsSpec)) objectHeadsCard

/-- THE TIED CARD OF 'trestlelaw07.ObjectPrints'. -/
def objectPrintsCard : Claim7 := { stood := { row := objectPrintsRow, standIns := [], harness := (true, "2c6fcdd786c72d3dbf31865ab95848068815e43d2a618e7d8dc581eaf45442de"), looks := true }, kinds := [], alts := [], laidByText := true, laidKinds := [.data, .data, .data], laidTests := true, laidLooks := .later }
def ObjectPrintsCardSaid : Prop := Claim7.holds Tryd.pinned (.plain (OpenSpec.ofChange objectPrintsSpec)) objectPrintsCard

/-- THE TIED CARD OF 'trestlelaw07.ObjectBack'. -/
def objectBackCard : Claim7 := { stood := { row := objectBackRow, standIns := [], harness := (true, "2c6fcdd786c72d3dbf31865ab95848068815e43d2a618e7d8dc581eaf45442de"), looks := true }, kinds := [], alts := [], laidByText := true, laidKinds := [.data, .data, .data], laidTests := true, laidLooks := .later }
def ObjectBackCardSaid : Prop := Claim7.holds Tryd.pinned (.plain (OpenSpec.ofChange objectBackSpec)) objectBackCard

/-- THE SECOND FORM's CARD OF 'trestlelaw07.ObjectLimit'. -/
def objectLimitUptoCard : Claim7 := { stood := { row := objectLimitUptoRow, standIns := [], harness := (true, "2c6fcdd786c72d3dbf31865ab95848068815e43d2a618e7d8dc581eaf45442de"), looks := true }, kinds := [], alts := [], laidByText := true, laidKinds := [.data, .data, .data], laidTests := true, laidLooks := .later }
def ObjectLimitUptoCardSaid : Prop := Claim7.holds Tryd.pinned (.plain (OpenSpec.upto objectLimitSpec)) objectLimitUptoCard

/-- THE SECOND FORM's CARD OF 'trestlelaw07.ObjectHeads'. -/
def objectHeadsUptoCard : Claim7 := { stood := { row := objectHeadsUptoRow, standIns := [], harness := (true, "2c6fcdd786c72d3dbf31865ab95848068815e43d2a618e7d8dc581eaf45442de"), looks := true }, kinds := [], alts := [], laidByText := true, laidKinds := [.data, .data, .data], laidTests := true, laidLooks := .later }
def ObjectHeadsUptoCardSaid : Prop := Claim7.holds Tryd.pinned (.plain (OpenSpec.upto objectHeadsSpec)) objectHeadsUptoCard

/-- THE SECOND FORM's CARD OF 'trestlelaw07.ObjectPrints'. -/
def objectPrintsUptoCard : Claim7 := { stood := { row := objectPrintsUptoRow, standIns := [], harness := (true, "2c6fcdd786c72d3dbf31865ab95848068815e43d2a618e7d8dc581eaf45442de"), looks := true }, kinds := [], alts := [], laidByText := true, laidKinds := [.data, .data, .data], laidTests := true, laidLooks := .later }
def ObjectPrintsUptoCardSaid : Prop := Claim7.holds Tryd.pinned (.plain (OpenSpec.upto objectPrintsSpec)) objectPrintsUptoCard

/-- THE SECOND FORM's CARD OF 'trestlelaw07.ObjectBack'. -/
def objectBackUptoCard : Claim7 := { stood := { row := objectBackUptoRow, standIns := [], harness := (true, "2c6fcdd786c72d3dbf31865ab95848068815e43d2a618e7d8dc581eaf45442de"), looks := true }, kinds := [], alts := [], laidByText := true, laidKinds := [.data, .data, .data], laidTests := true, laidLooks := .later }
def ObjectBackUptoCardSaid : Prop := Claim7.holds Tryd.pinned (.plain (OpenSpec.upto objectBackSpec)) objectBackUptoCard
end Rows
end Go.Proofs.YtdlhabldjdkfbaaDoor

/-
  DERIVED. GIVEN WITH THE SEED: THE CARDS: each row of YtgapnfalmdjlcaaDoorRows.lean that lists a variable, with what it lists TIED to the program's text (the seventh form; the later family's looks); each row that meets fmt, with fmt's text TOLD by the authors' own Lean function (tested against real Go, not proved from fmt's source: count such statements apart). THE CARD IS WHAT COUNTS. Prove the row's statement (the work); the ties are given (YtgapnfalmdjlcaaDoorTie.lean); close each card by the builder's one call (the guide's Derived/Test/ToyasCard.lean, 'card_holds'). Laid BY PROGRAM, IN A SANDBOX (cutbox-door.mjs). By AI agents, Wed Nov 11 2026. No macro, syntax, notation, axiom, sorry.
-/
import Derived.Test.YtgapnfalmdjlcaaDoorRows
import GoSem.ClaimSeven
namespace Go.Proofs.YtgapnfalmdjlcaaDoor
namespace Rows

/-- THE TIED CARD OF 'trestlelaw11.RefnameTells'. -/
def refnameTellsCard : Claim7 := { stood := { row := refnameTellsRow, standIns := [], harness := (true, "c1143476f165ce0a9afe7c8b25969306cabc795ecc1a418ccdb329922a5c7fce"), looks := false }, kinds := [], alts := [], laidByText := true, laidKinds := [.data, .pinned], laidTests := true, laidLooks := .later }
def RefnameTellsCardSaid : Prop := Claim7.holds Tryd.pinned (.plain (OpenSpec.ofChange refnameTellsSpec)) refnameTellsCard

/-- THE TIED CARD OF 'trestlelaw11.RefnameParts'. -/
def refnamePartsCard : Claim7 := { stood := { row := refnamePartsRow, standIns := [], harness := (true, "c1143476f165ce0a9afe7c8b25969306cabc795ecc1a418ccdb329922a5c7fce"), looks := false }, kinds := [], alts := [], laidByText := true, laidKinds := [.data, .pinned], laidTests := true, laidLooks := .later }
def RefnamePartsCardSaid : Prop := Claim7.holds Tryd.pinned (.plain (OpenSpec.ofChange refnamePartsSpec)) refnamePartsCard

/-- THE TIED CARD OF 'trestlelaw11.RefnameLong'. -/
def refnameLongCard : Claim7 := { stood := { row := refnameLongRow, standIns := [], harness := (true, "c1143476f165ce0a9afe7c8b25969306cabc795ecc1a418ccdb329922a5c7fce"), looks := false }, kinds := [], alts := [], laidByText := true, laidKinds := [.data, .pinned], laidTests := true, laidLooks := .later }
def RefnameLongCardSaid : Prop := Claim7.holds Tryd.pinned (.plain (OpenSpec.ofChange refnameLongSpec)) refnameLongCard

/-- THE TIED CARD OF 'trestlelaw11.RefnameBranches'. -/
def refnameBranchesCard : Claim7 := { stood := { row := refnameBranchesRow, standIns := [], harness := (true, "c1143476f165ce0a9afe7c8b25969306cabc795ecc1a418ccdb329922a5c7fce"), looks := false }, kinds := [], alts := [], laidByText := true, laidKinds := [.data, .pinned], laidTests := true, laidLooks := .later }
def RefnameBranchesCardSaid : Prop := Claim7.holds Tryd.pinned (.plain (OpenSpec.ofChange refnameBranchesSpec)) refnameBranchesCard

/-- THE SECOND FORM's CARD OF 'trestlelaw11.RefnameTells'. -/
def refnameTellsUptoCard : Claim7 := { stood := { row := refnameTellsUptoRow, standIns := [], harness := (true, "c1143476f165ce0a9afe7c8b25969306cabc795ecc1a418ccdb329922a5c7fce"), looks := false }, kinds := [], alts := [], laidByText := true, laidKinds := [.data, .pinned], laidTests := true, laidLooks := .later }
def RefnameTellsUptoCardSaid : Prop := Claim7.holds Tryd.pinned (.plain (OpenSpec.upto refnameTellsSpec)) refnameTellsUptoCard

/-- THE SECOND FORM's CARD OF 'trestlelaw11.RefnameParts'. -/
def refnamePartsUptoCard : Claim7 := { stood := { row := refnamePartsUptoRow, standIns := [], harness := (true, "c1143476f165ce0a9afe7c8b25969306cabc795ecc1a418ccdb329922a5c7fce"), looks := false }, kinds := [], alts := [], laidByText := true, laidKinds := [.data, .pinned], laidTests := true, laidLooks := .later }
def RefnamePartsUptoCardSaid : Prop := Claim7.holds Tryd.pinned (.plain (OpenSpec.upto refnamePartsSpec)) refnamePartsUptoCard

/-- THE SECOND FORM's CARD OF 'trestlelaw11.RefnameLong'. -/
def refnameLongUptoCard : Claim7 := { stood := { row := refnameLongUptoRow, standIns := [], harness := (true, "c1143476f165ce0a9afe7c8b25969306cabc795ecc1a418ccdb329922a5c7fce"), looks := false }, kinds := [], alts := [], laidByText := true, laidKinds := [.data, .pinned], laidTests := true, laidLooks := .later }
def RefnameLongUptoCardSaid : Prop := Claim7.holds Tryd.pinned (.plain (OpenSpec.upto refnameLongSpec)) refnameLongUptoCard

/-- THE SECOND FORM's CARD OF 'trestlelaw11.RefnameBranches'. -/
def refnameBranchesUptoCard : Claim7 := { stood := { row := refnameBranchesUptoRow, standIns := [], harness := (true, "c1143476f165ce0a9afe7c8b25969306cabc795ecc1a418ccdb329922a5c7fce"), looks := false }, kinds := [], alts := [], laidByText := true, laidKinds := [.data, .pinned], laidTests := true, laidLooks := .later }
def RefnameBranchesUptoCardSaid : Prop := Claim7.holds Tryd.pinned (.plain (OpenSpec.upto refnameBranchesSpec)) refnameBranchesUptoCard
end Rows
end Go.Proofs.YtgapnfalmdjlcaaDoor

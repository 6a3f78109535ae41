/-
  DERIVED. GIVEN WITH THE SEED: THE CARDS: each row of YtpgcjljaokopaaaDoorRows.lean that lists a variable, with what it lists TIED to the program's text (the seventh form; the later family's looks); each row that meets fmt, with fmt's text TOLD by the authors' own Lean function (tested against real Go, not proved from fmt's source: count such statements apart). THE CARD IS WHAT COUNTS. Prove the row's statement (the work); the ties are given (YtpgcjljaokopaaaDoorTie.lean); close each card by the builder's one call (the guide's Derived/Test/ToyasCard.lean, 'card_holds'). Laid BY PROGRAM, IN A SANDBOX (cutbox-door.mjs). By AI agents, Wed Nov 11 2026. No macro, syntax, notation, axiom, sorry.
-/
import Derived.Test.YtpgcjljaokopaaaDoorRows
import GoSem.ClaimSeven
namespace Go.Proofs.YtpgcjljaokopaaaDoor
namespace Rows

/-- THE TIED CARD OF 'trestlelaw08.TreeNames'. -/
def treeNamesCard : Claim7 := { stood := { row := treeNamesRow, standIns := [], harness := (true, "6384b6262fe79d8825648ce27856fb8e2ab4f3b2804c29797f08237aa77a01fa"), looks := false }, kinds := [], alts := [], laidByText := true, laidKinds := [.data, .data, .data, .pinned, .pinned], laidTests := true, laidLooks := .later }
def TreeNamesCardSaid : Prop := Claim7.holds Tryd.pinned (.plain (OpenSpec.ofChange treeNamesSpec)) treeNamesCard

/-- THE TIED CARD OF 'trestlelaw08.TreeOrder'. -/
def treeOrderCard : Claim7 := { stood := { row := treeOrderRow, standIns := [], harness := (true, "6384b6262fe79d8825648ce27856fb8e2ab4f3b2804c29797f08237aa77a01fa"), looks := false }, kinds := [], alts := [], laidByText := true, laidKinds := [.data, .data, .data, .pinned, .pinned], laidTests := true, laidLooks := .later }
def TreeOrderCardSaid : Prop := Claim7.holds Tryd.pinned (.plain (OpenSpec.ofChange treeOrderSpec)) treeOrderCard

/-- THE TIED CARD OF 'trestlelaw08.TreePrints'. -/
def treePrintsCard : Claim7 := { stood := { row := treePrintsRow, standIns := [], harness := (true, "6384b6262fe79d8825648ce27856fb8e2ab4f3b2804c29797f08237aa77a01fa"), looks := false }, kinds := [], alts := [], laidByText := true, laidKinds := [.data, .data, .data, .pinned, .pinned], laidTests := true, laidLooks := .later }
def TreePrintsCardSaid : Prop := Claim7.holds Tryd.pinned (.plain (OpenSpec.ofChange treePrintsSpec)) treePrintsCard

/-- THE TIED CARD OF 'trestlelaw08.TreeBack'. -/
def treeBackCard : Claim7 := { stood := { row := treeBackRow, standIns := [], harness := (true, "6384b6262fe79d8825648ce27856fb8e2ab4f3b2804c29797f08237aa77a01fa"), looks := false }, kinds := [], alts := [], laidByText := true, laidKinds := [.data, .data, .data, .pinned, .pinned], laidTests := true, laidLooks := .later }
def TreeBackCardSaid : Prop := Claim7.holds Tryd.pinned (.plain (OpenSpec.ofChange treeBackSpec)) treeBackCard

/-- THE TIED CARD OF 'trestlelaw08.TreeCut'. -/
def treeCutCard : Claim7 := { stood := { row := treeCutRow, standIns := [], harness := (true, "6384b6262fe79d8825648ce27856fb8e2ab4f3b2804c29797f08237aa77a01fa"), looks := false }, kinds := [], alts := [], laidByText := true, laidKinds := [.data, .data, .data, .pinned, .pinned], laidTests := true, laidLooks := .later }
def TreeCutCardSaid : Prop := Claim7.holds Tryd.pinned (.plain (OpenSpec.ofChange treeCutSpec)) treeCutCard

/-- THE TIED CARD OF 'trestlelaw08.TreeModes'. -/
def treeModesCard : Claim7 := { stood := { row := treeModesRow, standIns := [], harness := (true, "6384b6262fe79d8825648ce27856fb8e2ab4f3b2804c29797f08237aa77a01fa"), looks := false }, kinds := [], alts := [], laidByText := true, laidKinds := [.data, .data, .data, .pinned, .pinned], laidTests := true, laidLooks := .later }
def TreeModesCardSaid : Prop := Claim7.holds Tryd.pinned (.plain (OpenSpec.ofChange treeModesSpec)) treeModesCard

/-- THE SECOND FORM's CARD OF 'trestlelaw08.TreeNames'. -/
def treeNamesUptoCard : Claim7 := { stood := { row := treeNamesUptoRow, standIns := [], harness := (true, "6384b6262fe79d8825648ce27856fb8e2ab4f3b2804c29797f08237aa77a01fa"), looks := false }, kinds := [], alts := [], laidByText := true, laidKinds := [.data, .data, .data, .pinned, .pinned], laidTests := true, laidLooks := .later }
def TreeNamesUptoCardSaid : Prop := Claim7.holds Tryd.pinned (.plain (OpenSpec.upto treeNamesSpec)) treeNamesUptoCard

/-- THE SECOND FORM's CARD OF 'trestlelaw08.TreeOrder'. -/
def treeOrderUptoCard : Claim7 := { stood := { row := treeOrderUptoRow, standIns := [], harness := (true, "6384b6262fe79d8825648ce27856fb8e2ab4f3b2804c29797f08237aa77a01fa"), looks := false }, kinds := [], alts := [], laidByText := true, laidKinds := [.data, .data, .data, .pinned, .pinned], laidTests := true, laidLooks := .later }
def TreeOrderUptoCardSaid : Prop := Claim7.holds Tryd.pinned (.plain (OpenSpec.upto treeOrderSpec)) treeOrderUptoCard

/-- THE SECOND FORM's CARD OF 'trestlelaw08.TreePrints'. -/
def treePrintsUptoCard : Claim7 := { stood := { row := treePrintsUptoRow, standIns := [], harness := (true, "6384b6262fe79d8825648ce27856fb8e2ab4f3b2804c29797f08237aa77a01fa"), looks := false }, kinds := [], alts := [], laidByText := true, laidKinds := [.data, .data, .data, .pinned, .pinned], laidTests := true, laidLooks := .later }
def TreePrintsUptoCardSaid : Prop := Claim7.holds Tryd.pinned (.plain (OpenSpec.upto treePrintsSpec)) treePrintsUptoCard

/-- THE SECOND FORM's CARD OF 'trestlelaw08.TreeBack'. -/
def treeBackUptoCard : Claim7 := { stood := { row := treeBackUptoRow, standIns := [], harness := (true, "6384b6262fe79d8825648ce27856fb8e2ab4f3b2804c29797f08237aa77a01fa"), looks := false }, kinds := [], alts := [], laidByText := true, laidKinds := [.data, .data, .data, .pinned, .pinned], laidTests := true, laidLooks := .later }
def TreeBackUptoCardSaid : Prop := Claim7.holds Tryd.pinned (.plain (OpenSpec.upto treeBackSpec)) treeBackUptoCard

/-- THE SECOND FORM's CARD OF 'trestlelaw08.TreeCut'. -/
def treeCutUptoCard : Claim7 := { stood := { row := treeCutUptoRow, standIns := [], harness := (true, "6384b6262fe79d8825648ce27856fb8e2ab4f3b2804c29797f08237aa77a01fa"), looks := false }, kinds := [], alts := [], laidByText := true, laidKinds := [.data, .data, .data, .pinned, .pinned], laidTests := true, laidLooks := .later }
def TreeCutUptoCardSaid : Prop := Claim7.holds Tryd.pinned (.plain (OpenSpec.upto treeCutSpec)) treeCutUptoCard

/-- THE SECOND FORM's CARD OF 'trestlelaw08.TreeModes'. -/
def treeModesUptoCard : Claim7 := { stood := { row := treeModesUptoRow, standIns := [], harness := (true, "6384b6262fe79d8825648ce27856fb8e2ab4f3b2804c29797f08237aa77a01fa"), looks := false }, kinds := [], alts := [], laidByText := true, laidKinds := [.data, .data, .data, .pinned, .pinned], laidTests := true, laidLooks := .later }
def TreeModesUptoCardSaid : Prop := Claim7.holds Tryd.pinned (.plain (OpenSpec.upto treeModesSpec)) treeModesUptoCard
end Rows
end Go.Proofs.YtpgcjljaokopaaaDoor

/-
  DERIVED. GIVEN WITH THE SEED: THE CARDS: each row of YtgjnnoamhmmcnaaDoorRows.lean that lists a variable, with what it lists TIED to the program's text (the seventh form; the later family's looks); each row that meets fmt, with fmt's text TOLD by the authors' own Lean function (tested against real Go, not proved from fmt's source: count such statements apart). THE CARD IS WHAT COUNTS. Prove the row's statement (the work); the ties are given (YtgjnnoamhmmcnaaDoorTie.lean); close each card by the builder's one call (the guide's Derived/Test/ToyasCard.lean, 'card_holds'). Laid BY PROGRAM, IN A SANDBOX (cutbox-door.mjs). By AI agents, Wed Nov 11 2026. No macro, syntax, notation, axiom, sorry.
-/
import Derived.Test.YtgjnnoamhmmcnaaDoorRows
import GoSem.ClaimSeven
namespace Go.Proofs.YtgjnnoamhmmcnaaDoor
namespace Rows

/-- THE TIED CARD OF 'trestlelaw16.ManifestPrints'. -/
def manifestPrintsCard : Claim7 := { stood := { row := manifestPrintsRow, standIns := [], harness := (true, "f363128e358878dfac5cb73c8a9186f3c29906bc76b87ddb3609e1ca4afe0cbf"), looks := false }, kinds := [], alts := [], laidByText := true, laidKinds := [.data, .data, .data, .pinned, .pinned], laidTests := true, laidLooks := .later }
def ManifestPrintsCardSaid : Prop := Claim7.holds Tryd.pinned (.plain (OpenSpec.ofChange manifestPrintsSpec)) manifestPrintsCard

/-- THE TIED CARD OF 'trestlelaw16.ManifestBack'. -/
def manifestBackCard : Claim7 := { stood := { row := manifestBackRow, standIns := [], harness := (true, "f363128e358878dfac5cb73c8a9186f3c29906bc76b87ddb3609e1ca4afe0cbf"), looks := false }, kinds := [], alts := [], laidByText := true, laidKinds := [.data, .data, .data, .pinned, .pinned], laidTests := true, laidLooks := .later }
def ManifestBackCardSaid : Prop := Claim7.holds Tryd.pinned (.plain (OpenSpec.ofChange manifestBackSpec)) manifestBackCard

/-- THE TIED CARD OF 'trestlelaw16.ManifestLines'. -/
def manifestLinesCard : Claim7 := { stood := { row := manifestLinesRow, standIns := [], harness := (true, "f363128e358878dfac5cb73c8a9186f3c29906bc76b87ddb3609e1ca4afe0cbf"), looks := false }, kinds := [], alts := [], laidByText := true, laidKinds := [.data, .data, .data, .pinned, .pinned], laidTests := true, laidLooks := .later }
def ManifestLinesCardSaid : Prop := Claim7.holds Tryd.pinned (.plain (OpenSpec.ofChange manifestLinesSpec)) manifestLinesCard

/-- THE SECOND FORM's CARD OF 'trestlelaw16.ManifestPrints'. -/
def manifestPrintsUptoCard : Claim7 := { stood := { row := manifestPrintsUptoRow, standIns := [], harness := (true, "f363128e358878dfac5cb73c8a9186f3c29906bc76b87ddb3609e1ca4afe0cbf"), looks := false }, kinds := [], alts := [], laidByText := true, laidKinds := [.data, .data, .data, .pinned, .pinned], laidTests := true, laidLooks := .later }
def ManifestPrintsUptoCardSaid : Prop := Claim7.holds Tryd.pinned (.plain (OpenSpec.upto manifestPrintsSpec)) manifestPrintsUptoCard

/-- THE SECOND FORM's CARD OF 'trestlelaw16.ManifestBack'. -/
def manifestBackUptoCard : Claim7 := { stood := { row := manifestBackUptoRow, standIns := [], harness := (true, "f363128e358878dfac5cb73c8a9186f3c29906bc76b87ddb3609e1ca4afe0cbf"), looks := false }, kinds := [], alts := [], laidByText := true, laidKinds := [.data, .data, .data, .pinned, .pinned], laidTests := true, laidLooks := .later }
def ManifestBackUptoCardSaid : Prop := Claim7.holds Tryd.pinned (.plain (OpenSpec.upto manifestBackSpec)) manifestBackUptoCard

/-- THE SECOND FORM's CARD OF 'trestlelaw16.ManifestLines'. -/
def manifestLinesUptoCard : Claim7 := { stood := { row := manifestLinesUptoRow, standIns := [], harness := (true, "f363128e358878dfac5cb73c8a9186f3c29906bc76b87ddb3609e1ca4afe0cbf"), looks := false }, kinds := [], alts := [], laidByText := true, laidKinds := [.data, .data, .data, .pinned, .pinned], laidTests := true, laidLooks := .later }
def ManifestLinesUptoCardSaid : Prop := Claim7.holds Tryd.pinned (.plain (OpenSpec.upto manifestLinesSpec)) manifestLinesUptoCard
end Rows
end Go.Proofs.YtgjnnoamhmmcnaaDoor

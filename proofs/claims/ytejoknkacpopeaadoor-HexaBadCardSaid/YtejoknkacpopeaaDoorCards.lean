/-
  DERIVED. GIVEN WITH THE SEED: THE CARDS: each row of YtejoknkacpopeaaDoorRows.lean that lists a variable, with what it lists TIED to the program's text (the seventh form; the later family's looks); each row that meets fmt, with fmt's text TOLD by the authors' own Lean function (tested against real Go, not proved from fmt's source: count such statements apart). THE CARD IS WHAT COUNTS. Prove the row's statement (the work); the ties are given (YtejoknkacpopeaaDoorTie.lean); close each card by the builder's one call (the guide's Derived/Test/ToyasCard.lean, 'card_holds'). Laid BY PROGRAM, IN A SANDBOX (cutbox-door.mjs). By AI agents, Wed Nov 11 2026. No macro, syntax, notation, axiom, sorry.
-/
import Derived.Test.YtejoknkacpopeaaDoorRows
import GoSem.ClaimSeven
namespace Go.Proofs.YtejoknkacpopeaaDoor
namespace Rows

/-- THE TIED CARD OF 'trestlelaw01.HexaDigits'. -/
def hexaDigitsCard : Claim7 := { stood := { row := hexaDigitsRow, standIns := [], harness := (true, "f7aafc729ca0ddb01a459d4c16e5529ceb55340f0330c49551cd0a7b6cac230f"), looks := true }, kinds := [], alts := [], laidByText := true, laidKinds := [.data, .data, .data], laidTests := true, laidLooks := .later }
def HexaDigitsCardSaid : Prop := Claim7.holds Tryd.pinned (.plain (OpenSpec.ofChange hexaDigitsSpec)) hexaDigitsCard

/-- THE TIED CARD OF 'trestlelaw01.HexaIds'. -/
def hexaIdsCard : Claim7 := { stood := { row := hexaIdsRow, standIns := [], harness := (true, "f7aafc729ca0ddb01a459d4c16e5529ceb55340f0330c49551cd0a7b6cac230f"), looks := true }, kinds := [], alts := [], laidByText := true, laidKinds := [.data, .data, .data], laidTests := true, laidLooks := .later }
def HexaIdsCardSaid : Prop := Claim7.holds Tryd.pinned (.plain (OpenSpec.ofChange hexaIdsSpec)) hexaIdsCard

/-- THE TIED CARD OF 'trestlelaw01.HexaNumbers'. -/
def hexaNumbersCard : Claim7 := { stood := { row := hexaNumbersRow, standIns := [], harness := (true, "f7aafc729ca0ddb01a459d4c16e5529ceb55340f0330c49551cd0a7b6cac230f"), looks := true }, kinds := [], alts := [], laidByText := true, laidKinds := [.data, .data, .data, .sentinel, .sentinel], laidTests := true, laidLooks := .later }
def HexaNumbersCardSaid : Prop := Claim7.holds Tryd.pinned (.plain (OpenSpec.ofChange hexaNumbersSpec)) hexaNumbersCard

/-- THE TIED CARD OF 'trestlelaw01.HexaBack'. -/
def hexaBackCard : Claim7 := { stood := { row := hexaBackRow, standIns := [], harness := (true, "f7aafc729ca0ddb01a459d4c16e5529ceb55340f0330c49551cd0a7b6cac230f"), looks := true }, kinds := [], alts := [], laidByText := true, laidKinds := [.data, .data, .data, .sentinel, .sentinel], laidTests := true, laidLooks := .later }
def HexaBackCardSaid : Prop := Claim7.holds Tryd.pinned (.plain (OpenSpec.ofChange hexaBackSpec)) hexaBackCard

/-- THE TIED CARD OF 'trestlelaw01.HexaBad'. -/
def hexaBadCard : Claim7 := { stood := { row := hexaBadRow, standIns := [], harness := (true, "f7aafc729ca0ddb01a459d4c16e5529ceb55340f0330c49551cd0a7b6cac230f"), looks := true }, kinds := [], alts := [], laidByText := true, laidKinds := [.data, .data, .data, .sentinel, .sentinel], laidTests := true, laidLooks := .later }
def HexaBadCardSaid : Prop := Claim7.holds Tryd.pinned (.plain (OpenSpec.ofChange hexaBadSpec)) hexaBadCard

/-- THE SECOND FORM's CARD OF 'trestlelaw01.HexaDigits'. -/
def hexaDigitsUptoCard : Claim7 := { stood := { row := hexaDigitsUptoRow, standIns := [], harness := (true, "f7aafc729ca0ddb01a459d4c16e5529ceb55340f0330c49551cd0a7b6cac230f"), looks := true }, kinds := [], alts := [], laidByText := true, laidKinds := [.data, .data, .data], laidTests := true, laidLooks := .later }
def HexaDigitsUptoCardSaid : Prop := Claim7.holds Tryd.pinned (.plain (OpenSpec.upto hexaDigitsSpec)) hexaDigitsUptoCard

/-- THE SECOND FORM's CARD OF 'trestlelaw01.HexaIds'. -/
def hexaIdsUptoCard : Claim7 := { stood := { row := hexaIdsUptoRow, standIns := [], harness := (true, "f7aafc729ca0ddb01a459d4c16e5529ceb55340f0330c49551cd0a7b6cac230f"), looks := true }, kinds := [], alts := [], laidByText := true, laidKinds := [.data, .data, .data], laidTests := true, laidLooks := .later }
def HexaIdsUptoCardSaid : Prop := Claim7.holds Tryd.pinned (.plain (OpenSpec.upto hexaIdsSpec)) hexaIdsUptoCard

/-- THE SECOND FORM's CARD OF 'trestlelaw01.HexaNumbers'. -/
def hexaNumbersUptoCard : Claim7 := { stood := { row := hexaNumbersUptoRow, standIns := [], harness := (true, "f7aafc729ca0ddb01a459d4c16e5529ceb55340f0330c49551cd0a7b6cac230f"), looks := true }, kinds := [], alts := [], laidByText := true, laidKinds := [.data, .data, .data, .sentinel, .sentinel], laidTests := true, laidLooks := .later }
def HexaNumbersUptoCardSaid : Prop := Claim7.holds Tryd.pinned (.plain (OpenSpec.upto hexaNumbersSpec)) hexaNumbersUptoCard

/-- THE SECOND FORM's CARD OF 'trestlelaw01.HexaBack'. -/
def hexaBackUptoCard : Claim7 := { stood := { row := hexaBackUptoRow, standIns := [], harness := (true, "f7aafc729ca0ddb01a459d4c16e5529ceb55340f0330c49551cd0a7b6cac230f"), looks := true }, kinds := [], alts := [], laidByText := true, laidKinds := [.data, .data, .data, .sentinel, .sentinel], laidTests := true, laidLooks := .later }
def HexaBackUptoCardSaid : Prop := Claim7.holds Tryd.pinned (.plain (OpenSpec.upto hexaBackSpec)) hexaBackUptoCard

/-- THE SECOND FORM's CARD OF 'trestlelaw01.HexaBad'. -/
def hexaBadUptoCard : Claim7 := { stood := { row := hexaBadUptoRow, standIns := [], harness := (true, "f7aafc729ca0ddb01a459d4c16e5529ceb55340f0330c49551cd0a7b6cac230f"), looks := true }, kinds := [], alts := [], laidByText := true, laidKinds := [.data, .data, .data, .sentinel, .sentinel], laidTests := true, laidLooks := .later }
def HexaBadUptoCardSaid : Prop := Claim7.holds Tryd.pinned (.plain (OpenSpec.upto hexaBadSpec)) hexaBadUptoCard
end Rows
end Go.Proofs.YtejoknkacpopeaaDoor

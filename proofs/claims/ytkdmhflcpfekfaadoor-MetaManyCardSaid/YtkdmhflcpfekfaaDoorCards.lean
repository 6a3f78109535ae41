/-
  DERIVED. GIVEN WITH THE SEED: THE CARDS: each row of YtkdmhflcpfekfaaDoorRows.lean that lists a variable, with what it lists TIED to the program's text (the seventh form; the later family's looks); each row that meets fmt, with fmt's text TOLD by the authors' own Lean function (tested against real Go, not proved from fmt's source: count such statements apart). THE CARD IS WHAT COUNTS. Prove the row's statement (the work); the ties are given (YtkdmhflcpfekfaaDoorTie.lean); close each card by the builder's one call (the guide's Derived/Test/ToyasCard.lean, 'card_holds'). Laid BY PROGRAM, IN A SANDBOX (cutbox-door.mjs). By AI agents, Wed Nov 11 2026. No macro, syntax, notation, axiom, sorry.
-/
import Derived.Test.YtkdmhflcpfekfaaDoorRows
import GoSem.ClaimSeven
namespace Go.Proofs.YtkdmhflcpfekfaaDoor
namespace Rows

/-- THE TIED CARD OF 'trestlelaw21.MetaPacks'. -/
def metaPacksCard : Claim7 := { stood := { row := metaPacksRow, standIns := [], harness := (true, "a737b8dd518f5e8b17838fe0e9b43286d17f8078059172972b63de2b6f0e97d8"), looks := false }, kinds := [], alts := [], laidByText := true, laidKinds := [.data, .data, .data, .pinned, .pinned], laidTests := true, laidLooks := .later }
def MetaPacksCardSaid : Prop := Claim7.holds Tryd.pinned (.plain (OpenSpec.ofChange metaPacksSpec)) metaPacksCard

/-- THE TIED CARD OF 'trestlelaw21.MetaBack'. -/
def metaBackCard : Claim7 := { stood := { row := metaBackRow, standIns := [], harness := (true, "a737b8dd518f5e8b17838fe0e9b43286d17f8078059172972b63de2b6f0e97d8"), looks := false }, kinds := [], alts := [], laidByText := true, laidKinds := [.data, .data, .data, .pinned, .pinned], laidTests := true, laidLooks := .later }
def MetaBackCardSaid : Prop := Claim7.holds Tryd.pinned (.plain (OpenSpec.ofChange metaBackSpec)) metaBackCard

/-- THE TIED CARD OF 'trestlelaw21.MetaEdges'. -/
def metaEdgesCard : Claim7 := { stood := { row := metaEdgesRow, standIns := [], harness := (true, "a737b8dd518f5e8b17838fe0e9b43286d17f8078059172972b63de2b6f0e97d8"), looks := false }, kinds := [], alts := [], laidByText := true, laidKinds := [.data, .data, .data, .pinned, .pinned], laidTests := true, laidLooks := .later }
def MetaEdgesCardSaid : Prop := Claim7.holds Tryd.pinned (.plain (OpenSpec.ofChange metaEdgesSpec)) metaEdgesCard

/-- THE TIED CARD OF 'trestlelaw21.MetaMany'. -/
def metaManyCard : Claim7 := { stood := { row := metaManyRow, standIns := [], harness := (true, "a737b8dd518f5e8b17838fe0e9b43286d17f8078059172972b63de2b6f0e97d8"), looks := false }, kinds := [], alts := [], laidByText := true, laidKinds := [.data, .data, .data, .pinned, .pinned], laidTests := true, laidLooks := .later }
def MetaManyCardSaid : Prop := Claim7.holds Tryd.pinned (.plain (OpenSpec.ofChange metaManySpec)) metaManyCard

/-- THE SECOND FORM's CARD OF 'trestlelaw21.MetaPacks'. -/
def metaPacksUptoCard : Claim7 := { stood := { row := metaPacksUptoRow, standIns := [], harness := (true, "a737b8dd518f5e8b17838fe0e9b43286d17f8078059172972b63de2b6f0e97d8"), looks := false }, kinds := [], alts := [], laidByText := true, laidKinds := [.data, .data, .data, .pinned, .pinned], laidTests := true, laidLooks := .later }
def MetaPacksUptoCardSaid : Prop := Claim7.holds Tryd.pinned (.plain (OpenSpec.upto metaPacksSpec)) metaPacksUptoCard

/-- THE SECOND FORM's CARD OF 'trestlelaw21.MetaBack'. -/
def metaBackUptoCard : Claim7 := { stood := { row := metaBackUptoRow, standIns := [], harness := (true, "a737b8dd518f5e8b17838fe0e9b43286d17f8078059172972b63de2b6f0e97d8"), looks := false }, kinds := [], alts := [], laidByText := true, laidKinds := [.data, .data, .data, .pinned, .pinned], laidTests := true, laidLooks := .later }
def MetaBackUptoCardSaid : Prop := Claim7.holds Tryd.pinned (.plain (OpenSpec.upto metaBackSpec)) metaBackUptoCard

/-- THE SECOND FORM's CARD OF 'trestlelaw21.MetaEdges'. -/
def metaEdgesUptoCard : Claim7 := { stood := { row := metaEdgesUptoRow, standIns := [], harness := (true, "a737b8dd518f5e8b17838fe0e9b43286d17f8078059172972b63de2b6f0e97d8"), looks := false }, kinds := [], alts := [], laidByText := true, laidKinds := [.data, .data, .data, .pinned, .pinned], laidTests := true, laidLooks := .later }
def MetaEdgesUptoCardSaid : Prop := Claim7.holds Tryd.pinned (.plain (OpenSpec.upto metaEdgesSpec)) metaEdgesUptoCard

/-- THE SECOND FORM's CARD OF 'trestlelaw21.MetaMany'. -/
def metaManyUptoCard : Claim7 := { stood := { row := metaManyUptoRow, standIns := [], harness := (true, "a737b8dd518f5e8b17838fe0e9b43286d17f8078059172972b63de2b6f0e97d8"), looks := false }, kinds := [], alts := [], laidByText := true, laidKinds := [.data, .data, .data, .pinned, .pinned], laidTests := true, laidLooks := .later }
def MetaManyUptoCardSaid : Prop := Claim7.holds Tryd.pinned (.plain (OpenSpec.upto metaManySpec)) metaManyUptoCard
end Rows
end Go.Proofs.YtkdmhflcpfekfaaDoor

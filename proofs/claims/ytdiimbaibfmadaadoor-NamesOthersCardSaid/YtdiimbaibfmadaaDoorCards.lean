/-
  DERIVED. GIVEN WITH THE SEED: THE CARDS: each row of YtdiimbaibfmadaaDoorRows.lean that lists a variable, with what it lists TIED to the program's text (the seventh form; the later family's looks); each row that meets fmt, with fmt's text TOLD by the authors' own Lean function (tested against real Go, not proved from fmt's source: count such statements apart). THE CARD IS WHAT COUNTS. Prove the row's statement (the work); the ties are given (YtdiimbaibfmadaaDoorTie.lean); close each card by the builder's one call (the guide's Derived/Test/ToyasCard.lean, 'card_holds'). Laid BY PROGRAM, IN A SANDBOX (cutbox-door.mjs). By AI agents, Wed Nov 11 2026. No macro, syntax, notation, axiom, sorry.
-/
import Derived.Test.YtdiimbaibfmadaaDoorRows
import GoSem.ClaimSeven
namespace Go.Proofs.YtdiimbaibfmadaaDoor
namespace Rows

/-- THE TIED CARD OF 'trestlelaw25.NamesApart'. -/
def namesApartCard : Claim7 := { stood := { row := namesApartRow, standIns := [], harness := (true, "a70b43cee799fce0161a8f62446ee1a3a02487b80e22df39bb8543e6448d2b74"), looks := false }, kinds := [], alts := [], laidByText := true, laidKinds := [.data, .pinned], laidTests := true, laidLooks := .later }
def NamesApartCardSaid : Prop := Claim7.holds Tryd.pinned (.plain (OpenSpec.ofChange namesApartSpec)) namesApartCard

/-- THE TIED CARD OF 'trestlelaw25.NamesTell'. -/
def namesTellCard : Claim7 := { stood := { row := namesTellRow, standIns := [], harness := (true, "a70b43cee799fce0161a8f62446ee1a3a02487b80e22df39bb8543e6448d2b74"), looks := false }, kinds := [], alts := [], laidByText := true, laidKinds := [.data, .pinned], laidTests := true, laidLooks := .later }
def NamesTellCardSaid : Prop := Claim7.holds Tryd.pinned (.plain (OpenSpec.ofChange namesTellSpec)) namesTellCard

/-- THE TIED CARD OF 'trestlelaw25.NamesBack'. -/
def namesBackCard : Claim7 := { stood := { row := namesBackRow, standIns := [], harness := (true, "a70b43cee799fce0161a8f62446ee1a3a02487b80e22df39bb8543e6448d2b74"), looks := false }, kinds := [], alts := [], laidByText := true, laidKinds := [.data, .pinned], laidTests := true, laidLooks := .later }
def NamesBackCardSaid : Prop := Claim7.holds Tryd.pinned (.plain (OpenSpec.ofChange namesBackSpec)) namesBackCard

/-- THE TIED CARD OF 'trestlelaw25.NamesOthers'. -/
def namesOthersCard : Claim7 := { stood := { row := namesOthersRow, standIns := [], harness := (true, "a70b43cee799fce0161a8f62446ee1a3a02487b80e22df39bb8543e6448d2b74"), looks := false }, kinds := [], alts := [], laidByText := true, laidKinds := [.data, .pinned], laidTests := true, laidLooks := .later }
def NamesOthersCardSaid : Prop := Claim7.holds Tryd.pinned (.plain (OpenSpec.ofChange namesOthersSpec)) namesOthersCard

/-- THE SECOND FORM's CARD OF 'trestlelaw25.NamesApart'. -/
def namesApartUptoCard : Claim7 := { stood := { row := namesApartUptoRow, standIns := [], harness := (true, "a70b43cee799fce0161a8f62446ee1a3a02487b80e22df39bb8543e6448d2b74"), looks := false }, kinds := [], alts := [], laidByText := true, laidKinds := [.data, .pinned], laidTests := true, laidLooks := .later }
def NamesApartUptoCardSaid : Prop := Claim7.holds Tryd.pinned (.plain (OpenSpec.upto namesApartSpec)) namesApartUptoCard

/-- THE SECOND FORM's CARD OF 'trestlelaw25.NamesTell'. -/
def namesTellUptoCard : Claim7 := { stood := { row := namesTellUptoRow, standIns := [], harness := (true, "a70b43cee799fce0161a8f62446ee1a3a02487b80e22df39bb8543e6448d2b74"), looks := false }, kinds := [], alts := [], laidByText := true, laidKinds := [.data, .pinned], laidTests := true, laidLooks := .later }
def NamesTellUptoCardSaid : Prop := Claim7.holds Tryd.pinned (.plain (OpenSpec.upto namesTellSpec)) namesTellUptoCard

/-- THE SECOND FORM's CARD OF 'trestlelaw25.NamesBack'. -/
def namesBackUptoCard : Claim7 := { stood := { row := namesBackUptoRow, standIns := [], harness := (true, "a70b43cee799fce0161a8f62446ee1a3a02487b80e22df39bb8543e6448d2b74"), looks := false }, kinds := [], alts := [], laidByText := true, laidKinds := [.data, .pinned], laidTests := true, laidLooks := .later }
def NamesBackUptoCardSaid : Prop := Claim7.holds Tryd.pinned (.plain (OpenSpec.upto namesBackSpec)) namesBackUptoCard

/-- THE SECOND FORM's CARD OF 'trestlelaw25.NamesOthers'. -/
def namesOthersUptoCard : Claim7 := { stood := { row := namesOthersUptoRow, standIns := [], harness := (true, "a70b43cee799fce0161a8f62446ee1a3a02487b80e22df39bb8543e6448d2b74"), looks := false }, kinds := [], alts := [], laidByText := true, laidKinds := [.data, .pinned], laidTests := true, laidLooks := .later }
def NamesOthersUptoCardSaid : Prop := Claim7.holds Tryd.pinned (.plain (OpenSpec.upto namesOthersSpec)) namesOthersUptoCard
end Rows
end Go.Proofs.YtdiimbaibfmadaaDoor

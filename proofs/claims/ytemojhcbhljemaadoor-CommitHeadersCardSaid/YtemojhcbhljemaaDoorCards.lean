/-
  DERIVED. GIVEN WITH THE SEED: THE CARDS: each row of YtemojhcbhljemaaDoorRows.lean that lists a variable, with what it lists TIED to the program's text (the seventh form; the later family's looks); each row that meets fmt, with fmt's text TOLD by the authors' own Lean function (tested against real Go, not proved from fmt's source: count such statements apart). THE CARD IS WHAT COUNTS. Prove the row's statement (the work); the ties are given (YtemojhcbhljemaaDoorTie.lean); close each card by the builder's one call (the guide's Derived/Test/ToyasCard.lean, 'card_holds'). Laid BY PROGRAM, IN A SANDBOX (cutbox-door.mjs). By AI agents, Wed Nov 11 2026. No macro, syntax, notation, axiom, sorry.
-/
import Derived.Test.YtemojhcbhljemaaDoorRows
import GoSem.ClaimSeven
namespace Go.Proofs.YtemojhcbhljemaaDoor
namespace Rows

/-- THE TIED CARD OF 'trestlelaw09.CommitParents'. -/
def commitParentsCard : Claim7 := { stood := { row := commitParentsRow, standIns := [], harness := (true, "53f532e28a5d566ba9b7974dc437dd51b04562145fb1bb69d60ab518ba92b5ab"), looks := true }, kinds := [], alts := [], laidByText := true, laidKinds := [.data, .data, .data, .data, .pinned], laidTests := true, laidLooks := .later }
def CommitParentsCardSaid : Prop := Claim7.holds Tryd.pinned (.plain (OpenSpec.ofChange commitParentsSpec)) commitParentsCard

/-- THE TIED CARD OF 'trestlelaw09.CommitBack'. -/
def commitBackCard : Claim7 := { stood := { row := commitBackRow, standIns := [], harness := (true, "53f532e28a5d566ba9b7974dc437dd51b04562145fb1bb69d60ab518ba92b5ab"), looks := true }, kinds := [], alts := [], laidByText := true, laidKinds := [.data, .data, .data, .data, .sentinel, .sentinel, .pinned], laidTests := true, laidLooks := .later }
def CommitBackCardSaid : Prop := Claim7.holds Tryd.pinned (.plain (OpenSpec.ofChange commitBackSpec)) commitBackCard

/-- THE TIED CARD OF 'trestlelaw09.CommitHeaders'. -/
def commitHeadersCard : Claim7 := { stood := { row := commitHeadersRow, standIns := [], harness := (true, "53f532e28a5d566ba9b7974dc437dd51b04562145fb1bb69d60ab518ba92b5ab"), looks := true }, kinds := [], alts := [], laidByText := true, laidKinds := [.data, .data, .data, .data, .sentinel, .sentinel, .pinned], laidTests := true, laidLooks := .later }
def CommitHeadersCardSaid : Prop := Claim7.holds Tryd.pinned (.plain (OpenSpec.ofChange commitHeadersSpec)) commitHeadersCard

/-- THE SECOND FORM's CARD OF 'trestlelaw09.CommitParents'. -/
def commitParentsUptoCard : Claim7 := { stood := { row := commitParentsUptoRow, standIns := [], harness := (true, "53f532e28a5d566ba9b7974dc437dd51b04562145fb1bb69d60ab518ba92b5ab"), looks := true }, kinds := [], alts := [], laidByText := true, laidKinds := [.data, .data, .data, .data, .pinned], laidTests := true, laidLooks := .later }
def CommitParentsUptoCardSaid : Prop := Claim7.holds Tryd.pinned (.plain (OpenSpec.upto commitParentsSpec)) commitParentsUptoCard

/-- THE SECOND FORM's CARD OF 'trestlelaw09.CommitBack'. -/
def commitBackUptoCard : Claim7 := { stood := { row := commitBackUptoRow, standIns := [], harness := (true, "53f532e28a5d566ba9b7974dc437dd51b04562145fb1bb69d60ab518ba92b5ab"), looks := true }, kinds := [], alts := [], laidByText := true, laidKinds := [.data, .data, .data, .data, .sentinel, .sentinel, .pinned], laidTests := true, laidLooks := .later }
def CommitBackUptoCardSaid : Prop := Claim7.holds Tryd.pinned (.plain (OpenSpec.upto commitBackSpec)) commitBackUptoCard

/-- THE SECOND FORM's CARD OF 'trestlelaw09.CommitHeaders'. -/
def commitHeadersUptoCard : Claim7 := { stood := { row := commitHeadersUptoRow, standIns := [], harness := (true, "53f532e28a5d566ba9b7974dc437dd51b04562145fb1bb69d60ab518ba92b5ab"), looks := true }, kinds := [], alts := [], laidByText := true, laidKinds := [.data, .data, .data, .data, .sentinel, .sentinel, .pinned], laidTests := true, laidLooks := .later }
def CommitHeadersUptoCardSaid : Prop := Claim7.holds Tryd.pinned (.plain (OpenSpec.upto commitHeadersSpec)) commitHeadersUptoCard
end Rows
end Go.Proofs.YtemojhcbhljemaaDoor

/-
  DERIVED. GIVEN WITH THE SEED: THE CARDS: each row of YtbdcncojiejdoaaDoorRows.lean that lists a variable, with what it lists TIED to the program's text (the seventh form; the later family's looks); each row that meets fmt, with fmt's text TOLD by the authors' own Lean function (tested against real Go, not proved from fmt's source: count such statements apart). THE CARD IS WHAT COUNTS. Prove the row's statement (the work); the ties are given (YtbdcncojiejdoaaDoorTie.lean); close each card by the builder's one call (the guide's Derived/Test/ToyasCard.lean, 'card_holds'). Laid BY PROGRAM, IN A SANDBOX (cutbox-door.mjs). By AI agents, Wed Nov 11 2026. No macro, syntax, notation, axiom, sorry.
-/
import Derived.Test.YtbdcncojiejdoaaDoorRows
import GoSem.ClaimSeven
namespace Go.Proofs.YtbdcncojiejdoaaDoor
namespace Rows

/-- THE TIED CARD OF 'trestlelaw03.QuotePaths'. -/
def quotePathsCard : Claim7 := { stood := { row := quotePathsRow, standIns := [], harness := (true, "7192d3ef82f1cf981f964baf6c0361b19cb79ed3c1b1b4acdf095d6aac317dcf"), looks := false }, kinds := [], alts := [], laidByText := true, laidKinds := [.data, .data, .data, .pinned, .pinned], laidTests := true, laidLooks := .later }
def QuotePathsCardSaid : Prop := Claim7.holds Tryd.pinned (.plain (OpenSpec.ofChange quotePathsSpec)) quotePathsCard

/-- THE TIED CARD OF 'trestlelaw03.QuoteParts'. -/
def quotePartsCard : Claim7 := { stood := { row := quotePartsRow, standIns := [], harness := (true, "7192d3ef82f1cf981f964baf6c0361b19cb79ed3c1b1b4acdf095d6aac317dcf"), looks := false }, kinds := [], alts := [], laidByText := true, laidKinds := [.data, .data, .data, .pinned, .pinned], laidTests := true, laidLooks := .later }
def QuotePartsCardSaid : Prop := Claim7.holds Tryd.pinned (.plain (OpenSpec.ofChange quotePartsSpec)) quotePartsCard

/-- THE TIED CARD OF 'trestlelaw03.QuotePlain'. -/
def quotePlainCard : Claim7 := { stood := { row := quotePlainRow, standIns := [], harness := (true, "7192d3ef82f1cf981f964baf6c0361b19cb79ed3c1b1b4acdf095d6aac317dcf"), looks := false }, kinds := [], alts := [], laidByText := true, laidKinds := [.data, .data, .data, .pinned, .pinned], laidTests := true, laidLooks := .later }
def QuotePlainCardSaid : Prop := Claim7.holds Tryd.pinned (.plain (OpenSpec.ofChange quotePlainSpec)) quotePlainCard

/-- THE TIED CARD OF 'trestlelaw03.QuoteQuotes'. -/
def quoteQuotesCard : Claim7 := { stood := { row := quoteQuotesRow, standIns := [], harness := (true, "7192d3ef82f1cf981f964baf6c0361b19cb79ed3c1b1b4acdf095d6aac317dcf"), looks := false }, kinds := [], alts := [], laidByText := true, laidKinds := [.data, .data, .data, .pinned, .pinned], laidTests := true, laidLooks := .later }
def QuoteQuotesCardSaid : Prop := Claim7.holds Tryd.pinned (.plain (OpenSpec.ofChange quoteQuotesSpec)) quoteQuotesCard

/-- THE TIED CARD OF 'trestlelaw03.QuoteBack'. -/
def quoteBackCard : Claim7 := { stood := { row := quoteBackRow, standIns := [], harness := (true, "7192d3ef82f1cf981f964baf6c0361b19cb79ed3c1b1b4acdf095d6aac317dcf"), looks := false }, kinds := [], alts := [], laidByText := true, laidKinds := [.data, .data, .data, .pinned, .pinned], laidTests := true, laidLooks := .later }
def QuoteBackCardSaid : Prop := Claim7.holds Tryd.pinned (.plain (OpenSpec.ofChange quoteBackSpec)) quoteBackCard

/-- THE SECOND FORM's CARD OF 'trestlelaw03.QuotePaths'. -/
def quotePathsUptoCard : Claim7 := { stood := { row := quotePathsUptoRow, standIns := [], harness := (true, "7192d3ef82f1cf981f964baf6c0361b19cb79ed3c1b1b4acdf095d6aac317dcf"), looks := false }, kinds := [], alts := [], laidByText := true, laidKinds := [.data, .data, .data, .pinned, .pinned], laidTests := true, laidLooks := .later }
def QuotePathsUptoCardSaid : Prop := Claim7.holds Tryd.pinned (.plain (OpenSpec.upto quotePathsSpec)) quotePathsUptoCard

/-- THE SECOND FORM's CARD OF 'trestlelaw03.QuoteParts'. -/
def quotePartsUptoCard : Claim7 := { stood := { row := quotePartsUptoRow, standIns := [], harness := (true, "7192d3ef82f1cf981f964baf6c0361b19cb79ed3c1b1b4acdf095d6aac317dcf"), looks := false }, kinds := [], alts := [], laidByText := true, laidKinds := [.data, .data, .data, .pinned, .pinned], laidTests := true, laidLooks := .later }
def QuotePartsUptoCardSaid : Prop := Claim7.holds Tryd.pinned (.plain (OpenSpec.upto quotePartsSpec)) quotePartsUptoCard

/-- THE SECOND FORM's CARD OF 'trestlelaw03.QuotePlain'. -/
def quotePlainUptoCard : Claim7 := { stood := { row := quotePlainUptoRow, standIns := [], harness := (true, "7192d3ef82f1cf981f964baf6c0361b19cb79ed3c1b1b4acdf095d6aac317dcf"), looks := false }, kinds := [], alts := [], laidByText := true, laidKinds := [.data, .data, .data, .pinned, .pinned], laidTests := true, laidLooks := .later }
def QuotePlainUptoCardSaid : Prop := Claim7.holds Tryd.pinned (.plain (OpenSpec.upto quotePlainSpec)) quotePlainUptoCard

/-- THE SECOND FORM's CARD OF 'trestlelaw03.QuoteQuotes'. -/
def quoteQuotesUptoCard : Claim7 := { stood := { row := quoteQuotesUptoRow, standIns := [], harness := (true, "7192d3ef82f1cf981f964baf6c0361b19cb79ed3c1b1b4acdf095d6aac317dcf"), looks := false }, kinds := [], alts := [], laidByText := true, laidKinds := [.data, .data, .data, .pinned, .pinned], laidTests := true, laidLooks := .later }
def QuoteQuotesUptoCardSaid : Prop := Claim7.holds Tryd.pinned (.plain (OpenSpec.upto quoteQuotesSpec)) quoteQuotesUptoCard

/-- THE SECOND FORM's CARD OF 'trestlelaw03.QuoteBack'. -/
def quoteBackUptoCard : Claim7 := { stood := { row := quoteBackUptoRow, standIns := [], harness := (true, "7192d3ef82f1cf981f964baf6c0361b19cb79ed3c1b1b4acdf095d6aac317dcf"), looks := false }, kinds := [], alts := [], laidByText := true, laidKinds := [.data, .data, .data, .pinned, .pinned], laidTests := true, laidLooks := .later }
def QuoteBackUptoCardSaid : Prop := Claim7.holds Tryd.pinned (.plain (OpenSpec.upto quoteBackSpec)) quoteBackUptoCard
end Rows
end Go.Proofs.YtbdcncojiejdoaaDoor

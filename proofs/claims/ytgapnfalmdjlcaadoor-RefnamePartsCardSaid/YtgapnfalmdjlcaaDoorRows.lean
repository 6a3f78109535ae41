/-
  NARROWER THAN 'FOR EVERY INPUT', by the rows' own cells (each row's printed sentence says how): RefnameTells: laid · RefnameParts: laid · RefnameLong: laid · RefnameBranches: laid.
  DERIVED. THE GIVEN ROWS OF THIS SEAT. 4 by the template 'for every input the law returns true; each argument reads behind the call as it read before'; 0 by the template 'total and deterministic' (their statements: YtgapnfalmdjlcaaDoorTotals.lean).
  GIVEN WITH THE SEED: the statements are not yours to turn. If you find one false, say at which input.
  Laid BY PROGRAM, IN A SANDBOX (cutbox-rows.mjs): the forced cells as the released guide's own fill.sh prints them over the translation 45bae121ce147ffe… (all of the seat's roots in one cut). By AI agents, Wed Nov 11 2026. No macro, syntax, notation, axiom, sorry.
-/
import Derived.Test.YtgapnfalmdjlcaaDoorChecked
import GoSem.PinnedTables
import GoSem.Claim
import GoSem.ClaimJoined
import GoSem.ClaimMapViews
import Derived.JoinedTies
import Derived.KernelRfl
namespace Go.Proofs.YtgapnfalmdjlcaaDoor
/- THE CELL 'sum', in the pinned program and in every row, IS THE sha256 OF THE DUMP (.gsa) THAT YtgapnfalmdjlcaaDoorProg.lean LOADS. Nothing in Lean hashes anything: it is a label: what it is worth is what the hold of that sum in a sandbox is worth. -/
noncomputable def Tryd.pinned : Pinned := { name := "ytgapnfalmdjlcaadoor", sum := "45bae121ce147ffedbfd029f69ded69b3ec916395c2e921a4cac2af316f5e433", checked := Tryd.checked }
namespace Rows
def none {H : Type} : Left H := { results := [], args := [] }

/- WHAT THE LISTED PACKAGE-LEVEL VARIABLES READ AS WHEN THE CALL BEGINS. Each datum BY PROGRAM (the guide's laid-datum.mjs) off the statement by which the dump's own 'gosem.cut.vars' lays the variable. In a bare row this is a premise. The card (YtgapnfalmdjlcaaDoorCards.lean) ties it to the program's text. -/
def laid_unicode_utf8_acceptRanges {H : Type} : DataW H := .agg [.agg [.lit (.int .u8 128), .lit (.int .u8 191)], .agg [.lit (.int .u8 160), .lit (.int .u8 191)], .agg [.lit (.int .u8 128), .lit (.int .u8 159)], .agg [.lit (.int .u8 144), .lit (.int .u8 191)], .agg [.lit (.int .u8 128), .lit (.int .u8 143)], .agg [.lit (.int .u8 0), .lit (.int .u8 0)], .agg [.lit (.int .u8 0), .lit (.int .u8 0)], .agg [.lit (.int .u8 0), .lit (.int .u8 0)], .agg [.lit (.int .u8 0), .lit (.int .u8 0)], .agg [.lit (.int .u8 0), .lit (.int .u8 0)], .agg [.lit (.int .u8 0), .lit (.int .u8 0)], .agg [.lit (.int .u8 0), .lit (.int .u8 0)], .agg [.lit (.int .u8 0), .lit (.int .u8 0)], .agg [.lit (.int .u8 0), .lit (.int .u8 0)], .agg [.lit (.int .u8 0), .lit (.int .u8 0)], .agg [.lit (.int .u8 0), .lit (.int .u8 0)]]
/-- One of Go's own tables, pinned by name: the form's constant. -/
def laid_unicode_utf8_first : DataW Unit := Go.Pinned.utf8First

/-- 'trestlelaw11.RefnameTells': WHATEVER THE INPUT: true; the input reads as it did. -/
def refnameTellsSpec : ChangeSpec := { name := "refnameTells", fn := fun _ => fun
  | [d] => { results := [.lit (.bool true)], args := [d] }
  | _ => none }
def refnameTellsRow : OpenClaim := { program := "ytgapnfalmdjlcaadoor", sum := "45bae121ce147ffedbfd029f69ded69b3ec916395c2e921a4cac2af316f5e433", func := "trestle/trestlelaw11.RefnameTells", spec := "refnameTells", inPlace := ["internal/bytealg.IndexByteString", "internal/bytealg.IndexString", "internal/bytealg.CountString"], named := ["unicode/utf8.first", "unicode/utf8.acceptRanges", "internal/bytealg.MaxLen"], apart := false, laid := [("unicode/utf8.acceptRanges", laid_unicode_utf8_acceptRanges), ("unicode/utf8.first", laid_unicode_utf8_first)] }
def RefnameTellsSaid : Prop := refnameTellsRow.holds Tryd.pinned (OpenSpec.ofChange refnameTellsSpec)

/-- ITS FALSE NEIGHBOUR: 'it returns false'. Refute it at one input. -/
def refnameTellsWrong : ChangeSpec := { name := "refnameTells", fn := fun _ => fun
  | [d] => { results := [.lit (.bool false)], args := [d] }
  | _ => none }
def RefnameTellsWrongFalsely : Prop := refnameTellsRow.holds Tryd.pinned (OpenSpec.ofChange refnameTellsWrong)

/-- 'trestlelaw11.RefnameParts': WHATEVER THE INPUT: true; the input reads as it did. -/
def refnamePartsSpec : ChangeSpec := { name := "refnameParts", fn := fun _ => fun
  | [d1, d2] => { results := [.lit (.bool true)], args := [d1, d2] }
  | _ => none }
def refnamePartsRow : OpenClaim := { program := "ytgapnfalmdjlcaadoor", sum := "45bae121ce147ffedbfd029f69ded69b3ec916395c2e921a4cac2af316f5e433", func := "trestle/trestlelaw11.RefnameParts", spec := "refnameParts", inPlace := ["internal/bytealg.IndexByteString", "internal/bytealg.IndexString", "internal/bytealg.CountString"], named := ["unicode/utf8.first", "unicode/utf8.acceptRanges", "internal/bytealg.MaxLen"], apart := false, laid := [("unicode/utf8.acceptRanges", laid_unicode_utf8_acceptRanges), ("unicode/utf8.first", laid_unicode_utf8_first)] }
def RefnamePartsSaid : Prop := refnamePartsRow.holds Tryd.pinned (OpenSpec.ofChange refnamePartsSpec)

/-- ITS FALSE NEIGHBOUR: 'it returns false'. Refute it at one input. -/
def refnamePartsWrong : ChangeSpec := { name := "refnameParts", fn := fun _ => fun
  | [d1, d2] => { results := [.lit (.bool false)], args := [d1, d2] }
  | _ => none }
def RefnamePartsWrongFalsely : Prop := refnamePartsRow.holds Tryd.pinned (OpenSpec.ofChange refnamePartsWrong)

/-- 'trestlelaw11.RefnameLong': WHATEVER THE INPUT: true; the input reads as it did. -/
def refnameLongSpec : ChangeSpec := { name := "refnameLong", fn := fun _ => fun
  | [d] => { results := [.lit (.bool true)], args := [d] }
  | _ => none }
def refnameLongRow : OpenClaim := { program := "ytgapnfalmdjlcaadoor", sum := "45bae121ce147ffedbfd029f69ded69b3ec916395c2e921a4cac2af316f5e433", func := "trestle/trestlelaw11.RefnameLong", spec := "refnameLong", inPlace := ["internal/bytealg.IndexByteString", "internal/bytealg.IndexString", "internal/bytealg.CountString"], named := ["unicode/utf8.first", "unicode/utf8.acceptRanges", "internal/bytealg.MaxLen"], apart := false, laid := [("unicode/utf8.acceptRanges", laid_unicode_utf8_acceptRanges), ("unicode/utf8.first", laid_unicode_utf8_first)] }
def RefnameLongSaid : Prop := refnameLongRow.holds Tryd.pinned (OpenSpec.ofChange refnameLongSpec)

/-- ITS FALSE NEIGHBOUR: 'it returns false'. Refute it at one input. -/
def refnameLongWrong : ChangeSpec := { name := "refnameLong", fn := fun _ => fun
  | [d] => { results := [.lit (.bool false)], args := [d] }
  | _ => none }
def RefnameLongWrongFalsely : Prop := refnameLongRow.holds Tryd.pinned (OpenSpec.ofChange refnameLongWrong)

/-- 'trestlelaw11.RefnameBranches': WHATEVER THE INPUT: true; the input reads as it did. -/
def refnameBranchesSpec : ChangeSpec := { name := "refnameBranches", fn := fun _ => fun
  | [d1, d2] => { results := [.lit (.bool true)], args := [d1, d2] }
  | _ => none }
def refnameBranchesRow : OpenClaim := { program := "ytgapnfalmdjlcaadoor", sum := "45bae121ce147ffedbfd029f69ded69b3ec916395c2e921a4cac2af316f5e433", func := "trestle/trestlelaw11.RefnameBranches", spec := "refnameBranches", inPlace := ["internal/bytealg.IndexByteString", "internal/bytealg.IndexString", "internal/bytealg.CountString"], named := ["unicode/utf8.first", "unicode/utf8.acceptRanges", "internal/bytealg.MaxLen"], apart := false, laid := [("unicode/utf8.acceptRanges", laid_unicode_utf8_acceptRanges), ("unicode/utf8.first", laid_unicode_utf8_first)] }
def RefnameBranchesSaid : Prop := refnameBranchesRow.holds Tryd.pinned (OpenSpec.ofChange refnameBranchesSpec)

/-- ITS FALSE NEIGHBOUR: 'it returns false'. Refute it at one input. -/
def refnameBranchesWrong : ChangeSpec := { name := "refnameBranches", fn := fun _ => fun
  | [d1, d2] => { results := [.lit (.bool false)], args := [d1, d2] }
  | _ => none }
def RefnameBranchesWrongFalsely : Prop := refnameBranchesRow.holds Tryd.pinned (OpenSpec.ofChange refnameBranchesWrong)

/- THE SECOND FORM. 'bulk': how many values and letters a reading holds, each counted each time it is reached (what is shared counts as often as it is met; a slice's spare places count too). A statement '..UptoSaid' is the law's where the arguments, and the package variables that the reading takes, are together of bulk at most 1048576: NARROWER than '..Said'. Prove '..Said' where nothing that the law and all that it calls make is longer than what came in: it says more and counts as full. Else prove '..UptoSaid'. A law counts once. -/
mutual
def uptoBulk {H : Type} : DataW H → Nat
  | .lit (.string bytes) => bytes.length + 1
  | .lit _ => 1
  | .nil => 1
  | .ptr d => uptoBulk d + 1
  | .slice elems spare => uptoBulkAll elems + uptoBulkAll spare + 1
  | .agg parts => uptoBulkAll parts + 1
  | .iface _ d => uptoBulk d + 1
  | .map entries => uptoBulkEntries entries + 1
  | .held _ => 1
def uptoBulkAll {H : Type} : List (DataW H) → Nat
  | [] => 0
  | d :: r => uptoBulk d + uptoBulkAll r
def uptoBulkEntries {H : Type} : List (Lit × DataW H) → Nat
  | [] => 0
  | x :: r => uptoBulkEntry x + uptoBulkEntries r
def uptoBulkEntry {H : Type} : Lit × DataW H → Nat
  | (.string bytes, d) => bytes.length + uptoBulk d + 1
  | (_, d) => uptoBulk d + 1
 end
def uptoSmall : (H : Type) → List (DataW H) → Bool := fun _ ds => decide (uptoBulkAll ds ≤ 1048576)
def OpenSpec.upto (s : _root_.Go.ChangeSpec) : _root_.Go.OpenSpec := { _root_.Go.OpenSpec.ofChange s with cond := some uptoSmall }

/-- 'trestlelaw11.RefnameTells', WHERE WHAT IT READS IS OF BULK AT MOST 1048576: true; the input reads as it did. -/
def refnameTellsUptoRow : OpenClaim := { program := "ytgapnfalmdjlcaadoor", sum := "45bae121ce147ffedbfd029f69ded69b3ec916395c2e921a4cac2af316f5e433", func := "trestle/trestlelaw11.RefnameTells", spec := "refnameTells", inPlace := ["internal/bytealg.IndexByteString", "internal/bytealg.IndexString", "internal/bytealg.CountString"], named := ["unicode/utf8.first", "unicode/utf8.acceptRanges", "internal/bytealg.MaxLen"], apart := false, laid := [("unicode/utf8.acceptRanges", laid_unicode_utf8_acceptRanges), ("unicode/utf8.first", laid_unicode_utf8_first)], narrowed := true }
def RefnameTellsUptoSaid : Prop := refnameTellsUptoRow.holds Tryd.pinned (OpenSpec.upto refnameTellsSpec)

/-- 'trestlelaw11.RefnameParts', WHERE WHAT IT READS IS OF BULK AT MOST 1048576: true; the input reads as it did. -/
def refnamePartsUptoRow : OpenClaim := { program := "ytgapnfalmdjlcaadoor", sum := "45bae121ce147ffedbfd029f69ded69b3ec916395c2e921a4cac2af316f5e433", func := "trestle/trestlelaw11.RefnameParts", spec := "refnameParts", inPlace := ["internal/bytealg.IndexByteString", "internal/bytealg.IndexString", "internal/bytealg.CountString"], named := ["unicode/utf8.first", "unicode/utf8.acceptRanges", "internal/bytealg.MaxLen"], apart := false, laid := [("unicode/utf8.acceptRanges", laid_unicode_utf8_acceptRanges), ("unicode/utf8.first", laid_unicode_utf8_first)], narrowed := true }
def RefnamePartsUptoSaid : Prop := refnamePartsUptoRow.holds Tryd.pinned (OpenSpec.upto refnamePartsSpec)

/-- 'trestlelaw11.RefnameLong', WHERE WHAT IT READS IS OF BULK AT MOST 1048576: true; the input reads as it did. -/
def refnameLongUptoRow : OpenClaim := { program := "ytgapnfalmdjlcaadoor", sum := "45bae121ce147ffedbfd029f69ded69b3ec916395c2e921a4cac2af316f5e433", func := "trestle/trestlelaw11.RefnameLong", spec := "refnameLong", inPlace := ["internal/bytealg.IndexByteString", "internal/bytealg.IndexString", "internal/bytealg.CountString"], named := ["unicode/utf8.first", "unicode/utf8.acceptRanges", "internal/bytealg.MaxLen"], apart := false, laid := [("unicode/utf8.acceptRanges", laid_unicode_utf8_acceptRanges), ("unicode/utf8.first", laid_unicode_utf8_first)], narrowed := true }
def RefnameLongUptoSaid : Prop := refnameLongUptoRow.holds Tryd.pinned (OpenSpec.upto refnameLongSpec)

/-- 'trestlelaw11.RefnameBranches', WHERE WHAT IT READS IS OF BULK AT MOST 1048576: true; the input reads as it did. -/
def refnameBranchesUptoRow : OpenClaim := { program := "ytgapnfalmdjlcaadoor", sum := "45bae121ce147ffedbfd029f69ded69b3ec916395c2e921a4cac2af316f5e433", func := "trestle/trestlelaw11.RefnameBranches", spec := "refnameBranches", inPlace := ["internal/bytealg.IndexByteString", "internal/bytealg.IndexString", "internal/bytealg.CountString"], named := ["unicode/utf8.first", "unicode/utf8.acceptRanges", "internal/bytealg.MaxLen"], apart := false, laid := [("unicode/utf8.acceptRanges", laid_unicode_utf8_acceptRanges), ("unicode/utf8.first", laid_unicode_utf8_first)], narrowed := true }
def RefnameBranchesUptoSaid : Prop := refnameBranchesUptoRow.holds Tryd.pinned (OpenSpec.upto refnameBranchesSpec)

end Rows
end Go.Proofs.YtgapnfalmdjlcaaDoor

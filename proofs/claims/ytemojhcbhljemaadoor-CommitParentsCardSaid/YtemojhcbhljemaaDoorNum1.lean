/- hexa.Number gives the digits of 10 of any number. Conditions: the library's table of powers of ten is laid. -/
import Derived.Test.YtemojhcbhljemaaDoorWords2
import Derived.Test.YtemojhcbhljemaaDoorShelf
namespace Go.Proofs.YtemojhcbhljemaaDoor
set_option linter.unusedVariables false
set_option linter.unusedSimpArgs false
open Go.RowKit

/-- The library's table of powers of ten is as its text lays it. -/
def TabOk (w : World) : Prop := Lib.TabIs Tryd.prog w "internal/strconv.uint64pow10" .u64 Lib.pow10Tab
theorem TabOk.grew {w w' : World} (h : TabOk w) (hb : Grew w w') : TabOk w' := var_grew hb h

set_option maxRecDepth 100000 in
theorem hexa_Number (v : Int) (w : World) (h0 : -9223372036854775808 ≤ v) (h1 : v ≤ 9223372036854775807) (ht : TabOk w) :
    Calls Tryd.prog 31 #[.int .i64 v] w fun e w' => e = .returned (.string ⟨(Lib.itoa v).toArray⟩) ∧ Grew w w' := by
  have H0 := Lib.hid h0
  have H1 := Lib.hid h1
  clear h0 h1
  go_enter Tryd.func31, Tryd.ntmps31
  go_wp2_with (go_at_call 45; refine (Tryd.strconv_FormatInt_10 v H0.out H1.out _ ht).mono ?_)
  rintro e w1 ⟨rfl, k, os, rfl⟩
  go_wp2
  go_ret
  exact ⟨rfl, Lib.below_grow _ _ (Nat.le_refl _) _ _⟩

end Go.Proofs.YtemojhcbhljemaaDoor

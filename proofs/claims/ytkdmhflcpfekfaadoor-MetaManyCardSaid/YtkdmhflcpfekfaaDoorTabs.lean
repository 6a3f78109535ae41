/- What the walks of this seat ask of the library's variables (the longest needle of a search, the tables of the decoder), and that calls keep it. No function of the program. -/
import Derived.Test.YtkdmhflcpfekfaaDoorM1
import Derived.Test.YtkdmhflcpfekfaaDoorShelf
namespace Go.Proofs.YtkdmhflcpfekfaaDoor
set_option linter.unusedVariables false
set_option linter.unusedSimpArgs false
open Go.RowKit

/-- A cell of a number, whatever number. -/
def IntAt (g : Nat) (w : World) : Prop := ∃ m, w.cell? ⟨g, 0, none⟩ = some (.int .i64 m)
theorem IntAt.grew {g : Nat} {w w' : World} (h : IntAt g w) (hb : Grew w w') : IntAt g w' := by
  obtain ⟨m, hm⟩ := h
  exact ⟨m, cell_grew hm hb⟩
/-- The length of the longest needle that the search takes at once: some number. -/
abbrev MaxOk (w : World) : Prop := IntAt 0 w
/-- The decoder's tables stand as their texts lay them. -/
abbrev U8Ok (w : World) : Prop := Lib.Utf8Tabs 1 2 w
theorem u8_grew {w w' : World} (h : U8Ok w) (hb : Grew w w') : U8Ok w' :=
  ⟨fun c hc => cell_grew (h.1 c hc) hb, fun i hi => ⟨cell_grew (h.2 i hi).1 hb, cell_grew (h.2 i hi).2 hb⟩⟩

end Go.Proofs.YtkdmhflcpfekfaaDoor

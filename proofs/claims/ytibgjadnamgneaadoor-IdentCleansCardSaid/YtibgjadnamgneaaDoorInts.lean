/- Words for slices of whole numbers in memory. No function of the program. -/
import Derived.Test.YtibgjadnamgneaaDoorWords2
namespace Go.Proofs.YtibgjadnamgneaaDoor
set_option linter.unusedVariables false
set_option linter.unusedSimpArgs false
open Go.RowKit

/-- The whole numbers zs lie at p. -/
def RdZ (w : World) (p : Option Addr) (zs : List Int) : Prop :=
  zs = [] ∨ ∃ b o, p = some ⟨b, o, none⟩ ∧ b < w.heap.size ∧ ∀ i, i < zs.length → w.cell? ⟨b, o + i, none⟩ = some (.int .i64 (zs.getD i 0))
theorem RdZ.below {w w' : World} {p : Option Addr} {l : List Int} (h : RdZ w p l) (hb : Grew w w') : RdZ w' p l := by
  rcases h with h | ⟨b, o, rfl, hlt, hc⟩
  · exact .inl h
  · exact .inr ⟨b, o, rfl, Nat.lt_of_lt_of_le hlt hb.size, fun i hi => (hb.cell (p := ⟨b, o + i, none⟩) hlt).trans (hc i hi)⟩

end Go.Proofs.YtibgjadnamgneaaDoor

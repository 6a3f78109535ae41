/- Words for slices of Booleans in memory. No function of the program. -/
import Derived.Test.YtpgcjljaokopaaaDoorWords2
namespace Go.Proofs.YtpgcjljaokopaaaDoor
set_option linter.unusedVariables false
set_option linter.unusedSimpArgs false
open Go.RowKit

/-- The Booleans bs lie at p. -/
def RdF (w : World) (p : Option Addr) (bs : List Bool) : Prop :=
  bs = [] ∨ ∃ b o, p = some ⟨b, o, none⟩ ∧ b < w.heap.size ∧ ∀ i, i < bs.length → w.cell? ⟨b, o + i, none⟩ = some (.bool (bs.getD i false))
theorem RdF.below {w w' : World} {p : Option Addr} {l : List Bool} (h : RdF w p l) (hb : Grew w w') : RdF w' p l := by
  rcases h with h | ⟨b, o, rfl, hlt, hc⟩
  · exact .inl h
  · exact .inr ⟨b, o, rfl, Nat.lt_of_lt_of_le hlt hb.size, fun i hi => (hb.cell (p := ⟨b, o + i, none⟩) hlt).trans (hc i hi)⟩

end Go.Proofs.YtpgcjljaokopaaaDoor

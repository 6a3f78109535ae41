/- How an argument that is a slice of bytes is opened, its capacity too. No function of the program. -/
import Derived.Test.YtdlhabldjdkfbaaDoorRowWords
import Derived.Deep.Slices
namespace Go.Proofs.YtdlhabldjdkfbaaDoor
set_option linter.unusedVariables false
set_option linter.unusedSimpArgs false
set_option maxRecDepth 100000
open Go.ChangeShapes Go.WideShapes Go.ChangeAt Go.RowKit

/-- What an argument that is a slice of bytes is told as, its capacity too. -/
theorem bytes_of_read' {H : Type} {enc : TypeId × Value → H} {W : World} {a : Option Addr} {len cap : Nat} {d : DataW H} {p : List MemPlace}
    (h : DataW.Trod enc Tryd.prog W 0 (fun _ => true) true 22 (.slice a len cap) d p) : ∃ l : List UInt8, l.length = len ∧ l.length ≤ 9223372036854775807 ∧ Rd W a l ∧ (a = none → cap = 0) ∧ l.length ≤ cap := by
  obtain ⟨l, h1, h2, h3⟩ := bytes_of_read h
  refine ⟨l, h1, h2, h3, ?_⟩
  obtain ⟨fuel, hf⟩ := h
  rcases open_ints Tryd.underlying22 Tryd.underlying5 (by kernel_rfl) hf with ⟨hcs, _⟩ | ⟨x, l', c, zs, hcs, _, hl, hm, hz, _, hcell, hwz⟩
  · simp [Value.cells] at hcs
    obtain ⟨rfl, rfl, rfl⟩ := hcs
    exact ⟨fun _ => rfl, by omega⟩
  · simp [Value.cells] at hcs
    obtain ⟨rfl, rfl, rfl⟩ := hcs
    exact ⟨fun e => (by cases e), by omega⟩

end Go.Proofs.YtdlhabldjdkfbaaDoor

/- How an argument that is a slice of Booleans is opened. No function of the program. -/
import Derived.Test.YtpgcjljaokopaaaDoorRowWords
import Derived.Test.YtpgcjljaokopaaaDoorFlags
import Derived.Deep.Grids
namespace Go.Proofs.YtpgcjljaokopaaaDoor
set_option linter.unusedVariables false
set_option linter.unusedSimpArgs false
open Go.ChangeShapes Go.WideShapes Go.ChangeAt Go.RowKit

theorem bools_of_read {H : Type} {enc : TypeId × Value → H} {W : World} {a : Option Addr} {len cap : Nat} {d : DataW H} {p : List MemPlace}
    (h : DataW.Trod enc Tryd.prog W 0 (fun _ => true) true 30 (.slice a len cap) d p) : ∃ l : List Bool, l.length = len ∧ l.length ≤ 9223372036854775807 ∧ RdF W a l := by
  obtain ⟨fuel, hf⟩ := h
  rcases Go.Deep.open_bools Tryd.underlying30 Tryd.underlying4 (by kernel_rfl) hf with ⟨hcs, _⟩ | ⟨x, l, c, B, hcs, _, hl, hm, _, hcell⟩
  · simp [Value.cells] at hcs
    obtain ⟨rfl, rfl, rfl⟩ := hcs
    exact ⟨[], rfl, by simp, .inl rfl⟩
  · simp [Value.cells] at hcs
    obtain ⟨rfl, rfl, rfl⟩ := hcs
    refine ⟨(List.range len).map B, by simp, by simp; unfold maxLen at hm; omega, ?_⟩
    by_cases h0 : len = 0
    · subst h0; exact .inl rfl
    · obtain ⟨b, o, spot⟩ := x
      have hc := hcell 0 (by omega)
      have hspot : spot = none := by simpa [Addr.add] using World.cell?_spot hc
      subst hspot
      refine .inr ⟨b, o, rfl, block_lt_of_cell hc, fun i hi => ?_⟩
      simp at hi
      have h1 := hcell i (by omega)
      rw [Addr.add_mid] at h1
      rw [h1, List.getD_eq_getElem?_getD]
      simp [hi]

end Go.Proofs.YtpgcjljaokopaaaDoor

/- How an argument that is an ident is opened. No function of the program. -/
import Derived.Test.YtibgjadnamgneaaDoorRowWords
import Derived.Test.YtibgjadnamgneaaDoorIdent1
import Derived.Deep.Slices
namespace Go.Proofs.YtibgjadnamgneaaDoor
set_option linter.unusedVariables false
set_option linter.unusedSimpArgs false
set_option maxRecDepth 100000
open Go.ChangeShapes Go.WideShapes Go.ChangeAt Go.RowKit

theorem cellsIntN : Tryd.prog.cellsOf 3 = 1 := by kernel_rfl
theorem cellsInt64N : Tryd.prog.cellsOf 2 = 1 := by kernel_rfl
theorem cellsStringN : Tryd.prog.cellsOf 9 = 1 := by kernel_rfl
theorem cellsIdn : Tryd.prog.cellsOf 24 = 4 := by kernel_rfl

theorem idn_of_trod {H : Type} {enc : TypeId × Value → H} {W : World} {base : Nat} {spare : Nat → Bool} {held : Bool} {fuel : Nat} {cs : List Value} {x : DataW H × List MemPlace}
    (h : DataW.trod enc Tryd.prog W base spare held fuel 24 cs = some x) : ∃ i : Idn, cs = i.cells ∧ i.name.size ≤ 9223372036854775807 ∧ i.email.size ≤ 9223372036854775807 := by
  obtain ⟨xs, m, -, -, hl, hn, hi⟩ := DataW.trod_struct Tryd.underlying24 h
  rw [cellsIdn] at hl
  have h0 : DataW.trod enc Tryd.prog W base spare held m 9 ((cs.drop 0).take (Tryd.prog.cellsOf 9)) = xs[0]? := hi 0 _ rfl
  have h1 : DataW.trod enc Tryd.prog W base spare held m 9 ((cs.drop 1).take (Tryd.prog.cellsOf 9)) = xs[1]? := hi 1 _ rfl
  have h2 : DataW.trod enc Tryd.prog W base spare held m 2 ((cs.drop 2).take (Tryd.prog.cellsOf 2)) = xs[2]? := hi 2 _ rfl
  have h3 : DataW.trod enc Tryd.prog W base spare held m 3 ((cs.drop 3).take (Tryd.prog.cellsOf 3)) = xs[3]? := hi 3 _ rfl
  rw [cellsIntN] at h3
  rw [cellsInt64N] at h2
  rw [cellsStringN] at h0 h1
  match cs, hl with
  | [c0, c1, c2, c3], hl =>
    have hn4 : xs.length = 4 := hn
    rw [List.getElem?_eq_getElem (by omega)] at h0 h1 h2 h3
    simp only [List.drop_zero, List.take_succ_cons, List.take_zero, List.drop_succ_cons] at h0 h1 h2 h3
    obtain ⟨s, e0, -, hs⟩ := DataW.trod_string Tryd.underlying9 h0
    obtain ⟨t, e1, -, ht⟩ := DataW.trod_string Tryd.underlying9 h1
    obtain ⟨n, e2, -, hw⟩ := DataW.trod_int Tryd.underlying2 h2
    obtain ⟨z, e3, -, hz⟩ := DataW.trod_int Tryd.underlying3 h3
    refine ⟨⟨s, t, n, z⟩, ?_, ?_, ?_⟩
    · unfold Idn.cells
      simp at e0 e1 e2 e3
      rw [e0, e1, e2, e3]
    · unfold maxLen at hs; exact hs
    · unfold maxLen at ht; exact ht

theorem idn_of_read {H : Type} {enc : TypeId × Value → H} {W : World} {base : Nat} {v : Value} {d : DataW H} {p : List MemPlace} (hv : Value.okWide Tryd.prog W .any base 24 v)
    (h : DataW.Trod enc Tryd.prog W 0 (fun _ => true) true 24 v d p) : ∃ i : Idn, v = .agg i.cells.toArray ∧ i.name.size ≤ 9223372036854775807 ∧ i.email.size ≤ 9223372036854775807 := by
  obtain ⟨cs, rfl, -⟩ := okWide_struct Tryd.underlying24 hv
  obtain ⟨fuel, hf⟩ := h
  obtain ⟨i, h1, h2⟩ := idn_of_trod hf
  refine ⟨i, ?_, h2⟩
  rw [← h1]
  simp [Value.cells]

end Go.Proofs.YtibgjadnamgneaaDoor

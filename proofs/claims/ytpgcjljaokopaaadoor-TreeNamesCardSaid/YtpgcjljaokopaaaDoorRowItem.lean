/- How an argument that is an item, or a slice of items, is opened. No function of the program. -/
import Derived.Test.YtpgcjljaokopaaaDoorRowWords
import Derived.Test.YtpgcjljaokopaaaDoorItem
import Derived.Deep.Slices
namespace Go.Proofs.YtpgcjljaokopaaaDoor
set_option linter.unusedVariables false
set_option linter.unusedSimpArgs false
open Go.ChangeShapes Go.WideShapes Go.ChangeAt Go.RowKit

theorem cellsInt : Tryd.prog.cellsOf 3 = 1 := by kernel_rfl
theorem cellsString : Tryd.prog.cellsOf 9 = 1 := by kernel_rfl
theorem cellsItem : Tryd.prog.cellsOf 25 = 22 := by kernel_rfl

/-- Cells that read as an item are an item's. -/
theorem item_of_trod {H : Type} {enc : TypeId × Value → H} {W : World} {base : Nat} {spare : Nat → Bool} {held : Bool} {fuel : Nat} {cs : List Value} {x : DataW H × List MemPlace}
    (h : DataW.trod enc Tryd.prog W base spare held fuel 25 cs = some x) : ∃ i : Itm, cs = i.cells ∧ i.id.length = 20 ∧ i.name.size ≤ 9223372036854775807 ∧ (-9223372036854775808 ≤ i.mode ∧ i.mode ≤ 9223372036854775807) := by
  obtain ⟨xs, m, -, -, hl, hn, hi⟩ := DataW.trod_struct Tryd.underlying25 h
  rw [cellsItem] at hl
  have h0 : DataW.trod enc Tryd.prog W base spare held m 3 ((cs.drop 0).take (Tryd.prog.cellsOf 3)) = xs[0]? := hi 0 _ rfl
  have h1 : DataW.trod enc Tryd.prog W base spare held m 9 ((cs.drop 1).take (Tryd.prog.cellsOf 9)) = xs[1]? := hi 1 _ rfl
  have h2 : DataW.trod enc Tryd.prog W base spare held m 23 ((cs.drop 2).take (Tryd.prog.cellsOf 23)) = xs[2]? := hi 2 _ rfl
  rw [cellsInt] at h0
  rw [cellsString] at h1
  rw [cellsId] at h2
  match cs, hl with
  | c0 :: c1 :: rest, hl =>
    have hr : rest.length = 20 := by simpa using hl
    have hn3 : xs.length = 3 := hn
    rw [List.getElem?_eq_getElem (by omega)] at h0 h1 h2
    simp only [List.drop_zero, List.take_succ_cons, List.take_zero, List.drop_succ_cons] at h0 h1 h2
    obtain ⟨n, e0, -, hw⟩ := DataW.trod_int Tryd.underlying3 h0
    obtain ⟨s, e1, -, hs⟩ := DataW.trod_string Tryd.underlying9 h1
    obtain ⟨l, e2, h20⟩ := id_of_trod h2
    rw [List.take_of_length_le (by omega)] at e2
    refine ⟨⟨n, s, l⟩, ?_, h20, ?_, int_of_wf hw⟩
    · unfold Itm.cells
      rw [e2]
      simp at e0 e1
      rw [e0, e1]
    · unfold maxLen at hs; exact hs

theorem item_of_read {H : Type} {enc : TypeId × Value → H} {W : World} {base : Nat} {v : Value} {d : DataW H} {p : List MemPlace} (hv : Value.okWide Tryd.prog W .any base 25 v)
    (h : DataW.Trod enc Tryd.prog W 0 (fun _ => true) true 25 v d p) : ∃ i : Itm, v = .agg i.cells.toArray ∧ i.id.length = 20 ∧ i.name.size ≤ 9223372036854775807 ∧ (-9223372036854775808 ≤ i.mode ∧ i.mode ≤ 9223372036854775807) := by
  obtain ⟨cs, rfl, -⟩ := okWide_struct Tryd.underlying25 hv
  obtain ⟨fuel, hf⟩ := h
  obtain ⟨i, h1, h2⟩ := item_of_trod hf
  refine ⟨i, ?_, h2⟩
  rw [← h1]
  simp [Value.cells]

end Go.Proofs.YtpgcjljaokopaaaDoor

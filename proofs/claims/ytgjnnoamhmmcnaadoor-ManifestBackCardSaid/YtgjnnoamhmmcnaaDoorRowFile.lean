/- How an argument that is a slice of files is opened. No function of the program. -/
import Derived.Test.YtgjnnoamhmmcnaaDoorM2
import Derived.Test.YtgjnnoamhmmcnaaDoorM1
import Derived.Test.YtgjnnoamhmmcnaaDoorLaw16a
namespace Go.Proofs.YtgjnnoamhmmcnaaDoor
set_option linter.unusedVariables false
set_option linter.unusedSimpArgs false
set_option maxRecDepth 100000
open Go.ChangeShapes Go.WideShapes Go.ChangeAt Go.RowKit

theorem cellsIntF : Tryd.prog.cellsOf 3 = 1 := by kernel_rfl
theorem cellsStringF : Tryd.prog.cellsOf 9 = 1 := by kernel_rfl
theorem cellsFile : Tryd.prog.cellsOf 28 = 22 := by kernel_rfl
theorem cellsIdF : Tryd.prog.cellsOf 26 = 20 := by kernel_rfl

/-- Cells that read as a file are a file's. -/
theorem file_of_trod {H : Type} {enc : TypeId × Value → H} {W : World} {base : Nat} {spare : Nat → Bool} {held : Bool} {fuel : Nat} {cs : List Value} {x : DataW H × List MemPlace}
    (h : DataW.trod enc Tryd.prog W base spare held fuel 28 cs = some x) : ∃ i : Fil, cs = i.cells ∧ i.id.length = 20 ∧ i.path.size ≤ 9223372036854775807 := by
  obtain ⟨xs, m, -, -, hl, hn, hi⟩ := DataW.trod_struct Tryd.underlying28 h
  rw [cellsFile] at hl
  have h0 : DataW.trod enc Tryd.prog W base spare held m 9 ((cs.drop 0).take (Tryd.prog.cellsOf 9)) = xs[0]? := hi 0 _ rfl
  have h1 : DataW.trod enc Tryd.prog W base spare held m 3 ((cs.drop 1).take (Tryd.prog.cellsOf 3)) = xs[1]? := hi 1 _ rfl
  have h2 : DataW.trod enc Tryd.prog W base spare held m 26 ((cs.drop 2).take (Tryd.prog.cellsOf 26)) = xs[2]? := hi 2 _ rfl
  rw [cellsIntF] at h1
  rw [cellsStringF] at h0
  rw [cellsIdF] at h2
  match cs, hl with
  | c0 :: c1 :: rest, hl =>
    have hr : rest.length = 20 := by simpa using hl
    have hn3 : xs.length = 3 := hn
    rw [List.getElem?_eq_getElem (by omega)] at h0 h1 h2
    simp only [List.drop_zero, List.take_succ_cons, List.take_zero, List.drop_succ_cons] at h0 h1 h2
    obtain ⟨n, e1, -, hw⟩ := DataW.trod_int Tryd.underlying3 h1
    obtain ⟨s, e0, -, hs⟩ := DataW.trod_string Tryd.underlying9 h0
    obtain ⟨l, e2, h20⟩ := id_of_trod h2
    rw [List.take_of_length_le (by omega)] at e2
    refine ⟨⟨s, n, l⟩, ?_, h20, ?_⟩
    · unfold Fil.cells
      rw [e2]
      simp at e0 e1
      rw [e0, e1]
    · unfold maxLen at hs; exact hs

theorem files_of_read {H : Type} {enc : TypeId × Value → H} {W : World} {a : Option Addr} {len cap : Nat} {d : DataW H} {p : List MemPlace}
    (h : DataW.Trod enc Tryd.prog W 0 (fun _ => true) true 22 (.slice a len cap) d p) : ∃ l : List Fil, l.length = len ∧ l.length ≤ 9223372036854775807 ∧ RdG kFile W a l ∧ (∀ x ∈ l, ArgF x) ∧ l.length ≤ cap ∧ (a = none → cap = 0) := by
  obtain ⟨l, h1, h2, h3, h4, h5, h6⟩ := sliceG_of_read kFile (fun x => x.path.size ≤ 9223372036854775807) cellsFile (fun base spare held fuel cs x h => by obtain ⟨y, h1, h2, h3⟩ := file_of_trod h; exact ⟨y, h1, h2, h3⟩) h
  exact ⟨l, h1, h2, h3, h4, h5, h6⟩

end Go.Proofs.YtgjnnoamhmmcnaaDoor

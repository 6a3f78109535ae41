/- How an argument that is an object is opened. No function of the program. -/
import Derived.Test.YtdlhabldjdkfbaaDoorRowBytesC
import Derived.Lib.SmallJoins
namespace Go.Proofs.YtdlhabldjdkfbaaDoor
set_option linter.unusedVariables false
set_option linter.unusedSimpArgs false
set_option maxRecDepth 100000
open Go.ChangeShapes Go.WideShapes Go.ChangeAt Go.RowKit

theorem cellsIntO : Tryd.prog.cellsOf 3 = 1 := by kernel_rfl
theorem cellsBytesO : Tryd.prog.cellsOf 22 = 1 := by kernel_rfl
theorem cellsObj : Tryd.prog.cellsOf 27 = 2 := by kernel_rfl

theorem obj_of_read {H : Type} {enc : TypeId × Value → H} {W : World} {base : Nat} {v : Value} {d : DataW H} {p : List MemPlace} (hv : Value.okWide Tryd.prog W .any base 27 v)
    (h : DataW.Trod enc Tryd.prog W 0 (fun _ => true) true 27 v d p) : ∃ (k : Int) (a : Option Addr) (l : List UInt8) (cap : Nat), v = .agg #[.int .i64 k, .slice a l.length cap] ∧ Rd W a l ∧ l.length ≤ 9223372036854775807 ∧ (-9223372036854775808 ≤ k ∧ k ≤ 9223372036854775807) := by
  obtain ⟨cs, rfl, -⟩ := okWide_struct Tryd.underlying27 hv
  obtain ⟨fuel, hf⟩ := h
  obtain ⟨xs, m, -, -, hl, hn, hi⟩ := DataW.trod_struct Tryd.underlying27 hf
  rw [cellsObj] at hl
  have h0 : DataW.trod enc Tryd.prog W 0 (fun _ => true) true m 3 ((((Value.agg cs).cells.toList).drop 0).take (Tryd.prog.cellsOf 3)) = xs[0]? := hi 0 _ rfl
  have h1 : DataW.trod enc Tryd.prog W 0 (fun _ => true) true m 22 ((((Value.agg cs).cells.toList).drop 1).take (Tryd.prog.cellsOf 22)) = xs[1]? := hi 1 _ rfl
  rw [cellsIntO] at h0
  rw [cellsBytesO] at h1
  have hn2 : xs.length = 2 := hn
  rw [List.getElem?_eq_getElem (by omega)] at h0 h1
  obtain ⟨c0, c1, rfl⟩ : ∃ c0 c1, cs = #[c0, c1] := by
    obtain ⟨l⟩ := cs
    match l, hl with
    | [a, b], _ => exact ⟨a, b, rfl⟩
  simp only [Value.cells, List.drop_zero, List.take_succ_cons, List.take_zero, List.drop_succ_cons] at h0 h1
  obtain ⟨n, e0, -, hw⟩ := DataW.trod_int Tryd.underlying3 h0
  obtain ⟨a, ln, c, e1⟩ := Go.Joins.slice_form Tryd.underlying22 h1
  simp at e0 e1
  subst e0 e1
  obtain ⟨l, hl1, hl2, hl3⟩ := bytes_of_read (a := a) (len := ln) (cap := c) (d := xs[1].1) (p := xs[1].2) ⟨m, by simpa [Value.cells] using h1⟩
  subst hl1
  exact ⟨n, a, l, c, rfl, hl3, hl2, int_of_wf hw⟩

end Go.Proofs.YtdlhabldjdkfbaaDoor

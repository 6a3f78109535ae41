/- Items of a tree as values, and in memory. No function of the program. -/
import Derived.Test.YtpgcjljaokopaaaDoorWords2
import Derived.Test.YtpgcjljaokopaaaDoorIds
import Derived.Test.YtpgcjljaokopaaaDoorBuf
import Derived.Deep.RegionHeldLaw
namespace Go.Proofs.YtpgcjljaokopaaaDoor
set_option linter.unusedVariables false
set_option linter.unusedSimpArgs false
open Go.RowKit

/-- An item: its mode, its name, the bytes of its id. -/
structure Itm where
  mode : Int
  name : ByteArray
  id : List UInt8
def Itm.cells (i : Itm) : List Value := .int .i64 i.mode :: .string i.name :: Lib.byteCells i.id
def Itm.val (i : Itm) : Value := .agg i.cells.toArray
theorem Itm.val_eq (i : Itm) : i.val = .agg i.cells.toArray := rfl
theorem Itm.len (i : Itm) (h : i.id.length = 20) : i.cells.length = 22 := by
  unfold Itm.cells
  rw [List.length_cons, List.length_cons, Lib.byteCells_length, h]
theorem infoItem0 : (Tryd.prog.info? 25).map (·.size) = some 22 := by kernel_rfl
theorem infoItem (i : Itm) (h : i.id.length = 20) : (Tryd.prog.info? 25).map (·.size) = some i.cells.length := by rw [i.len h]; exact infoItem0
theorem Itm.one (i : Itm) : ∀ v ∈ i.cells, v.oneCell' = true := by
  intro v hv
  unfold Itm.cells at hv
  simp only [List.mem_cons] at hv
  rcases hv with rfl | rfl | hv
  · rfl
  · rfl
  · exact one_bytes' _ v hv
theorem Itm.cell0 (i : Itm) : i.cells[0]? = some (.int .i64 i.mode) := rfl
theorem Itm.cell1 (i : Itm) : i.cells[1]? = some (.string i.name) := rfl

/-- A variable that holds an item, made in a block of its own. -/
theorem boxedI (w : World) (i : Itm) : ∃ W0, w.alloc (.cells i.cells.toArray 25) = W0 ∧ Grew w W0 ∧ Grew W0 W0 ∧ (∀ W, Grew W0 W → W.cell? ⟨w.heap.size, 0, none⟩ = some (.int .i64 i.mode)) ∧ (∀ W, Grew W0 W → W.cell? ⟨w.heap.size, 1, none⟩ = some (.string i.name)) ∧ (∀ W, Grew W0 W → W.rangeAt w.heap.size 0 i.cells) := by
  obtain ⟨W0, hW0, g0, g00, hq⟩ := boxed w i.cells.toArray 25
  refine ⟨W0, hW0, g0, g00, fun W g => hq W g 0 _ rfl, fun W g => hq W g 1 _ rfl, fun W g j v hv => ?_⟩
  rw [Nat.zero_add]
  exact hq W g j v (by simpa using hv)

end Go.Proofs.YtpgcjljaokopaaaDoor

/- The law CommitParents of layer 9, walked. Conditions: the library's tables are laid. -/
import Derived.Test.YtemojhcbhljemaaGreatDoorLaw09a
import Derived.Test.YtemojhcbhljemaaGreatDoorStill
import Derived.Test.YtemojhcbhljemaaGreatDoorM1
namespace Go.Proofs.YtemojhcbhljemaaGreatDoor
set_option linter.unusedVariables false
set_option linter.unusedSimpArgs false
open Go.RowKit

theorem rec_set (r : Rec) (v u : Value) (h : r.tree.length = 20) : (r.cells v).toArray.setIfInBounds 20 u = (r.cells u).toArray := by
  apply Array.ext'
  rw [Array.toList_setIfInBounds]
  unfold Rec.cells
  show (Lib.byteCells r.tree ++ _).set 20 u = _
  rw [List.set_append_right _ _ (by rw [Lib.byteCells_length, h]; exact Nat.le_refl _), Lib.byteCells_length, h, Nat.sub_self, List.set_cons_zero]
theorem rec_at (r : Rec) (v : Value) (h : r.tree.length = 20) : (r.cells v).toArray[20]? = some v := by
  unfold Rec.cells
  rw [List.getElem?_toArray, List.getElem?_append_right (by rw [Lib.byteCells_length, h]; exact Nat.le_refl _), Lib.byteCells_length, h, Nat.sub_self]
  rfl
theorem rec_one (r : Rec) (v : Value) (hv : v.oneCell' = true) : ∀ u ∈ r.cells v, u.oneCell' = true := by
  intro u hu
  unfold Rec.cells at hu
  simp only [List.mem_append, List.mem_cons, List.not_mem_nil, or_false, Idn.cells] at hu
  rcases hu with hu | rfl | hu | hu | rfl
  · exact one_bytes' _ u hu
  · exact hv
  · rcases hu with rfl | rfl | rfl | rfl <;> rfl
  · rcases hu with rfl | rfl | rfl | rfl <;> rfl
  · rfl
theorem byId_cells (k : Nat) (hk : k < 200) : Lib.byteCells (byId (k + 1)) = [.int .u8 ((k : Int) + 1), .int .u8 0, .int .u8 0, .int .u8 0, .int .u8 0, .int .u8 0, .int .u8 0, .int .u8 0, .int .u8 0, .int .u8 0, .int .u8 0, .int .u8 0, .int .u8 0, .int .u8 0, .int .u8 0, .int .u8 0, .int .u8 0, .int .u8 0, .int .u8 0, .int .u8 0] := by
  have h : ((UInt8.ofNat (k + 1)).toNat : Int) = (k : Int) + 1 := by rw [UInt8.toNat_ofNat']; omega
  show Value.int .u8 ((UInt8.ofNat (k + 1)).toNat : Int) :: Lib.byteCells (List.replicate 19 0) = _
  rw [h]
  rfl
theorem recN_cells : ((recN [] ⟨#[]⟩).cells (.slice none 0 0)).toArray = #[.int .u8 1, .int .u8 0, .int .u8 0, .int .u8 0, .int .u8 0, .int .u8 0, .int .u8 0, .int .u8 0, .int .u8 0, .int .u8 0, .int .u8 0, .int .u8 0, .int .u8 0, .int .u8 0, .int .u8 0, .int .u8 0, .int .u8 0, .int .u8 0, .int .u8 0, .int .u8 0, .slice none 0 0, .string ⟨#[65]⟩, .string ⟨#[97]⟩, .int .i64 0, .int .i64 0, .string ⟨#[65]⟩, .string ⟨#[97]⟩, .int .i64 0, .int .i64 0, .string ⟨#[]⟩] := by
  unfold Rec.cells recN byId whoA Idn.cells
  rfl
theorem plZ_no (l : List (List UInt8)) (n : Nat) : plZ l false n = l := rfl
theorem plT_no (l : List (List UInt8)) (n : Nat) : plT l false n = l := rfl

end Go.Proofs.YtemojhcbhljemaaGreatDoor

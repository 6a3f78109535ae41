/- octal on both sides, the reference's one and Quote. Conditions: the text is at most 2^30 bytes long. -/
import Derived.Test.YtkdmhflcpfekfaaDoorQ4
import Derived.Deep.QuietTactic
import Derived.BigQuiet
import Derived.Deep.RegionHeldLaw
namespace Go.Proofs.YtkdmhflcpfekfaaDoor
set_option linter.unusedVariables false
set_option linter.unusedSimpArgs false
open Go.RowKit

theorem row_rd (w W0 : World) (l : List UInt8) (C : Array Value) (fz : Nat × Nat) (hC : C = (Lib.byteCells l).toArray) (h : w.alloc (.cells C 5 fz) = W0) : Rd W0 (some ⟨w.heap.size, 0, none⟩) l := by
  subst h
  subst hC
  have hb := heap_alloc_new w (.cells (Lib.byteCells l).toArray 5 fz)
  refine .inr ⟨_, 0, rfl, (Array.getElem?_eq_some_iff.1 hb).1, fun i hi => ?_⟩
  rw [cell_of_row _ _ _ _ _ _ hb, Nat.zero_add, List.getElem?_toArray, byteCells_getElem?, List.getElem?_eq_getElem hi, List.getD_eq_getElem?_getD, List.getElem?_eq_getElem hi]
  rfl

theorem oct_nums (c : UInt8) (x : Int) (hx : (c.toNat : Int) = x) : ∃ d a b : UInt8, Pure.octB c = [92, d, a, b] ∧ 48 + x / 64 = (d.toNat : Int) ∧ 48 + x / 8 % 8 = (a.toNat : Int) ∧ 48 + x % 8 = (b.toNat : Int) := by
  obtain ⟨d, a, b, e, hd, ha, hb⟩ := Pure.oct_parts c
  exact ⟨d, a, b, e, by omega, by omega, by omega⟩

theorem ne_of_num {c d : UInt8} (h : (c.toNat : Int) ≠ (d.toNat : Int)) : c ≠ d := by rintro rfl; exact h rfl
theorem eq_of_num {c d : UInt8} (h : (c.toNat : Int) = (d.toNat : Int)) : c = d := UInt8.toNat_inj.1 (by omega)

theorem flat_len (l : List UInt8) : (l.flatMap Pure.oneQ).length ≤ 4 * l.length := by
  induction l with
  | nil => simp
  | cons c r ih =>
    rw [List.flatMap_cons, List.length_append]
    have h : (Pure.oneQ c).length ≤ 4 := by
      rcases Pure.one_cases c with ⟨e, _⟩ | ⟨e, _⟩ | ⟨e, _⟩ | e | ⟨e, _, _⟩ <;> rw [e] <;> simp [Pure.octB]
    simp only [List.length_cons]
    omega

end Go.Proofs.YtkdmhflcpfekfaaDoor

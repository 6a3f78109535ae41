/- Trees as lists: which text stands ahead of which. Plain: no program in sight. -/
import Derived.Test.YtgjnnoamhmmcnaaDoorPure03
import Derived.Lib.Bytealg
import GoSem.Op.String
namespace Go.Proofs.YtgjnnoamhmmcnaaDoor.Pure
open Go.Lib

theorem compare_less : ∀ a b : List UInt8, Lib.compareBytes a b = if Op.bytesLess a b = true then -1 else if (a == b) = true then 0 else 1
  | [], [] => by simp [Lib.compareBytes, Op.bytesLess]
  | [], b :: q => by simp [Lib.compareBytes, Op.bytesLess]
  | a :: p, [] => by simp [Lib.compareBytes, Op.bytesLess]
  | a :: p, b :: q => by
    have ih := compare_less p q
    unfold Lib.compareBytes Op.bytesLess
    by_cases h1 : a < b
    · simp [h1]
    · by_cases h2 : b < a
      · have hne : a ≠ b := by rintro rfl; exact h1 h2
        simp [h1, h2, hne]
      · have he : a = b := by
          apply UInt8.toNat_inj.1
          rw [UInt8.lt_iff_toNat_lt] at h1 h2
          omega
        subst he
        simp [h1, ih]

theorem less_irr : ∀ a : List UInt8, Op.bytesLess a a = false
  | [] => rfl
  | c :: r => by unfold Op.bytesLess; simp [less_irr r, UInt8.lt_irrefl]
theorem less_cons (a b : UInt8) (p q : List UInt8) : Op.bytesLess (a :: p) (b :: q) = (decide (a < b) || (a == b && Op.bytesLess p q)) := rfl
theorem less_asym : ∀ a b : List UInt8, Op.bytesLess a b = true → Op.bytesLess b a = false
  | _, [] => by intro h; unfold Op.bytesLess at h; simp at h
  | [], b :: q => by intro _; rfl
  | a :: p, b :: q => by
    rw [less_cons, less_cons]
    intro h
    have ih := less_asym p q
    simp only [Bool.or_eq_true, decide_eq_true_eq, Bool.and_eq_true, beq_iff_eq] at h
    simp only [Bool.or_eq_false_iff, decide_eq_false_iff_not, Bool.and_eq_false_iff, beq_eq_false_iff_ne]
    rcases h with h | ⟨rfl, h⟩
    · rw [UInt8.lt_iff_toNat_lt] at h ⊢
      exact ⟨by omega, .inl (by rintro rfl; omega)⟩
    · exact ⟨UInt8.lt_irrefl _, .inr (ih h)⟩

/-- A mode as it is written; none: it is no mode. -/
def wordM (m : Int) : List UInt8 := if m = 1 then [49, 48, 48, 54, 52, 52] else if m = 2 then [49, 48, 48, 55, 53, 53] else if m = 3 then [49, 50, 48, 48, 48, 48] else if m = 4 then [52, 48, 48, 48, 48] else []
theorem wordM_nil (m : Int) : wordM m = [] ↔ ¬ (1 ≤ m ∧ m ≤ 4) := by
  unfold wordM
  split
  · simp; omega
  split
  · simp; omega
  split
  · simp; omega
  split
  · simp; omega
  · simp; omega
theorem wordM_len (m : Int) : (wordM m).length ≤ 6 := by
  unfold wordM
  split; decide; split; decide; split; decide; split <;> decide
/-- A name of an item that may be. -/
def nameI (l : List UInt8) : Bool := pathP l && !(l.any (· == 47))

end Go.Proofs.YtgjnnoamhmmcnaaDoor.Pure

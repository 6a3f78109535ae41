/- Compare on both sides: which of two texts is the lesser, byte by byte. Conditions: none. -/
import Derived.Test.YtejoknkacpopeaaDoorWords2
import Derived.Test.YtejoknkacpopeaaDoorShelf
namespace Go.Proofs.YtejoknkacpopeaaDoor
set_option linter.unusedVariables false
set_option linter.unusedSimpArgs false
open Go.RowKit

set_option maxRecDepth 100000 in
theorem hexa_Compare (a b : ByteArray) (w : World) :
    Calls Tryd.prog 22 #[.string a, .string b] w fun e w' => e = .returned (.int .i64 (Lib.compareBytes a.data.toList b.data.toList)) ∧ w' = w := by
  go_enter Tryd.func22, Tryd.ntmps22
  go_wp2_with (go_at_call 32; with_reducible refine (Tryd.strings_Compare _ _ _).mono ?_; rintro e w1 ⟨rfl, rfl⟩)
  go_ret
  exact ⟨rfl, rfl⟩

theorem compare_less : ∀ a b : List UInt8, Lib.compareBytes a b = if Op.bytesLess a b = true then -1 else if (a == b) = true then 0 else 1
  | [], [] => by simp [Lib.compareBytes, Op.bytesLess]
  | [], b :: q => by simp [Lib.compareBytes, Op.bytesLess]
  | a :: p, [] => by simp [Lib.compareBytes, Op.bytesLess]
  | a :: p, b :: q => by
    have ih := compare_less p q
    unfold Lib.compareBytes Op.bytesLess
    by_cases h1 : a < b
    · simp [h1]
    · by_cases h2 : b < a
      · have hne : a ≠ b := by rintro rfl; exact h1 h2
        simp [h1, h2, hne]
      · have he : a = b := by
          have h3 : ¬ a.toNat < b.toNat := h1
          have h4 : ¬ b.toNat < a.toNat := h2
          exact UInt8.toNat_inj.1 (by omega)
        subst he
        simp [h1, ih]

set_option maxRecDepth 100000 in
theorem ref_Compare (a b : ByteArray) (w : World) :
    Calls Tryd.prog 23 #[.string a, .string b] w fun e w' => e = .returned (.int .i64 (Lib.compareBytes a.data.toList b.data.toList)) ∧ w' = w := by
  have hc := compare_less a.toList b.toList
  rw [ByteArray.toList_eq, ByteArray.toList_eq] at hc
  rw [hc]
  rw [← ByteArray.toList_eq, ← ByteArray.toList_eq]
  clear hc
  obtain ⟨L, hL⟩ : ∃ L, Op.bytesLess a.toList b.toList = L := ⟨_, rfl⟩
  obtain ⟨E, hE⟩ : ∃ L, (a.toList == b.toList) = L := ⟨_, rfl⟩
  rw [hL, hE]
  cases L <;> cases E
  all_goals
    go_enter Tryd.func23, Tryd.ntmps23
    go_wp2
    go_ret
    exact ⟨rfl, rfl⟩

end Go.Proofs.YtejoknkacpopeaaDoor

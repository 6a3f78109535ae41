/- A predicate on the runes of a text, told by its bytes. No function of the program. -/
import Derived.Test.YtkdmhflcpfekfaaDoorPure11
import Derived.Test.YtkdmhflcpfekfaaDoorM1
import Derived.Shelf.GgClosure.StringsIndexFunc
namespace Go.Proofs.YtkdmhflcpfekfaaDoor
set_option linter.unusedVariables false
set_option linter.unusedSimpArgs false
open Go.RowKit

theorem any_runes_from (p : Nat → Bool) (q : UInt8 → Bool) (H : Bool) (h1 : ∀ c : UInt8, c.toNat < 128 → p c.toNat = q c) (h2 : ∀ r, 128 ≤ r → p r = H) (h3 : ∀ c : UInt8, 128 ≤ c.toNat → q c = H) (s : ByteArray) :
    ∀ (f pos : Nat), s.size ≤ pos + f → decide (0 ≤ Lib.idxFuncFrom p true s f pos) = (s.data.toList.drop pos).any q
  | 0, pos, hf => by
    have hsl : s.data.toList.length = s.size := Array.length_toList
    rw [List.drop_of_length_le (by omega)]
    rfl
  | f + 1, pos, hf => by
    have hsl : s.data.toList.length = s.size := Array.length_toList
    unfold Lib.idxFuncFrom
    by_cases hp : pos < s.size
    · rw [if_pos hp]
      have hx := Lib.data_getElem? s pos hp
      have hdrop : s.data.toList.drop pos = (s[pos]'hp) :: s.data.toList.drop (pos + 1) := by
        rw [List.getElem?_eq_getElem (by omega)] at hx
        rw [List.drop_eq_getElem_cons (by omega), Option.some.inj hx]
      by_cases ha : (s[pos]'hp).toNat < 128
      · rw [decode_ascii s pos hp ha]
        simp only
        rw [h1 _ ha, hdrop, List.any_cons]
        cases hq : q (s[pos]'hp) with
        | true => rw [if_pos rfl]; simp
        | false => rw [if_neg (by simp), any_runes_from p q H h1 h2 h3 s f (pos + 1) (by omega), Bool.false_or]
      · have hh : 128 ≤ (s[pos]'hp).toNat := by omega
        have hd := decode_high s pos hp hh
        rw [h2 _ hd.1]
        cases H with
        | true => rw [if_pos rfl, hdrop, List.any_cons, h3 _ hh]; simp
        | false =>
          rw [if_neg (by simp), any_runes_from p q false h1 h2 h3 s f _ (by have := hd.2; omega)]
          have hb := Pure.decode_bytes s pos hp hh
          conv => rhs; rw [← List.take_append_drop (Utf8.decode s pos).2 (s.data.toList.drop pos), List.any_append, List.drop_drop]
          have : ((s.data.toList.drop pos).take (Utf8.decode s pos).2).any q = false := by
            rw [List.any_eq_false]
            intro c hc
            rw [h3 c (hb c hc)]
            simp
          rw [this, Bool.false_or]
    · rw [if_neg hp, List.drop_of_length_le (by omega)]
      rfl
theorem any_runes (p : Nat → Bool) (q : UInt8 → Bool) (H : Bool) (h1 : ∀ c : UInt8, c.toNat < 128 → p c.toNat = q c) (h2 : ∀ r, 128 ≤ r → p r = H) (h3 : ∀ c : UInt8, 128 ≤ c.toNat → q c = H) (s : ByteArray) :
    decide (0 ≤ Lib.idxFunc p true s) = s.data.toList.any q := by
  have := any_runes_from p q H h1 h2 h3 s s.size 0 (by omega)
  rwa [List.drop_zero] at this

end Go.Proofs.YtkdmhflcpfekfaaDoor

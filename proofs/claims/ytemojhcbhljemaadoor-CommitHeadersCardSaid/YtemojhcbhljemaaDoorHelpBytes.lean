/- The helpers Own, Bytes, Plain, Kept on bytes: a copy with room behind it; two texts held against each other; is the copy as it was. Conditions: at most 2^40 bytes. -/
import Derived.Test.YtemojhcbhljemaaDoorM1
import Derived.Deep.QuietTactic
import Derived.BigQuiet
import Derived.Lib.SlBytesRow
namespace Go.Proofs.YtemojhcbhljemaaDoor
set_option linter.unusedVariables false
set_option linter.unusedSimpArgs false
open Go.RowKit

/-- The cells of a copy: the bytes, k times the sign, and what lay behind. -/
def ownCells (l : List UInt8) (f : Int) (k : Nat) (z : List Value) : List Value := Lib.byteCells l ++ (List.replicate k (.int .u8 f) ++ z.drop k)

theorem ownCells_next (l : List UInt8) (f : Int) {k : Nat} (z : List Value) (hz : z.length = 3) (hk : k < 3) :
    (ownCells l f k z).toArray.setIfInBounds (l.length + k) (.int .u8 f) = (ownCells l f (k + 1) z).toArray := by
  apply Array.ext'
  simp only [Array.toList_setIfInBounds, ownCells]
  rw [List.set_append_right _ _ (by rw [Lib.byteCells_length]; omega), Lib.byteCells_length, show l.length + k - l.length = k by omega,
    List.set_append_right _ _ (by simp), List.length_replicate, Nat.sub_self, show z.drop k = z[k] :: z.drop (k + 1) from List.drop_eq_getElem_cons (by omega), List.set_cons_zero]
  simp [List.replicate_succ']

set_option maxRecDepth 100000 in
set_option maxHeartbeats 1000000 in
theorem help_Bytes (p q : Option Addr) (l m : List UInt8) (c d : Nat) (w : World) (h1 : Rd w p l) (h2 : Rd w q m) :
    Calls Tryd.prog 13 #[.slice p l.length c, .slice q m.length d] w fun e w' => e = .returned (.bool (l == m)) ∧ w = w' := by
  have k1 := conv_string c h1
  have k2 := conv_string d h2
  go_enter Tryd.func13, Tryd.ntmps13
  go_wp2
  go_ret
  exact ⟨rfl, rfl⟩

end Go.Proofs.YtemojhcbhljemaaDoor

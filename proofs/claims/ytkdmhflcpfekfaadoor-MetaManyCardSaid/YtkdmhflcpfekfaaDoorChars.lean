/- One byte as a text. No function of the program. -/
import Derived.Test.YtkdmhflcpfekfaaDoorM1
namespace Go.Proofs.YtkdmhflcpfekfaaDoor
set_option linter.unusedVariables false
set_option linter.unusedSimpArgs false
open Go.RowKit

set_option maxRecDepth 100000 in
theorem conv_char (c : UInt8) (W : World) : (convert 48 9 (.slice (some ⟨W.heap.size, 0, none⟩) 1 1)).run Tryd.prog (W.alloc (.cells #[.int .u8 (c.toNat : Int)] 5)) = .ok (.string ⟨#[c]⟩) (W.alloc (.cells #[.int .u8 (c.toNat : Int)] 5)) := by
  have hr : Rd (W.alloc (.cells #[.int .u8 (c.toNat : Int)] 5)) (some ⟨W.heap.size, 0, none⟩) [c] := .inr ⟨_, 0, rfl, by simp, fun i hi => by
    have : i = 0 := by simp at hi; omega
    subst this
    rw [cell_of_row _ _ _ _ _ (0, 0) (heap_alloc_new W _)]
    rfl⟩
  exact conv_string 1 hr
/-- The letter a, and so on. -/
def letter (k : Nat) : UInt8 := UInt8.ofNat (97 + k)
theorem letter_nat (k : Nat) (hk : k < 100) : (letter k).toNat = 97 + k := by
  unfold letter
  rw [UInt8.toNat_ofNat']
  omega
theorem letter_wrap (k : Nat) (hk : k < 100) : IntKind.u8.wrap (97 + (k : Int)) = ((letter k).toNat : Int) := by
  rw [letter_nat k hk]
  simp [IntKind.wrap, IntKind.bits, IntKind.signed]
  omega

end Go.Proofs.YtkdmhflcpfekfaaDoor

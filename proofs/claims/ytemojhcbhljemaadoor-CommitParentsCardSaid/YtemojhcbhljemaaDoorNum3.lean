/- The reference's Number: the digits of 10 of any number. Conditions: none. -/
import Derived.Test.YtemojhcbhljemaaDoorWords2
import Derived.Test.YtemojhcbhljemaaDoorPure01c
import Derived.Deep.RegionWith
import Derived.Test.YtemojhcbhljemaaDoorTabs0
namespace Go.Proofs.YtemojhcbhljemaaDoor
set_option linter.unusedVariables false
set_option linter.unusedSimpArgs false
open Go.RowKit

theorem ba_ext {a b : ByteArray} (h : a.data.toList = b.data.toList) : a = b := by
  cases a with | mk a => cases b with | mk b =>
  simp only at h
  rw [Array.toList_inj.1 h]
theorem digit_text (d : Nat) (h : d < 10) : ∃ D : ByteArray, D.data.toList = [UInt8.ofNat (48 + d)] ∧ ∀ (W : World) (b c : Nat), W.cell? ⟨b, 0, none⟩ = some (.int .u8 (48 + (d : Int))) →
    (convert 30 9 (.slice (some ⟨b, 0, none⟩) 1 c)).run Tryd.prog W = .ok (.string D) W := by
  refine ⟨⟨[UInt8.ofNat (48 + d)].toArray⟩, rfl, fun W b c hc => ?_⟩
  refine conv_string (l := [UInt8.ofNat (48 + d)]) c (.inr ⟨b, 0, rfl, World.block_lt_of_cell? _ _ hc, fun i hi => ?_⟩)
  have : i = 0 := by simp at hi; omega
  subst this
  rw [Nat.add_zero, hc]
  have e : ((UInt8.ofNat (48 + d)).toNat : Int) = 48 + (d : Int) := by rw [UInt8.toNat_ofNat']; omega
  simp only [List.getD_cons_zero, e]
theorem box_cell (w : World) (x : Value) (t : TypeId) : (w.alloc (.cells #[x] t)).cell? ⟨w.heap.size, 0, none⟩ = some x := by
  rw [cell_of_row _ _ _ _ _ (0, 0) (heap_alloc_new w _)]
  rfl

theorem u64_of (z : Int) (h : 0 ≤ z) (h1 : z < 18446744073709551616) : IntKind.u64.wrap z = z := by simp [IntKind.wrap, IntKind.bits, IntKind.signed]; omega

end Go.Proofs.YtemojhcbhljemaaDoor

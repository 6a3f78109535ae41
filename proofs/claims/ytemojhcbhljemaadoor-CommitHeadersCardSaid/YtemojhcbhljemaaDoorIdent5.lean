/- ident.two and the reference's two: a number below a hundred as two digits. -/
import Derived.Test.YtemojhcbhljemaaDoorIdent4
namespace Go.Proofs.YtemojhcbhljemaaDoor
set_option linter.unusedVariables false
set_option linter.unusedSimpArgs false
open Go.RowKit

/-- A number's two digits. -/
def twoD (n : Nat) : List UInt8 := [UInt8.ofNat (48 + n / 10), UInt8.ofNat (48 + n % 10)]
theorem rd_two (w : World) (a b : UInt8) : Rd (w.alloc (.cells #[.int .u8 (a.toNat : Int), .int .u8 (b.toNat : Int)] 5)) (some ⟨w.heap.size, 0, none⟩) [a, b] := by
  refine .inr ⟨w.heap.size, 0, rfl, by simp, fun i hi => ?_⟩
  have : i = 0 ∨ i = 1 := by simp at hi; omega
  rcases this with rfl | rfl
  · rw [cell_of_row _ _ _ _ _ (0, 0) (heap_alloc_new w _)]; rfl
  · rw [cell_of_row _ _ _ _ _ (0, 0) (heap_alloc_new w _)]; rfl

set_option maxRecDepth 100000 in
set_option maxHeartbeats 1000000 in
theorem ident_two (n : Nat) (hn : n < 100) (w : World) :
    Calls Tryd.prog 46 #[.int .i64 (n : Int)] w fun e w' => e = .returned (.string ⟨(twoD n).toArray⟩) ∧ Grew w w' := by
  have ha : (UInt8.ofNat (48 + n / 10)).toNat = 48 + n / 10 := by simp; omega
  have hb : (UInt8.ofNat (48 + n % 10)).toNat = 48 + n % 10 := by simp; omega
  unfold twoD
  generalize UInt8.ofNat (48 + n / 10) = a at *
  generalize UInt8.ofNat (48 + n % 10) = b at *
  have ea : 48 + (n : Int) / 10 % 10 = (a.toNat : Int) := by omega
  have eb : 48 + (n : Int) % 10 = (b.toNat : Int) := by omega
  have wa : IntKind.u8.wrap (a.toNat : Int) = (a.toNat : Int) := by have := a.toNat_lt; simp [IntKind.wrap, IntKind.bits, IntKind.signed]; omega
  have wb : IntKind.u8.wrap (b.toNat : Int) = (b.toNat : Int) := by have := b.toNat_lt; simp [IntKind.wrap, IntKind.bits, IntKind.signed]; omega
  obtain ⟨V, hV⟩ : ∃ V, w.alloc (.cells #[.int .u8 (a.toNat : Int), .int .u8 (b.toNat : Int)] 5) = V := ⟨_, rfl⟩
  have hr := rd_two w a b
  rw [hV] at hr
  have gV : Grew w V := by rw [← hV]; exact (Below.refl _ _).alloc (Nat.le_refl _) _
  have kc := conv_string 2 hr
  have hl2 : [a, b].length = 2 := rfl
  rw [hl2] at kc
  clear hr ha hb hl2
  go_enter Tryd.func46, Tryd.ntmps46
  go_wp2
  go_ret
  exact ⟨rfl, gV⟩

end Go.Proofs.YtemojhcbhljemaaDoor

/- What is read between quotes, step by step. No function of the program. -/
import Derived.Test.YtbdcncojiejdoaaDoorPure03
namespace Go.Proofs.YtbdcncojiejdoaaDoor.Pure
set_option linter.unusedVariables false
set_option linter.unusedSimpArgs false

theorem taken_lenR : ∀ l : List UInt8, (takenQ l).2 ≤ l.length ∧ (takenQ l).1 < 256
  | [] => ⟨Nat.le_refl _, by decide⟩
  | c :: r => by
    have hc := c.toNat_lt
    unfold takenQ
    split
    · exact ⟨by simp, hc⟩
    · match r with
      | [] => exact ⟨by simp, by simp⟩
      | d :: q =>
        have hd := d.toNat_lt
        simp only
        split
        · exact ⟨by simp, hd⟩
        split
        · exact ⟨by simp, by simp⟩
        split
        · exact ⟨by simp, by simp⟩
        match q with
        | [] => exact ⟨by simp, by simp⟩
        | [_] => exact ⟨by simp, by simp⟩
        | a :: b :: q =>
          simp only
          split
          · next h => exact ⟨by simp, by simp only; omega⟩
          · exact ⟨by simp, by simp⟩
theorem dec1_nil' : dec1 [] = some [] := by unfold dec1; rw [if_pos rfl]
theorem dec1_stopR {l : List UInt8} (h : l ≠ []) (h0 : (takenQ l).2 = 0) : dec1 l = none := by unfold dec1; rw [if_neg h, if_pos h0]
theorem dec1_nextR {l : List UInt8} (h : l ≠ []) (h0 : (takenQ l).2 ≠ 0) : dec1 l = (dec1 (l.drop (takenQ l).2)).map (UInt8.ofNat (takenQ l).1 :: ·) := by
  conv => lhs; unfold dec1
  rw [if_neg h, if_neg h0]

end Go.Proofs.YtbdcncojiejdoaaDoor.Pure

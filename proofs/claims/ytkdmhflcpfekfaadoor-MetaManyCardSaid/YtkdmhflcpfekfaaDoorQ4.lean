/- Plain on both sides; the reference's clean, octal, one and Quote. Conditions: the text is at most 2^30 bytes long. -/
import Derived.Test.YtkdmhflcpfekfaaDoorQ1b
import Derived.Test.YtkdmhflcpfekfaaDoorM1
namespace Go.Proofs.YtkdmhflcpfekfaaDoor
set_option linter.unusedVariables false
set_option linter.unusedSimpArgs false
open Go.RowKit

theorem odd_B (c : UInt8) : Pure.oddB c = (decide ((c.toNat : Int) < 32) || ((c.toNat : Int) == 127) || ((c.toNat : Int) == 34) || ((c.toNat : Int) == 92)) := by
  have key : ∀ n : Fin 256, Pure.oddB (UInt8.ofNat n.val) = (decide ((n.val : Int) < 32) || ((n.val : Int) == 127) || ((n.val : Int) == 34) || ((n.val : Int) == 92)) := by decide +kernel
  have := key ⟨c.toNat, c.toNat_lt⟩
  simpa using this

/-- What stands ahead of a text's first byte is plain, or not. -/
theorem plain_fin (s : ByteArray) (h0 : 0 < s.size) (h : s.data.toList.all (fun c => !Pure.oddB c) = true) : Pure.plainP s.data.toList = !(((s[0]'h0).toNat : Int) == 32) := by
  have hx := Lib.data_getElem? s 0 h0
  unfold Pure.plainP
  rw [h, Bool.true_and, List.head?_eq_getElem?, hx]
  have hne : s.data.toList.isEmpty = false := by
    cases hl : s.data.toList with
    | nil => rw [hl] at hx; simp at hx
    | cons a b => rfl
  rw [hne, Bool.not_false, Bool.true_and]
  congr 1
  rw [Bool.eq_iff_iff]
  simp only [beq_iff_eq, Option.some.injEq]
  constructor
  · intro e; rw [e]; rfl
  · intro e; exact UInt8.toNat_inj.1 (by show _ = (32 : Nat); omega)

theorem clean_B (c : UInt8) : (!(c.toNat == 32 || decide (127 < c.toNat))) = !(((c.toNat : Int) == 32) || decide (127 < (c.toNat : Int))) := by
  congr 1
  rw [Bool.eq_iff_iff]
  simp only [Bool.or_eq_true, beq_iff_eq, decide_eq_true_eq]
  omega

end Go.Proofs.YtkdmhflcpfekfaaDoor

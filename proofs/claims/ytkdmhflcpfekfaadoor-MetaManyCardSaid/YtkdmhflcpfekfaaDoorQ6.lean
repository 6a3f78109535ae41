/- quote.Quote. Conditions: the decoder's tables are laid; the text is at most 2^30 bytes long. -/
import Derived.Test.YtkdmhflcpfekfaaDoorQ5
import Derived.Test.YtkdmhflcpfekfaaDoorRunes
import Derived.Test.YtkdmhflcpfekfaaDoorBuilder
import Derived.Lib.RuneCountTail
import Derived.Shelf.Unicode.DecodeLastEight
namespace Go.Proofs.YtkdmhflcpfekfaaDoor
set_option linter.unusedVariables false
set_option linter.unusedSimpArgs false
open Go.RowKit

/-- What only makes new blocks leaves a builder. -/
theorem builder_grew {B b : Nat} {bs : List Value} {w w' : World} (h : Lib.IsBuilderF tB tU8 B b bs w) (hg : Grew w w') : Lib.IsBuilderF tB tU8 B b bs w' := by
  have key : ∀ p, Lib.BuilderAtF tB tU8 B b p bs w → Lib.BuilderAtF tB tU8 B b p bs w' := by
    rintro p ⟨hB, v, hb, ⟨hl, ho⟩, hne⟩
    refine ⟨hB, v, (hg.block _ (Array.getElem?_eq_some_iff.1 hb).1).trans hb, ⟨hl, ?_⟩, hne⟩
    rcases ho with ho | ⟨g, cap, cur, fz, hv, h1, h2, h3⟩
    · exact .inl ho
    · exact .inr ⟨g, cap, cur, fz, hv, h1, (hg.block _ (Array.getElem?_eq_some_iff.1 h2).1).trans h2, h3⟩
  exact h.imp (key _) (key _)

theorem decode_tail (s : ByteArray) (pos : Nat) (h : pos < s.size) : Lib.decodeGo (s.extract pos s.size) = Utf8.decode s pos := by
  unfold Lib.decodeGo
  rw [if_neg (by rw [Lib.tail_size]; omega), Lib.tail_decode, Nat.add_zero]
theorem decode_fits (s : ByteArray) (pos : Nat) (h : pos < s.size) : pos + (Utf8.decode s pos).2 ≤ s.size := by
  have := Lib.decodeGo_le_size (s.extract pos s.size)
  rw [decode_tail s pos h, Lib.tail_size] at this
  omega

theorem index_at (s : ByteArray) (i j : Nat) (x : Int) (c : UInt8) (hij : (i : Int) + (j : Int) = x) (hc : s.data.toList[i + j]? = some c) (w : World) :
    (Instr.index 9 (.string s) (.int .i64 x)).run Tryd.prog w = .ok (.int .u8 (c.toNat : Int)) w := by
  subst hij
  exact index_str s (i + j) c hc w

end Go.Proofs.YtkdmhflcpfekfaaDoor

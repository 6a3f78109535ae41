/- quote.Quote. Conditions: the decoder's tables are laid; the text is at most 2^30 bytes long. -/
import Derived.Test.YtbdcncojiejdoaaDoorQ5
import Derived.Test.YtbdcncojiejdoaaDoorRunes
import Derived.Test.YtbdcncojiejdoaaDoorBuilder
import Derived.Lib.RuneCountTail
import Derived.Shelf.Unicode.DecodeLastEight
namespace Go.Proofs.YtbdcncojiejdoaaDoor
set_option linter.unusedVariables false
set_option linter.unusedSimpArgs false
open Go.RowKit

/-- What only makes new blocks leaves a builder. -/
theorem builder_grew {B b : Nat} {bs : List Value} {w w' : World} (h : Lib.IsBuilderF tB tU8 B b bs w) (hg : Grew w w') : Lib.IsBuilderF tB tU8 B b bs w' := by
  have key : ∀ p, Lib.BuilderAtF tB tU8 B b p bs w → Lib.BuilderAtF tB tU8 B b p bs w' := by
    rintro p ⟨hB, v, hb, ⟨hl, ho⟩, hne⟩
    refine ⟨hB, v, (hg.block _ (Array.getElem?_eq_some_iff.1 hb).1).trans hb, ⟨hl, ?_⟩, hne⟩
    rcases ho with ho | ⟨g, cap, cur, fz, hv, h1, h2, h3⟩
    · exact .inl ho
    · exact .inr ⟨g, cap, cur, fz, hv, h1, (hg.block _ (Array.getElem?_eq_some_iff.1 h2).1).trans h2, h3⟩
  exact h.imp (key _) (key _)

theorem decode_tail (s : ByteArray) (pos : Nat) (h : pos < s.size) : Lib.decodeGo (s.extract pos s.size) = Utf8.decode s pos := by
  unfold Lib.decodeGo
  rw [if_neg (by rw [Lib.tail_size]; omega), Lib.tail_decode, Nat.add_zero]
theorem decode_fits (s : ByteArray) (pos : Nat) (h : pos < s.size) : pos + (Utf8.decode s pos).2 ≤ s.size := by
  have := Lib.decodeGo_le_size (s.extract pos s.size)
  rw [decode_tail s pos h, Lib.tail_size] at this
  omega

set_option maxRecDepth 100000 in
theorem quote_fn (x : Nat) (w : World) :
    Calls Tryd.prog 24 #[.int .i32 (x : Int)] w fun e w' => e = .returned (.bool (x == 32 || decide (127 < x))) ∧ Grew w w' := by
  by_cases h1 : x = 32
  · subst h1
    go_enter Tryd.func24, Tryd.ntmps24
    go_wp2
    go_ret
    exact ⟨rfl, Below.refl _ _⟩
  · have f1 : ((x : Int) == 32) = false := by rw [beq_eq_false_iff_ne]; omega
    have f2 : (x == 32) = false := by rw [beq_eq_false_iff_ne]; exact h1
    have f3 : decide (127 < x) = decide (127 < (x : Int)) := decide_eq_decide.2 (by omega)
    rw [f2, f3]
    go_enter Tryd.func24, Tryd.ntmps24
    go_wp2
    go_ret
    exact ⟨by simp, Below.refl _ _⟩

theorem any_blank (s : ByteArray) (w : World) :
    Calls Tryd.prog 23 #[.string s, .func (.func 24) #[] #[]] w fun e w' => e = .returned (.bool (!Pure.cleanP s.data.toList)) ∧ Grew w w' := by
  refine (Tryd.strings_ContainsFunc_grows 24 #[] (enters_of Tryd.func24 (by kernel_rfl) rfl) (fun r => r == 32 || decide (127 < r)) s w (fun W x _ _ => quote_fn x W)).mono ?_
  rintro e w' ⟨rfl, g⟩
  refine ⟨?_, g⟩
  rw [any_runes _ (fun c => c.toNat == 32 || decide (127 < c.toNat)) true (fun c _ => rfl) (fun r hr => by simp; omega) (fun c hc => by simp; omega)]
  have : s.data.toList.any (fun c => c.toNat == 32 || decide (127 < c.toNat)) = !Pure.cleanP s.data.toList := by
    unfold Pure.cleanP
    rw [List.all_eq_not_any_not]
    simp
  rw [this]

theorem index_at (s : ByteArray) (i j : Nat) (x : Int) (c : UInt8) (hij : (i : Int) + (j : Int) = x) (hc : s.data.toList[i + j]? = some c) (w : World) :
    (Instr.index 9 (.string s) (.int .i64 x)).run Tryd.prog w = .ok (.int .u8 (c.toNat : Int)) w := by
  subst hij
  exact index_str s (i + j) c hc w

end Go.Proofs.YtbdcncojiejdoaaDoor

/- strings.Cut at one byte. Conditions: at most 2^31 bytes. -/
import Derived.Test.YtkdmhflcpfekfaaDoorM1
import Derived.Test.YtkdmhflcpfekfaaDoorTabs
import Derived.Test.YtkdmhflcpfekfaaDoorShelf
namespace Go.Proofs.YtkdmhflcpfekfaaDoor
set_option linter.unusedVariables false
set_option linter.unusedSimpArgs false
open Go.RowKit

/-- What Cut at a byte leaves. -/
def CutPost (c : UInt8) (s : ByteArray) (w : World) (e : Ending) (w' : World) : Prop := Grew w w' ∧
  ((Pure.cutC c s.data.toList = none ∧ e = .returned (.tuple #[.string s, .string ⟨#[]⟩, .bool false])) ∨
   ∃ a b : ByteArray, Pure.cutC c s.data.toList = some (a.data.toList, b.data.toList) ∧ a.size + b.size + 1 = s.size ∧ e = .returned (.tuple #[.string a, .string b, .bool true]))

theorem strings_Cut1 (c : UInt8) (s : ByteArray) (w : World) (hs : s.size ≤ 2147483648) (hm : MaxOk w) :
    Calls Tryd.prog 46 #[.string s, .string ⟨#[c]⟩] w (CutPost c s w) := by
  obtain ⟨m, hm⟩ := hm
  refine (Tryd.strings_Cut s ⟨#[c]⟩ m w (by omega) hm).mono ?_
  rintro e w' ⟨rfl, n, rfl⟩
  refine ⟨Grew.drewN (Below.refl _ _) n, ?_⟩
  rw [Pure.cut_one]
  cases h : Pure.cutC c s.data.toList with
  | none => exact .inl ⟨rfl, rfl⟩
  | some x =>
    obtain ⟨a, b⟩ := x
    refine .inr ⟨⟨a.toArray⟩, ⟨b.toArray⟩, by simp, ?_, rfl⟩
    have := Pure.cutC_len h
    have hsl : s.data.toList.length = s.size := Array.length_toList
    show a.toArray.size + b.toArray.size + 1 = s.size
    simp
    omega

end Go.Proofs.YtkdmhflcpfekfaaDoor

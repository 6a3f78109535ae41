/- The laws of layer 3, walked: awake, QuotePaths. Conditions: the library's tables are laid. -/
import Derived.Test.YtbdcncojiejdoaaDoorQ2
import Derived.Test.YtbdcncojiejdoaaDoorQ3
import Derived.Test.YtbdcncojiejdoaaDoorQ7
namespace Go.Proofs.YtbdcncojiejdoaaDoor
set_option linter.unusedVariables false
set_option linter.unusedSimpArgs false
open Go.RowKit

theorem path_ab : Pure.pathP [97, 47, 98] = true := by decide +kernel
theorem path_aab : Pure.pathP [97, 47, 47, 98] = false := by decide +kernel
theorem quote_ab : Pure.quoteP [97, 32, 98] = [34, 97, 32, 98, 34] := by decide +kernel

set_option maxRecDepth 100000 in
theorem awake03 (w : World) (hm : MaxOk w) (hu : U8Ok w) (hF : FoldOk w) :
    Calls Tryd.prog 8 #[] w fun e w' => e = .returned (.bool true) ∧ Grew w w' := by
  have g0 : Grew w w := Below.refl _ _
  have c1 := fun W (g : Grew w W) => quote_Path ⟨#[97, 47, 98]⟩ W (by decide) (hm.grew g) (u8_grew hu g) (hF.grew g)
  have c2 := fun W (g : Grew w W) => quote_Path ⟨#[97, 47, 47, 98]⟩ W (by decide) (hm.grew g) (u8_grew hu g) (hF.grew g)
  have c3 := fun W (g : Grew w W) => quote_Quote ⟨#[97, 32, 98]⟩ W (by decide) (u8_grew hu g)
  simp only [path_ab] at c1
  simp only [path_aab] at c2
  simp only [quote_ab] at c3
  clear hm hu hF
  go_enter Tryd.func8, Tryd.ntmps8
  go_wp2_with (first | (go_at_call 9; with_reducible refine (c1 _ (by assumption)).mono ?_; rintro e1 W1 ⟨rfl, g1⟩; replace g1 := Grew.trans' (a := w) (by assumption) g1) | (go_at_call 9; with_reducible refine (c2 _ (by assumption)).mono ?_; rintro e1 W1 ⟨rfl, g1⟩; replace g1 := Grew.trans' (a := w) (by assumption) g1) | (go_at_call 13; with_reducible refine (c3 _ (by assumption)).mono ?_; rintro e1 W1 ⟨rfl, g1⟩; replace g1 := Grew.trans' (a := w) (by assumption) g1))
  go_ret
  exact ⟨rfl, by assumption⟩

set_option maxRecDepth 100000 in
theorem law_QuotePaths (s : ByteArray) (w : World) (hs : s.size ≤ 9223372036854775807) (hm : MaxOk w) (hu : U8Ok w) (hF : FoldOk w) :
    Calls Tryd.prog 3 #[.string s] w fun e w' => e = .returned (.bool true) ∧ Grew w w' := by
  have g0 : Grew w w := Below.refl _ _
  have ca := fun W (g : Grew w W) => awake03 W (hm.grew g) (u8_grew hu g) (hF.grew g)
  by_cases hl : 1000 < s.size
  · clear hm hu hF
    go_enter Tryd.func3, Tryd.ntmps3
    go_wp2_with (first | (go_at_call 8; with_reducible refine (ca _ (by assumption)).mono ?_; rintro e1 W1 ⟨rfl, g1⟩; replace g1 := Grew.trans' (a := w) (by assumption) g1))
    go_ret
    exact ⟨rfl, by assumption⟩
  have c1 := fun W (g : Grew w W) => quote_Path s W (by omega) (hm.grew g) (u8_grew hu g) (hF.grew g)
  have c2 := fun W (g : Grew w W) => ref_Path s W (by omega) (u8_grew hu g)
  have c3 := fun W (g : Grew w W) => quote_Plain s W (by omega)
  have c4 := fun W (g : Grew w W) => ref_Plain s W (by omega)
  generalize Pure.pathP s.data.toList = A at c1 c2
  generalize Pure.plainP s.data.toList = B at c3 c4
  have hA : (A == A) = true := by simp
  have hB : (B == B) = true := by simp
  clear hm hu hF
  go_enter Tryd.func3, Tryd.ntmps3
  go_wp2_with (first | (go_at_call 8; with_reducible refine (ca _ (by assumption)).mono ?_; rintro e1 W1 ⟨rfl, g1⟩; replace g1 := Grew.trans' (a := w) (by assumption) g1) | (go_at_call 9; with_reducible refine (c1 _ (by assumption)).mono ?_; rintro e1 W1 ⟨rfl, g1⟩; replace g1 := Grew.trans' (a := w) (by assumption) g1) | (go_at_call 10; with_reducible refine (c2 _ (by assumption)).mono ?_; rintro e1 W1 ⟨rfl, g1⟩; replace g1 := Grew.trans' (a := w) (by assumption) g1) | (go_at_call 11; with_reducible refine (c3 _ (by assumption)).mono ?_; rintro e1 W1 ⟨rfl, g1⟩; replace g1 := Grew.trans' (a := w) (by assumption) g1) | (go_at_call 12; with_reducible refine (c4 _ (by assumption)).mono ?_; rintro e1 W1 ⟨rfl, g1⟩; replace g1 := Grew.trans' (a := w) (by assumption) g1))
  go_ret
  exact ⟨by simp, by assumption⟩

end Go.Proofs.YtbdcncojiejdoaaDoor

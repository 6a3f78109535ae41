/- The law QuoteQuotes of layer 3, walked. Conditions: the library's tables are laid. -/
import Derived.Test.YtbdcncojiejdoaaDoorLaw03a
import Derived.Test.YtbdcncojiejdoaaDoorQ12
namespace Go.Proofs.YtbdcncojiejdoaaDoor
set_option linter.unusedVariables false
set_option linter.unusedSimpArgs false
open Go.RowKit

set_option maxRecDepth 100000 in
set_option maxHeartbeats 4000000 in
theorem law_QuoteQuotes (s t : ByteArray) (w : World) (hs0 : s.size ≤ 9223372036854775807) (hs1 : t.size ≤ 9223372036854775807) (hm : MaxOk w) (hu : U8Ok w) (hF : FoldOk w) :
    Calls Tryd.prog 6 #[.string s, .string t] w fun e w' => e = .returned (.bool true) ∧ Grew w w' := by
  have g0 : Grew w w := Below.refl _ _
  have cA := fun W (g : Grew w W) => awake03 W (hm.grew g) (u8_grew hu g) (hF.grew g)
  have ways : 1000 < s.size ∨ (s.size ≤ 1000 ∧ 1000 < t.size) ∨ (s.size ≤ 1000 ∧ t.size ≤ 1000) := by omega
  rcases ways with h | ⟨h, h'⟩ | ⟨h, h'⟩
  · have f1 : decide ((1000 : Int) < (s.size : Int)) = true := decide_eq_true (by omega)
    clear hm hu hF
    go_enter Tryd.func6, Tryd.ntmps6
    go_wp2_with (first | (go_at_call 8; with_reducible refine (cA _ (by assumption)).mono ?_; rintro e1 W1 ⟨rfl, g1⟩; replace g1 := Grew.trans' (a := w) (by assumption) g1))
    go_ret
    exact ⟨rfl, by assumption⟩
  · have f1 : decide ((1000 : Int) < (s.size : Int)) = false := decide_eq_false (by omega)
    have f2 : decide ((1000 : Int) < (t.size : Int)) = true := decide_eq_true (by omega)
    clear hm hu hF
    go_enter Tryd.func6, Tryd.ntmps6
    go_wp2_with (first | (go_at_call 8; with_reducible refine (cA _ (by assumption)).mono ?_; rintro e1 W1 ⟨rfl, g1⟩; replace g1 := Grew.trans' (a := w) (by assumption) g1))
    go_ret
    exact ⟨rfl, by assumption⟩
  · have f1 : decide ((1000 : Int) < (s.size : Int)) = false := decide_eq_false (by omega)
    have f2 : decide ((1000 : Int) < (t.size : Int)) = false := decide_eq_false (by omega)
    have cU := fun W (g : Grew w W) => quote_Unquote t W (by omega) (u8_grew hu g)
    have cR := fun W (g : Grew w W) => ref_Unquote t W (by omega)
    have cQ := fun W (g : Grew w W) => quote_Quote s W (by omega) (u8_grew hu g)
    have cP := fun W (g : Grew w W) => ref_Quote s W (by omega)
    unfold unqV at cU cR
    generalize (⟨(Pure.unqQ t.data.toList).1.toArray⟩ : ByteArray) = X at *
    generalize (Pure.unqQ t.data.toList).2.1 = N at *
    generalize (Pure.unqQ t.data.toList).2.2 = E at *
    generalize (⟨(Pure.quoteP s.data.toList).toArray⟩ : ByteArray) = Q at *
    clear hm hu hF
    go_enter Tryd.func6, Tryd.ntmps6
    go_wp2_with (first | (go_at_call 8; with_reducible refine (cA _ (by assumption)).mono ?_; rintro e1 W1 ⟨rfl, g1⟩; replace g1 := Grew.trans' (a := w) (by assumption) g1) | (go_at_call 14; with_reducible refine (cU _ (by assumption)).mono ?_; rintro e1 W1 ⟨rfl, g1⟩; replace g1 := Grew.trans' (a := w) (by assumption) g1) | (go_at_call 15; with_reducible refine (cR _ (by assumption)).mono ?_; rintro e1 W1 ⟨rfl, g1⟩; replace g1 := Grew.trans' (a := w) (by assumption) g1) | (go_at_call 13; with_reducible refine (cQ _ (by assumption)).mono ?_; rintro e1 W1 ⟨rfl, g1⟩; replace g1 := Grew.trans' (a := w) (by assumption) g1) | (go_at_call 16; with_reducible refine (cP _ (by assumption)).mono ?_; rintro e1 W1 ⟨rfl, g1⟩; replace g1 := Grew.trans' (a := w) (by assumption) g1))
    go_ret
    exact ⟨rfl, by assumption⟩

end Go.Proofs.YtbdcncojiejdoaaDoor

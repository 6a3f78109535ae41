/- The laws of layer 11, walked: awake, RefnameTells, RefnameLong: for any input the call returns true, and nothing that was there has changed. Conditions: the library's tables are laid. -/
import Derived.Test.YtgapnfalmdjlcaaDoorName4
namespace Go.Proofs.YtgapnfalmdjlcaaDoor
set_option linter.unusedVariables false
set_option linter.unusedSimpArgs false
open Go.RowKit

theorem right_heads_a : Pure.right [114, 101, 102, 115, 47, 104, 101, 97, 100, 115, 47, 97] = true := by decide +kernel
theorem right_a : Pure.right [97] = false := by decide +kernel
theorem branch_a : Pure.branch [97] = true := by decide +kernel

theorem right_str (l : List UInt8) (B : Bool) (h : Pure.right l = B) (hs : l.length ≤ 1099511627776) (w : World) (hm : MaxOk w) (hu : U8Ok w) :
    Calls Tryd.prog 8 #[.string ⟨l.toArray⟩] w fun e w' => e = .returned (.bool B) ∧ Grew w w' := by
  have := refname_Right ⟨l.toArray⟩ w hs hm hu
  rw [← h]
  exact this
theorem branch_str (l : List UInt8) (B : Bool) (h : Pure.branch l = B) (hs : l.length ≤ 549755813888) (w : World) (hm : MaxOk w) (hu : U8Ok w) :
    Calls Tryd.prog 10 #[.string ⟨l.toArray⟩] w fun e w' => e = .returned (.bool B) ∧ Grew w w' := by
  have := refname_Branch ⟨l.toArray⟩ w hs hm hu
  rw [← h]
  exact this

set_option maxRecDepth 100000 in
set_option maxHeartbeats 1000000 in
theorem awake11 (w : World) (hm : MaxOk w) (hu : U8Ok w) :
    Calls Tryd.prog 7 #[] w fun e w' => e = .returned (.bool true) ∧ Grew w w' := by
  have c1 := fun W g => right_str _ _ right_heads_a (by decide) W (hm.grew g) (u8_grew hu g)
  have c2 := fun W g => right_str _ _ right_a (by decide) W (hm.grew g) (u8_grew hu g)
  have c3 := fun W g => branch_str _ _ branch_a (by decide) W (hm.grew g) (u8_grew hu g)
  go_enter Tryd.func7, Tryd.ntmps7
  go_wp2_with (go_at_call 8; with_reducible refine (c1 _ (Below.refl _ _)).mono ?_; rintro e w1 ⟨rfl, g1⟩)
  go_wp2_with (go_at_call 8; with_reducible refine (c2 _ g1).mono ?_; rintro e w2 ⟨rfl, g2⟩)
  have g12 := Grew.trans' g1 g2
  go_wp2_with (go_at_call 10; with_reducible refine (c3 _ g12).mono ?_; rintro e w3 ⟨rfl, g3⟩)
  go_ret
  exact ⟨rfl, Grew.trans' g12 g3⟩

set_option maxRecDepth 100000 in
set_option maxHeartbeats 1000000 in
theorem law_RefnameTells (s : ByteArray) (w : World) (hs : s.size ≤ 9223372036854775807) (hm : MaxOk w) (hu : U8Ok w) :
    Calls Tryd.prog 3 #[.string s] w fun e w' => e = .returned (.bool true) ∧ Grew w w' := by
  by_cases hl : 500 < s.size
  · go_enter Tryd.func3, Tryd.ntmps3
    go_wp2_with (go_at_call 7; refine (awake11 _ hm hu).mono ?_; rintro e w1 ⟨rfl, g1⟩)
    go_ret
    exact ⟨rfl, g1⟩
  have c1 := fun W g => refname_Right s W (by omega) (hm.grew g) (u8_grew hu g)
  have c2 := fun W g => ref_Right s W (by omega) (u8_grew hu g)
  have c3 := fun W g => refname_Branch s W (by omega) (hm.grew g) (u8_grew hu g)
  have c4 := fun W g => ref_Branch s W (by omega) (u8_grew hu g)
  generalize Pure.right s.data.toList = A at c1 c2
  generalize Pure.branch s.data.toList = B at c3 c4
  have hA : (A == A) = true := by simp
  have hB : (B == B) = true := by simp
  have ca := awake11 w hm hu
  clear hm hu
  go_enter Tryd.func3, Tryd.ntmps3
  go_wp2_with (go_at_call 7; refine ca.mono ?_; rintro e w1 ⟨rfl, g1⟩)
  go_wp2_with (go_at_call 8; with_reducible refine (c1 _ g1).mono ?_; rintro e w2 ⟨rfl, g2⟩)
  have g12 := Grew.trans' g1 g2
  go_wp2_with (go_at_call 9; with_reducible refine (c2 _ g12).mono ?_; rintro e w3 ⟨rfl, g3⟩)
  have g13 := Grew.trans' g12 g3
  go_wp2_with (go_at_call 10; with_reducible refine (c3 _ g13).mono ?_; rintro e w4 ⟨rfl, g4⟩)
  have g14 := Grew.trans' g13 g4
  go_wp2_with (go_at_call 11; with_reducible refine (c4 _ g14).mono ?_; rintro e w5 ⟨rfl, g5⟩)
  go_ret
  exact ⟨by simp, Grew.trans' g14 g5⟩

end Go.Proofs.YtgapnfalmdjlcaaDoor

/- refname.Branch and the reference's Branch tell which texts are names of branches. Conditions: the library's tables are laid, the text is at most 2^39 bytes long. -/
import Derived.Test.YtdiimbaibfmadaaDoorName2
import Derived.Test.YtdiimbaibfmadaaDoorName3
namespace Go.Proofs.YtdiimbaibfmadaaDoor
set_option linter.unusedVariables false
set_option linter.unusedSimpArgs false
open Go.RowKit

theorem append_list (a b : ByteArray) : (a ++ b).data.toList = a.data.toList ++ b.data.toList := by simp
theorem heads_list (s : ByteArray) : ((⟨#[114, 101, 102, 115, 47, 104, 101, 97, 100, 115, 47]⟩ : ByteArray) ++ s).data.toList = Pure.headsL ++ s.data.toList := by rw [append_list]; rfl

set_option maxRecDepth 100000 in
set_option maxHeartbeats 1000000 in
theorem refname_Branch (s : ByteArray) (w : World) (hs : s.size ≤ 549755813888) (hm : MaxOk w) (hu : U8Ok w) :
    Calls Tryd.prog 16 #[.string s] w fun e w' => e = .returned (.bool (Pure.branch s.data.toList)) ∧ Grew w w' := by
  have c1 := Tryd.strings_HasPrefix s ⟨#[45]⟩ w
  have c2 := refname_Right (⟨#[114, 101, 102, 115, 47, 104, 101, 97, 100, 115, 47]⟩ ++ s) w (by rw [ByteArray.size_append]; show 11 + s.size ≤ _; omega) hm hu
  rw [heads_list] at c2
  simp only at c1
  unfold Pure.branch
  generalize Lib.hasPrefix s.data.toList [45] = A at c1 ⊢
  generalize Pure.right (Pure.headsL ++ s.data.toList) = B at c2 ⊢
  cases A with
  | true =>
    go_enter Tryd.func16, Tryd.ntmps16
    go_wp2_with (go_at_call 17; refine c1.mono ?_; rintro e w1 ⟨rfl, rfl⟩)
    go_ret
    exact ⟨rfl, Below.refl _ _⟩
  | false =>
    go_enter Tryd.func16, Tryd.ntmps16
    go_wp2_with (go_at_call 17; refine c1.mono ?_; rintro e w1 ⟨rfl, rfl⟩)
    go_wp2_with (go_at_call 14; refine c2.mono ?_; rintro e w2 ⟨rfl, g⟩)
    go_ret
    exact ⟨rfl, g⟩

set_option maxRecDepth 100000 in
set_option maxHeartbeats 1000000 in
theorem ref_Branch (s : ByteArray) (w : World) (hs : s.size ≤ 549755813888) (hu : U8Ok w) :
    Calls Tryd.prog 9 #[.string s] w fun e w' => e = .returned (.bool (Pure.branch s.data.toList)) ∧ Grew w w' := by
  have c1 := fun W => help_Begins s ⟨#[45]⟩ W
  have c2 := ref_Right (⟨#[114, 101, 102, 115, 47, 104, 101, 97, 100, 115, 47]⟩ ++ s) w (by rw [ByteArray.size_append]; show 11 + s.size ≤ _; omega) hu
  rw [heads_list] at c2
  simp only at c1
  unfold Pure.branch
  generalize Lib.hasPrefix s.data.toList [45] = A at c1 ⊢
  generalize Pure.right (Pure.headsL ++ s.data.toList) = B at c2 ⊢
  cases B with
  | false =>
    go_enter Tryd.func9, Tryd.ntmps9
    go_wp2_with (go_at_call 13; refine c2.mono ?_; rintro e w1 ⟨rfl, g⟩)
    go_ret
    exact ⟨by simp, g⟩
  | true =>
    go_enter Tryd.func9, Tryd.ntmps9
    go_wp2_with (go_at_call 13; refine c2.mono ?_; rintro e w1 ⟨rfl, g⟩)
    go_wp2_with (go_at_call 18; refine (c1 _).mono ?_; rintro e w2 ⟨rfl, rfl⟩)
    go_ret
    exact ⟨by simp, g⟩

end Go.Proofs.YtdiimbaibfmadaaDoor

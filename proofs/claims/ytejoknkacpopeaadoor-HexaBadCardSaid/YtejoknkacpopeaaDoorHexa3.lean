/- hexa.digit and the reference's digit tell what a digit of 16 says. Conditions: none. -/
import Derived.Test.YtejoknkacpopeaaDoorWords
import Derived.Test.YtejoknkacpopeaaDoorPure01
namespace Go.Proofs.YtejoknkacpopeaaDoor
set_option linter.unusedVariables false
set_option linter.unusedSimpArgs false
open Go.RowKit

theorem hexa_digit_ok (r v : Int) (h : (48 ≤ r ∧ r ≤ 57 ∧ r - 48 = v) ∨ (97 ≤ r ∧ r ≤ 102 ∧ r - 87 = v)) (w : World) :
    Calls Tryd.prog 24 #[.int .i32 r] w fun e w' => e = .returned (.tuple #[.int .u8 v, .bool true]) ∧ w = w' := by
  rcases h with ⟨h1, h2, rfl⟩ | ⟨h1, h2, rfl⟩
  · go_enter Tryd.func24, Tryd.ntmps24
    go_wp2
    go_ret2
    exact ⟨rfl, rfl⟩
  · go_enter Tryd.func24, Tryd.ntmps24
    go_wp2
    go_ret2
    exact ⟨by congr 5; simp [IntKind.wrap_u8]; omega, rfl⟩

theorem hexa_digit_no (r : Int) (h : ¬ ((48 ≤ r ∧ r ≤ 57) ∨ (97 ≤ r ∧ r ≤ 102))) (w : World) :
    Calls Tryd.prog 24 #[.int .i32 r] w fun e w' => e = .returned (.tuple #[.int .u8 0, .bool false]) ∧ w = w' := by
  go_enter Tryd.func24, Tryd.ntmps24
  go_wp2
  all_goals (go_ret2; exact ⟨rfl, rfl⟩)

/-- What the reference's digit answers. -/
def digitZ (c : Int) : Int := if 48 ≤ c ∧ c ≤ 57 then c - 48 else if 97 ≤ c ∧ c ≤ 102 then c - 87 else -1

theorem ref_digit (c : Int) (h0 : 0 ≤ c) (h1 : c < 256) (w : World) :
    Calls Tryd.prog 25 #[.int .u8 c] w fun e w' => e = .returned (.int .i64 (digitZ c)) ∧ w = w' := by
  by_cases a : 48 ≤ c ∧ c ≤ 57
  · have e : digitZ c = c - 48 := by unfold digitZ; rw [if_pos a]
    rw [e]; clear e
    obtain ⟨a1, a2⟩ := a
    go_enter Tryd.func25, Tryd.ntmps25
    go_wp2
    go_ret
    exact ⟨rfl, rfl⟩
  by_cases b : 97 ≤ c ∧ c ≤ 102
  · have e : digitZ c = c - 87 := by unfold digitZ; rw [if_neg a, if_pos b]
    rw [e]; clear e a
    obtain ⟨a1, a2⟩ := b
    go_enter Tryd.func25, Tryd.ntmps25
    go_wp2
    go_ret
    exact ⟨ret_int (by omega), rfl⟩
  · have e : digitZ c = -1 := by unfold digitZ; rw [if_neg a, if_neg b]
    rw [e]; clear e
    go_enter Tryd.func25, Tryd.ntmps25
    go_wp2
    all_goals (go_ret; exact ⟨rfl, rfl⟩)

end Go.Proofs.YtejoknkacpopeaaDoor

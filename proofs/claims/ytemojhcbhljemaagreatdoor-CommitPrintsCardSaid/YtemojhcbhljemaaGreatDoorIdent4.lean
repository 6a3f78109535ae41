/- The reference's Right: which idents may be. Conditions: the decoder's tables are laid; names of at most 2^40 bytes. -/
import Derived.Test.YtemojhcbhljemaaGreatDoorIdent3
namespace Go.Proofs.YtemojhcbhljemaaGreatDoor
set_option linter.unusedVariables false
set_option linter.unusedSimpArgs false
open Go.RowKit

set_option maxRecDepth 100000 in
set_option maxHeartbeats 4000000 in
theorem ref_RightNW (i : Idn) (w : World) (hn : i.name.size ≤ 9223372036854775807) (he : i.email.size ≤ 9223372036854775807) (hu : U8Ok w) :
    Calls Tryz.prog 35 #[.agg i.cells.toArray] w fun e w' => e = .returned (.bool (rightN i)) ∧ Grew w w' := by
  obtain ⟨V0, hV0, gw0, g0, q0, q1, q2, q3⟩ := boxedN w i
  have cN := fun W (g : Grew V0 W) => ref_wordW i.name W hn (u8_grew hu (gw0.trans' g))
  have cE := fun W (g : Grew V0 W) => ref_wordW i.email W he (u8_grew hu (gw0.trans' g))
  unfold rightN zonedP
  generalize calledP i.name.data.toList = A at *
  generalize calledP i.email.data.toList = B at *
  clear hu
  obtain ⟨b1, h1⟩ : ∃ b, decide (0 ≤ i.when) = b := ⟨_, rfl⟩
  obtain ⟨b2, h2⟩ : ∃ b, decide (i.when ≤ 1099511627775) = b := ⟨_, rfl⟩
  obtain ⟨b3, h3⟩ : ∃ b, decide (-840 ≤ i.zone) = b := ⟨_, rfl⟩
  obtain ⟨b4, h4⟩ : ∃ b, decide (i.zone ≤ 840) = b := ⟨_, rfl⟩
  rw [h1, h2, h3, h4]
  cases A <;> cases B <;> cases b1 <;> cases b2 <;> cases b3 <;> cases b4
  all_goals
    go_enter Tryz.func35, Tryz.ntmps35
    go_wp2_with (first | (go_at_call 57; with_reducible refine (cN _ (by assumption)).mono ?_; rintro e1 W1 ⟨rfl, g1⟩; replace g1 := Grew.trans' (a := V0) (by assumption) g1) | (go_at_call 57; with_reducible refine (cE _ (by assumption)).mono ?_; rintro e1 W1 ⟨rfl, g1⟩; replace g1 := Grew.trans' (a := V0) (by assumption) g1))
    go_ret
    exact ⟨rfl, gw0.trans' (by assumption)⟩
theorem ref_RightN (i : Idn) (w : World) (hn : i.name.size ≤ 1099511627776) (he : i.email.size ≤ 1099511627776) (hu : U8Ok w) :
    Calls Tryz.prog 35 #[.agg i.cells.toArray] w fun e w' => e = .returned (.bool (rightN i)) ∧ Grew w w' := ref_RightNW i w (by omega) (by omega) hu

end Go.Proofs.YtemojhcbhljemaaGreatDoor

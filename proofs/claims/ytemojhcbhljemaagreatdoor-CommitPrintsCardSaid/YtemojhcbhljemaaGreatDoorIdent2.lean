/- ident.zoned, ident.Right and the reference's barred, word, Right: which idents may be. Conditions: the decoder's tables are laid; names of at most 2^40 bytes. -/
import Derived.Test.YtemojhcbhljemaaGreatDoorIdent1
import Derived.Test.YtemojhcbhljemaaGreatDoorM1
import Derived.Outline
namespace Go.Proofs.YtemojhcbhljemaaGreatDoor
set_option linter.unusedVariables false
set_option linter.unusedSimpArgs false
open Go.RowKit

set_option maxRecDepth 100000 in
theorem ident_zoned (z : Int) (w : World) :
    Calls Tryz.prog 55 #[.int .i64 z] w fun e w' => e = .returned (.bool (zonedP z)) ∧ w = w' := by
  unfold zonedP
  by_cases h1 : -840 ≤ z <;> by_cases h2 : z ≤ 840
  all_goals
    go_enter Tryz.func55, Tryz.ntmps55
    go_wp2
    go_ret
    exact ⟨by simp [h1, h2], rfl⟩

/-- A variable that holds an ident, made in a block of its own. -/
theorem boxedN (w : World) (i : Idn) : ∃ W0, w.alloc (.cells i.cells.toArray 26) = W0 ∧ Grew w W0 ∧ Grew W0 W0 ∧ (∀ W, Grew W0 W → W.cell? ⟨w.heap.size, 0, none⟩ = some (.string i.name)) ∧ (∀ W, Grew W0 W → W.cell? ⟨w.heap.size, 1, none⟩ = some (.string i.email)) ∧ (∀ W, Grew W0 W → W.cell? ⟨w.heap.size, 2, none⟩ = some (.int .i64 i.when)) ∧ (∀ W, Grew W0 W → W.cell? ⟨w.heap.size, 3, none⟩ = some (.int .i64 i.zone)) := by
  obtain ⟨W0, hW0, g0, g00, hq⟩ := boxed w i.cells.toArray 26
  exact ⟨W0, hW0, g0, g00, fun W g => hq W g 0 _ rfl, fun W g => hq W g 1 _ rfl, fun W g => hq W g 2 _ rfl, fun W g => hq W g 3 _ rfl⟩

set_option maxRecDepth 100000 in
set_option maxHeartbeats 1000000 in
theorem ident_RightW (i : Idn) (w : World) (hn : i.name.size ≤ 9223372036854775807) (he : i.email.size ≤ 9223372036854775807) (hu : U8Ok w) :
    Calls Tryz.prog 33 #[.agg i.cells.toArray] w fun e w' => e = .returned (.bool (rightN i)) ∧ Grew w w' := by
  obtain ⟨V0, hV0, gw0, g0, q0, q1, q2, q3⟩ := boxedN w i
  have cN := fun W (g : Grew V0 W) => ident_calledW i.name W hn (u8_grew hu (gw0.trans' g))
  have cE := fun W (g : Grew V0 W) => ident_calledW i.email W he (u8_grew hu (gw0.trans' g))
  have cZ := fun W => ident_zoned i.zone W
  unfold rightN
  generalize calledP i.name.data.toList = A at *
  generalize calledP i.email.data.toList = B at *
  generalize zonedP i.zone = Z at *
  clear hu
  obtain ⟨b1, h1⟩ : ∃ b, decide (0 ≤ i.when) = b := ⟨_, rfl⟩
  obtain ⟨b2, h2⟩ : ∃ b, decide (i.when ≤ 1099511627775) = b := ⟨_, rfl⟩
  rw [h1, h2]
  cases b1 <;> cases b2 <;> cases A <;> cases B <;> cases Z
  all_goals
    go_enter Tryz.func33, Tryz.ntmps33
    go_wp2_with (first | (go_at_call 54; with_reducible refine (cN _ (by assumption)).mono ?_; rintro e1 W1 ⟨rfl, g1⟩; replace g1 := Grew.trans' (a := V0) (by assumption) g1) | (go_at_call 54; with_reducible refine (cE _ (by assumption)).mono ?_; rintro e1 W1 ⟨rfl, g1⟩; replace g1 := Grew.trans' (a := V0) (by assumption) g1) | (go_at_call 55; with_reducible refine (cZ _).mono ?_; rintro e1 W1 ⟨rfl, h1⟩; subst W1))
    go_ret
    exact ⟨rfl, gw0.trans' (by assumption)⟩
theorem ident_Right (i : Idn) (w : World) (hn : i.name.size ≤ 1099511627776) (he : i.email.size ≤ 1099511627776) (hu : U8Ok w) :
    Calls Tryz.prog 33 #[.agg i.cells.toArray] w fun e w' => e = .returned (.bool (rightN i)) ∧ Grew w w' := ident_RightW i w (by omega) (by omega) hu

end Go.Proofs.YtemojhcbhljemaaGreatDoor

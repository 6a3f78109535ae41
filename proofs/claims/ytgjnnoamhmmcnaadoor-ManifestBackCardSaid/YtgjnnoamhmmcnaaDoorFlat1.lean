/- flat.byPath. Conditions: at most 2^30 bytes. -/
import Derived.Test.YtgjnnoamhmmcnaaDoorFlat0
import Derived.Test.YtgjnnoamhmmcnaaDoorShelf
import Derived.Test.YtgjnnoamhmmcnaaDoorTabs
namespace Go.Proofs.YtgjnnoamhmmcnaaDoor
set_option linter.unusedVariables false
set_option linter.unusedSimpArgs false
open Go.RowKit

/-- A file in a block of its own. -/
theorem boxedF (w : World) (x : Fil) : ∃ W0, w.alloc (.cells x.cells.toArray 28) = W0 ∧ Grew w W0 ∧ Grew W0 W0 ∧ (∀ W, Grew W0 W → W.cell? ⟨w.heap.size, 0, none⟩ = some (.string x.path)) ∧ (∀ W, Grew W0 W → W.cell? ⟨w.heap.size, 1, none⟩ = some (.int .i64 x.mode)) ∧ (∀ W, Grew W0 W → W.rangeAt w.heap.size 0 x.cells) := by
  obtain ⟨W0, h0, h1, h2, h3⟩ := boxedG kFile w x
  refine ⟨W0, h0, h1, h2, fun W g => (fil_range (h3 W g)).1, fun W g => by have := (fil_range (h3 W g)).2.1; simpa using this, h3⟩

set_option maxRecDepth 100000 in
theorem flat_byPath (a b : Fil) (w : World) :
    Calls Tryd.prog 44 #[.agg a.cells.toArray, .agg b.cells.toArray] w fun e w' => e = .returned (.int .i64 (Lib.compareBytes a.p b.p)) ∧ Grew w w' := by
  obtain ⟨V0, hV0, gw0, g0, q0, -, r0⟩ := boxedF w a
  obtain ⟨V, hV, g0V, gVV, q1, -, r1⟩ := boxedF V0 b
  have qa := q0 V g0V
  have qb := q1 V gVV
  have cc := Tryd.strings_Compare a.path b.path V
  clear q0 q1 r0 r1
  go_enter Tryd.func44, Tryd.ntmps44
  go_wp2_with (first | (go_at_call 54; with_reducible refine cc.mono ?_; rintro e9 W9 ⟨rfl, h9⟩; subst W9))
  go_ret
  exact ⟨rfl, gw0.trans' g0V⟩

end Go.Proofs.YtgjnnoamhmmcnaaDoor

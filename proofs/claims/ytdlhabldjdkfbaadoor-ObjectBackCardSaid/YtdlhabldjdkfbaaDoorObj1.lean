/- object.Word and the reference's Word: what a kind is called. Conditions: none. -/
import Derived.Test.YtdlhabldjdkfbaaDoorWords2
import Derived.Test.YtdlhabldjdkfbaaDoorPure07
import Derived.Stop.Asserts
namespace Go.Proofs.YtdlhabldjdkfbaaDoor
set_option linter.unusedVariables false
set_option linter.unusedSimpArgs false
open Go.RowKit

theorem asBlob (v : Value) (w : World) : (Instr.typeAssert (.iface 72 v) 20 56 true).run Tryd.prog w = .ok (.tuple #[.iface 72 v, .bool true]) w := run_typeAssert_hasB Tryd.underlying56 (by kernel_rfl) v _ w
theorem asTree (v : Value) (w : World) : (Instr.typeAssert (.iface 73 v) 20 56 true).run Tryd.prog w = .ok (.tuple #[.iface 73 v, .bool true]) w := run_typeAssert_hasB Tryd.underlying56 (by kernel_rfl) v _ w
theorem asCommit (v : Value) (w : World) : (Instr.typeAssert (.iface 74 v) 20 56 true).run Tryd.prog w = .ok (.tuple #[.iface 74 v, .bool true]) w := run_typeAssert_hasB Tryd.underlying56 (by kernel_rfl) v _ w
theorem asNone (w : World) : (Instr.typeAssert .nilIface 20 56 true).run Tryd.prog w = .ok (.tuple #[.nilIface, .bool false]) w := by kernel_rfl

theorem mBlob (n : Nat) (w : World) : (method (n + 1) 72 (.agg #[]) "trestle/object.word").run Tryd.prog w = .ok (78, .agg #[]) w := by kernel_rfl
theorem mTree (n : Nat) (w : World) : (method (n + 1) 73 (.agg #[]) "trestle/object.word").run Tryd.prog w = .ok (79, .agg #[]) w := by kernel_rfl
theorem mCommit (n : Nat) (w : World) : (method (n + 1) 74 (.agg #[]) "trestle/object.word").run Tryd.prog w = .ok (80, .agg #[]) w := by kernel_rfl

set_option maxRecDepth 100000 in
set_option maxHeartbeats 1000000 in
theorem object_Word (k : Int) (w : World) :
    Calls Tryd.prog 18 #[.int .i64 k] w fun e w' => e = .returned (.string ⟨(Pure.wordO k).toArray⟩) ∧ Grew w w' := by
  have t1 := asBlob
  have t2 := asTree
  have t3 := asCommit
  have t4 := asNone
  have m1 := mBlob
  have m2 := mTree
  have m3 := mCommit
  by_cases h1 : k = 1
  · subst h1
    go_enter Tryd.func18, Tryd.ntmps18
    go_wp2
    go_ret
    exact ⟨rfl, by first | exact Below.refl _ _ | exact (Below.refl _ _).alloc (Nat.le_refl _) _⟩
  by_cases h2 : k = 2
  · subst h2
    go_enter Tryd.func18, Tryd.ntmps18
    go_wp2
    go_ret
    exact ⟨rfl, by first | exact Below.refl _ _ | exact (Below.refl _ _).alloc (Nat.le_refl _) _⟩
  by_cases h3 : k = 3
  · subst h3
    go_enter Tryd.func18, Tryd.ntmps18
    go_wp2
    go_ret
    exact ⟨rfl, by first | exact Below.refl _ _ | exact (Below.refl _ _).alloc (Nat.le_refl _) _⟩
  have f1 : (k == 1) = false := beq_eq_false_iff_ne.2 h1
  have f2 : (k == 2) = false := beq_eq_false_iff_ne.2 h2
  have f3 : (k == 3) = false := beq_eq_false_iff_ne.2 h3
  have hw : Pure.wordO k = [] := by unfold Pure.wordO; rw [if_neg h1, if_neg h2, if_neg h3]
  rw [hw]
  clear hw h1 h2 h3
  go_enter Tryd.func18, Tryd.ntmps18
  go_wp2
  go_ret
  exact ⟨rfl, by first | exact Below.refl _ _ | exact (Below.refl _ _).alloc (Nat.le_refl _) _⟩

set_option maxRecDepth 100000 in
set_option maxHeartbeats 1000000 in
theorem ref07_Word (k : Int) (w : World) :
    Calls Tryd.prog 19 #[.int .i64 k] w fun e w' => e = .returned (.string ⟨(Pure.wordO k).toArray⟩) ∧ Grew w w' := by
  have hw : Pure.wordO k = if (k == 1) = true then [98, 108, 111, 98] else if (k == 2) = true then [116, 114, 101, 101] else if (k == 3) = true then [99, 111, 109, 109, 105, 116] else [] := by unfold Pure.wordO; simp only [beq_iff_eq]
  rw [hw]
  clear hw
  cases h1 : (k == 1) <;> cases h2 : (k == 2) <;> cases h3 : (k == 3)
  all_goals
    go_enter Tryd.func19, Tryd.ntmps19
    go_wp2
    go_ret
    exact ⟨rfl, Below.refl _ _⟩

end Go.Proofs.YtdlhabldjdkfbaaDoor

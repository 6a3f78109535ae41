/- A map from names to numbers that a call has made itself: which names it has. No function of the program. -/
import Derived.Test.YtgjnnoamhmmcnaaDoorM1
import Derived.Maps.OwnSet
import Derived.StringKeys
namespace Go.Proofs.YtgjnnoamhmmcnaaDoor
set_option linter.unusedVariables false
set_option linter.unusedSimpArgs false
open Go.RowKit
open Go.Maps (Keyed string_keyed)
open Go.ChangeMaps

theorem keyedS : Keyed Tryd.prog 9 := string_keyed Tryd.underlying9
theorem zeroInt (w : World) : (zeroValue 3).run Tryd.prog w = .ok (.int .i64 0) w := by kernel_rfl

/-- Block b is a map whose keys are S, of at most n entries. -/
def NameSet (w : World) (b n : Nat) (S : List (List UInt8)) : Prop :=
  ∃ D : DataW Unit, w.ownsMap Tryd.prog 9 (plainElem Tryd.prog 3) b n D ∧ ∀ l : List UInt8, Maps.has D (.string l) = S.contains l

theorem NameSet.made (w : World) : NameSet (w.alloc (.map #[] 0)) w.heap.size 0 [] :=
  ⟨_, World.ownsMap_made w Tryd.prog 9 _, fun l => by rfl⟩
theorem NameSet.lt {w : World} {b n : Nat} {S : List (List UInt8)} (h : NameSet w b n S) : b < w.heap.size := by obtain ⟨D, hD, _⟩ := h; exact hD.lt
theorem NameSet.grew {w w' : World} {b n : Nat} {S : List (List UInt8)} (h : NameSet w b n S) (g : Grew w w') : NameSet w' b n S := by
  obtain ⟨D, ⟨es, clock, hb, rest⟩, hS⟩ := h
  exact ⟨D, ⟨es, clock, (g.block b (Array.getElem?_eq_some_iff.1 hb).1).trans hb, rest⟩, hS⟩
theorem NameSet.look {w : World} {b n : Nat} {S : List (List UInt8)} (h : NameSet w b n S) (s : ByteArray) (hs : s.size ≤ 9223372036854775807) :
    ∃ c : Int, (Instr.lookup 69 (.map (some b)) (.string s) true).run Tryd.prog w = .ok (.tuple #[.int .i64 c, .bool (S.contains s.data.toList)]) w := by
  obtain ⟨D, hD, hS⟩ := h
  obtain ⟨v, ps, hrun, hv⟩ := hD.look_ok keyedS Tryd.underlying69 (zeroInt w) (plainElem_int Tryd.underlying3 (by decide)) (Go.WideMaps.keyOf_string_mk Tryd.underlying9 (s := s) (by unfold maxLen; exact hs))
  obtain ⟨c, rfl, -, -⟩ := plainElem_int_inv Tryd.underlying3 hv
  exact ⟨c, by rw [hrun, hS]⟩
theorem NameSet.put {w : World} {b n : Nat} {S : List (List UInt8)} (h : NameSet w b n S) (hn : n < 9223372036854775807) (s : ByteArray) (hs : s.size ≤ 9223372036854775807) (i : Int) (hi : (Lit.int .i64 i).wf = true) :
    ∃ w', (Instr.mapUpdate 69 (.map (some b)) (.string s) (.int .i64 i)).run Tryd.prog w = .ok () w' ∧ NameSet w' b (n + 1) (s.data.toList :: S) ∧ w.grownBy w' (some b) := by
  obtain ⟨D, hD, hS⟩ := h
  have hm := hD.isMap
  obtain ⟨w', hrun, h2, h3⟩ := hD.update keyedS Tryd.underlying69 (by unfold maxLen; exact hn) (Go.WideMaps.keyOf_string_mk Tryd.underlying9 (s := s) (by unfold maxLen; exact hs)) (plainElem_int Tryd.underlying3 hi)
  refine ⟨w', hrun, ⟨_, h2, fun l => ?_⟩, h3⟩
  rw [List.contains_cons]
  by_cases e : l = s.data.toList
  · subst e
    rw [Maps.has_put_same hm (by first | trivial | simp [WideAt.IsKeyLit])]
    simp
  · rw [Maps.has_put_other (fun h => e (by cases h; rfl)), hS]
    simp [e]
/-- m[s] = i at the operation. -/
theorem wpList_put_set {ops : Array Oper} {rest : List Oper} {o : Oper} {a : Act} {w : World} {Q : Exit → Act → World → Prop} (hg : o.guard = none) (m x v : Operand) (hop : o.op = .mapUpdate 69 m x v) (b n : Nat) (S : List (List UInt8)) (h : NameSet w b n S)
    (hn : n < 9223372036854775807) (s : ByteArray) (i : Int) (hm : a.eval m = .map (some b)) (hx : a.eval x = .string s) (hv : a.eval v = .int .i64 i) (hs : s.size ≤ 9223372036854775807) (hi : (Lit.int .i64 i).wf = true)
    (hK : ∀ w', NameSet w' b (n + 1) (s.data.toList :: S) → w.grownBy w' (some b) → wpList Tryd.prog ops Q rest (a.put o.dst undef) w') : wpList Tryd.prog ops Q (o :: rest) a w := by
  refine wpList_plain hg fun K' hK' => ?_
  obtain ⟨w', hrun, r1, r2⟩ := h.put hn s hs i hi
  unfold Oper.wp
  simp [execOp, hop, hm, hx, hv, hrun, Result.andThen]
  exact hK' _ _ (hK w' r1 r2)

end Go.Proofs.YtgjnnoamhmmcnaaDoor

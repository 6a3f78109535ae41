/- Steps of a region whose last operations store. No function of the program. -/
import Derived.Test.YtemojhcbhljemaaGreatDoorM1
import Derived.StillTailTactics
import Derived.BigQuiet
namespace Go.Proofs.YtemojhcbhljemaaGreatDoor
set_option linter.unusedVariables false
set_option linter.unusedSimpArgs false
open Go.RowKit

theorem wpStill_load_row {P : Program} {ops : Array Oper} {rest : List Oper} {op : Oper} {a : Act} {w : World} {Q : Act → Prop} (hgd : op.guard = none) (ty : TypeId) (x : Operand) (ho : op.op = .load ty x)
    (b o : Nat) (hx : a.eval x = .pointer (some ⟨b, o, none⟩)) (cs : List Value) (d : TypeDesc) (hc : w.rangeAt b o cs) (hu : P.underlying ty = some d) (hd : d.isRow = true) (hi : (P.info? ty).map (·.size) = some cs.length)
    (h : wpStill P ops w Q rest (a.put op.dst (.agg cs.toArray))) : wpStill P ops w Q (op :: rest) a := by
  refine wpStill_step fun K hK => ?_
  have hw : Region.wanted op (yielded ops a.tmps) = true := by simp [Region.wanted, hgd]
  rw [if_pos hw]
  unfold Oper.still execOp
  simp only [ho, hx, Instr.loadAt, Instr.sureAddr, Sem.run_bind, Sem.run_pure, Result.andThen_ok, run_loadVar_mid w b o ty cs d hc hu hd hi, Oper.stillUpon]
  exact ⟨trivial, hK _ h⟩
/-- A fresh variable of several cells gets its value: its block. -/
theorem wpList_store_newH {P : Program} {ops : Array Oper} {rest : List Oper} {op : Oper} {a : Act} {w : World} {Q : Exit → Act → World → Prop} (hgd : op.guard = none) (ty : TypeId) (x y : Operand) (ho : op.op = .store ty x y) (w0 : World) (zs : Array Value) (hw : w = w0.alloc (.cells zs ty)) (cells : List Value)
    (hx : a.eval x = .pointer (some ⟨w0.heap.size, 0, none⟩)) (hy : a.eval y = .agg cells.toArray) (hsz : zs.size = cells.length) (hi : (P.info? ty).map (·.size) = some cells.length) (h1 : ∀ v ∈ cells, v.oneCell' = true)
    (h : ∀ W', Grew w0 W' → W'.heap.size = w0.heap.size + 1 → W'.heap[w0.heap.size]? = some (.cells cells.toArray ty (0, 0)) → wpList P ops Q rest (a.put op.dst undef) W') : wpList P ops Q (op :: rest) a w := by
  subst hw
  refine wpList_store_row hgd ty x y ho w0.heap.size cells.toArray hx hy ty zs (heap_alloc_new w0 _) (by simpa using hi) (by simpa using hsz) (all_oneCell_toArray h1) ?_
  exact h _ (below_setRow ((Below.refl _ _).alloc (Nat.le_refl _) _) (Nat.le_refl _) _) (by simp) (setRow_heap (w0.alloc (.cells zs ty)) w0.heap.size zs cells.toArray ty (0, 0) (heap_alloc_new w0 _))

end Go.Proofs.YtemojhcbhljemaaGreatDoor

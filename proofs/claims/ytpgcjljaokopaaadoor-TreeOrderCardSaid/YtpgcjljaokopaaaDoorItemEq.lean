/- Items held against each other by == and !=. Conditions: none. -/
import Derived.Test.YtpgcjljaokopaaaDoorItem
import Derived.Test.YtpgcjljaokopaaaDoorIds
import Derived.Laws.StructEq
namespace Go.Proofs.YtpgcjljaokopaaaDoor
set_option linter.unusedVariables false
set_option linter.unusedSimpArgs false
open Go.RowKit

/-- Are two items alike? -/
def eqI (a b : Itm) : Bool := a.mode == b.mode && (a.name.toList == b.name.toList && a.id == b.id)
theorem eqI_iff (a b : Itm) : eqI a b = true ↔ a = b := by
  obtain ⟨m, n, i⟩ := a
  obtain ⟨m', n', i'⟩ := b
  unfold eqI
  simp only [Bool.and_eq_true, beq_iff_eq, Itm.mk.injEq]
  constructor
  · rintro ⟨h1, h2, h3⟩
    refine ⟨h1, ?_, h3⟩
    rw [ByteArray.toList_eq, ByteArray.toList_eq] at h2
    cases n with | mk n => cases n' with | mk n' => exact congrArg ByteArray.mk (Array.toList_inj.1 h2)
  · rintro ⟨h1, h2, h3⟩
    exact ⟨h1, by rw [h2], h3⟩
theorem eqI_refl (a : Itm) : eqI a a = true := (eqI_iff a a).2 rfl

theorem heldItem : Tryd.prog.stoodInHeld 25 = false := by kernel_rfl
theorem fieldsItem : Tryd.prog.underlying 25 = some (.struct (Tryd.prog.fieldsOf 25)) := by kernel_rfl
theorem part_mode (i : Itm) (w : World) : (part 3 i.cells.toArray 0).run Tryd.prog w = .ok (.int .i64 i.mode) w := by
  simp [part, go_sem, Itm.cells]
theorem part_name (i : Itm) (w : World) : (part 9 i.cells.toArray 1).run Tryd.prog w = .ok (.string i.name) w := by
  simp [part, go_sem, Itm.cells]
theorem id_extract (i : Itm) (h : i.id.length = 20) : i.cells.toArray.extract 2 22 = (Lib.byteCells i.id).toArray := by
  have hl := i.len h
  apply Array.ext'
  simp only [Array.toList_extract, List.extract_eq_take_drop]
  have : i.cells.drop 2 = Lib.byteCells i.id := rfl
  rw [this, List.take_of_length_le (by rw [Lib.byteCells_length]; omega)]
theorem part_id (i : Itm) (h : i.id.length = 20) (w : World) : (part 23 i.cells.toArray 2).run Tryd.prog w = .ok (.agg (Lib.byteCells i.id).toArray) w := by
  have h1 : (sizeOf 23).run Tryd.prog w = .ok 20 w := by kernel_rfl
  have h2 : (isAgg 23).run Tryd.prog w = .ok true w := by kernel_rfl
  unfold part
  simp only [Sem.run_bind, h2, Result.andThen_ok, if_true, h1, Sem.run_pure]
  rw [id_extract i h]

theorem run_eqIdN (d : Nat) (a b : List UInt8) (ha : a.length = 20) (hb : b.length = 20) (w : World) :
    (Op.equalIn (d + 2) 23 (.agg (Lib.byteCells a).toArray) (.agg (Lib.byteCells b).toArray)).run Tryd.prog w = .ok (a == b) w := by
  obtain ⟨i0, hi, -, -, -⟩ := info_parts infoU8'
  rw [run_equalIn_array w (d + 1) _ _ Tryd.underlying23 hi, cellsOfU8, eqItems_bytes d a b w _ (fun i hi => by rw [List.mem_range] at hi; omega), all_eq a b ha hb]
theorem fieldsOf_of {P : Program} {t : TypeId} {fs : Array Field} (h : P.underlying t = some (.struct (P.fieldsOf t))) (h2 : P.underlying t = some (.struct fs)) : P.fieldsOf t = fs := by
  rw [h] at h2
  exact TypeDesc.struct.inj (Option.some.inj h2)

theorem run_eqItem (a b : Itm) (ia : a.id.length = 20) (ib : b.id.length = 20) (w : World) :
    (Op.equalIn 10000 25 (.agg a.cells.toArray) (.agg b.cells.toArray)).run Tryd.prog w = .ok (eqI a b) w := by
  rw [run_equalIn_struct w 9999 _ _ _ fieldsItem heldItem, fieldsOf_of fieldsItem Tryd.underlying25]
  have e1 := fun w => run_equalIn_int (P := Tryd.prog) w 9998 3 .i64 .i64 a.mode b.mode Tryd.underlying3
  have e2 := fun w => run_equalIn_string (P := Tryd.prog) w 9998 9 a.name b.name Tryd.underlying9
  have e3 := fun w => run_eqIdN 9997 a.id b.id ia ib w
  simp only [Nat.reduceAdd] at e1 e2 e3
  simp only [Op.eqFields, Sem.run_bind, part_mode, part_name, part_id a ia, part_id b ib, Result.andThen_ok, e1, e2, e3, ne_eq, String.reduceEq, not_false_eq_true, if_true, Sem.run_ite, Sem.run_pure]
  unfold eqI
  cases (a.mode == b.mode) <;> cases (a.name.toList == b.name.toList) <;> cases (a.id == b.id) <;> rfl

theorem itemEqGuard : Tryd.prog.eqGuardType Tryd.prog.depth 25 = false := by kernel_rfl
theorem eql_item (a b : Itm) (ha : a.id.length = 20) (hb : b.id.length = 20) (w : World) :
    (binOp .eql 25 (.agg a.cells.toArray) (.agg b.cells.toArray)).run Tryd.prog w = .ok (.bool (eqI a b)) w := by
  rw [run_eql_struct, run_eqItem a b ha hb]; rfl
theorem neq_item (a b : Itm) (ha : a.id.length = 20) (hb : b.id.length = 20) (w : World) :
    (binOp .neq 25 (.agg a.cells.toArray) (.agg b.cells.toArray)).run Tryd.prog w = .ok (.bool (!(eqI a b))) w := by
  rw [run_neq_struct, run_eqItem a b ha hb]; rfl
theorem guard_item (op : BinOp) (x y : Operand) (a b : Itm) (w : World) :
    (eqGuard op 25 x y (.agg a.cells.toArray) (.agg b.cells.toArray)).run Tryd.prog w = .ok () w :=
  run_eqGuard_agg w op _ x y _ _ itemEqGuard

end Go.Proofs.YtpgcjljaokopaaaDoor

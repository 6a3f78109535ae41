/- Idents held against each other by == and !=. Conditions: none. -/
import Derived.Test.YtemojhcbhljemaaGreatDoorIdent1
import Derived.Laws.StructEq
namespace Go.Proofs.YtemojhcbhljemaaGreatDoor
set_option linter.unusedVariables false
set_option linter.unusedSimpArgs false
open Go.RowKit

/-- Are two idents alike? -/
def eqN (a b : Idn) : Bool := (a.name.toList == b.name.toList) && ((a.email.toList == b.email.toList) && (a.when == b.when && a.zone == b.zone))
theorem bytes_ext {n n' : ByteArray} (h : n.toList = n'.toList) : n = n' := by
  rw [ByteArray.toList_eq, ByteArray.toList_eq] at h
  cases n with | mk n => cases n' with | mk n' => exact congrArg ByteArray.mk (Array.toList_inj.1 h)
theorem eqN_iff (a b : Idn) : eqN a b = true ↔ a = b := by
  obtain ⟨n, e, x, z⟩ := a
  obtain ⟨n', e', x', z'⟩ := b
  unfold eqN
  simp only [Bool.and_eq_true, beq_iff_eq, Idn.mk.injEq]
  constructor
  · rintro ⟨h1, h2, h3, h4⟩
    exact ⟨bytes_ext h1, bytes_ext h2, h3, h4⟩
  · rintro ⟨h1, h2, h3, h4⟩
    exact ⟨by rw [h1], by rw [h2], h3, h4⟩
theorem eqN_refl (a : Idn) : eqN a a = true := (eqN_iff a a).2 rfl

theorem heldIdn : Tryz.prog.stoodInHeld 26 = false := by kernel_rfl
theorem fieldsIdn : Tryz.prog.underlying 26 = some (.struct (Tryz.prog.fieldsOf 26)) := by kernel_rfl
theorem part_n0 (i : Idn) (w : World) : (part 9 i.cells.toArray 0).run Tryz.prog w = .ok (.string i.name) w := by
  simp [part, go_sem, Idn.cells]
theorem part_n1 (i : Idn) (w : World) : (part 9 i.cells.toArray 1).run Tryz.prog w = .ok (.string i.email) w := by
  simp [part, go_sem, Idn.cells]
theorem part_n2 (i : Idn) (w : World) : (part 2 i.cells.toArray 2).run Tryz.prog w = .ok (.int .i64 i.when) w := by
  simp [part, go_sem, Idn.cells]
theorem part_n3 (i : Idn) (w : World) : (part 3 i.cells.toArray 3).run Tryz.prog w = .ok (.int .i64 i.zone) w := by
  simp [part, go_sem, Idn.cells]
theorem fieldsOf_ofN {P : Program} {t : TypeId} {fs : Array Field} (h : P.underlying t = some (.struct (P.fieldsOf t))) (h2 : P.underlying t = some (.struct fs)) : P.fieldsOf t = fs := by
  rw [h] at h2
  exact TypeDesc.struct.inj (Option.some.inj h2)
theorem run_eqIdn (a b : Idn) (w : World) :
    (Op.equalIn 10000 26 (.agg a.cells.toArray) (.agg b.cells.toArray)).run Tryz.prog w = .ok (eqN a b) w := by
  rw [run_equalIn_struct w 9999 _ _ _ fieldsIdn heldIdn, fieldsOf_ofN fieldsIdn Tryz.underlying26]
  have e1 := fun w => run_equalIn_string (P := Tryz.prog) w 9998 9 a.name b.name Tryz.underlying9
  have e2 := fun w => run_equalIn_string (P := Tryz.prog) w 9998 9 a.email b.email Tryz.underlying9
  have e3 := fun w => run_equalIn_int (P := Tryz.prog) w 9998 2 .i64 .i64 a.when b.when Tryz.underlying2
  have e4 := fun w => run_equalIn_int (P := Tryz.prog) w 9998 3 .i64 .i64 a.zone b.zone Tryz.underlying3
  simp only [Nat.reduceAdd] at e1 e2 e3 e4
  simp only [Op.eqFields, Sem.run_bind, part_n0, part_n1, part_n2, part_n3, Result.andThen_ok, e1, e2, e3, e4, ne_eq, String.reduceEq, not_false_eq_true, if_true, Sem.run_ite, Sem.run_pure]
  unfold eqN
  cases (a.name.toList == b.name.toList) <;> cases (a.email.toList == b.email.toList) <;> cases (a.when == b.when) <;> cases (a.zone == b.zone) <;> rfl

theorem idnEqGuard : Tryz.prog.eqGuardType Tryz.prog.depth 26 = false := by kernel_rfl
theorem eql_idn (a b : Idn) (w : World) :
    (binOp .eql 26 (.agg a.cells.toArray) (.agg b.cells.toArray)).run Tryz.prog w = .ok (.bool (eqN a b)) w := by
  rw [run_eql_struct, run_eqIdn a b]; rfl
theorem guard_idn (op : BinOp) (x y : Operand) (a b : Idn) (w : World) :
    (eqGuard op 26 x y (.agg a.cells.toArray) (.agg b.cells.toArray)).run Tryz.prog w = .ok () w :=
  run_eqGuard_agg w op _ x y _ _ idnEqGuard

end Go.Proofs.YtemojhcbhljemaaGreatDoor

/- Ids (arrays of twenty bytes) held against each other by == and !=: as their bytes are. Conditions: none. -/
import Derived.Test.YtemojhcbhljemaaDoorWords2
import Derived.ChangeKeysEq
import Derived.Laws.StructEq
namespace Go.Proofs.YtemojhcbhljemaaDoor
set_option linter.unusedVariables false
set_option linter.unusedSimpArgs false
open Go.RowKit

theorem cellsOfU8 : Tryd.prog.cellsOf 5 = 1 := by kernel_rfl

theorem part_byte (l : List UInt8) (i : Nat) (hi : i < l.length) (w : World) :
    (part 5 (Lib.byteCells l).toArray i).run Tryd.prog w = .ok (.int .u8 ((l[i]).toNat : Int)) w := by
  have h : (Lib.byteCells l).toArray[i]? = some (.int .u8 ((l[i]).toNat : Int)) := by
    simp [byteCells_getElem?, List.getElem?_eq_getElem hi]
  simp [part, go_sem, h]

theorem eqItems_bytes (d : Nat) (a b : List UInt8) (w : World) : ∀ is : List Nat, (∀ i ∈ is, i < a.length ∧ i < b.length) →
    (Op.eqItems (d + 1) 5 1 (Lib.byteCells a).toArray (Lib.byteCells b).toArray is).run Tryd.prog w = .ok (is.all fun i => a[i]? == b[i]?) w
  | [], _ => by simp [Op.eqItems]
  | i :: is, h => by
    obtain ⟨h1, h2⟩ := h i (by simp)
    have ih := eqItems_bytes d a b w is (fun j hj => h j (by simp [hj]))
    simp only [Op.eqItems, Nat.mul_one, Sem.run_bind, part_byte a i h1, part_byte b i h2, Result.andThen_ok, run_equalIn_int w d 5 .u8 .u8 _ _ Tryd.underlying5]
    have e : (((a[i]).toNat : Int) == ((b[i]).toNat : Int)) = (a[i]? == b[i]?) := by
      rw [List.getElem?_eq_getElem h1, List.getElem?_eq_getElem h2, Bool.eq_iff_iff]
      simp only [beq_iff_eq, Option.some.injEq]
      constructor
      · intro h; exact UInt8.toNat_inj.1 (by omega)
      · intro h; rw [h]
    rw [e]
    cases hq : (a[i]? == b[i]?)
    · simp [hq]
    · simp [hq, ih]

theorem all_eq (a b : List UInt8) (ha : a.length = 20) (hb : b.length = 20) : ((List.range 20).all fun i => a[i]? == b[i]?) = (a == b) := by
  rw [Bool.eq_iff_iff]
  simp only [List.all_eq_true, List.mem_range, beq_iff_eq]
  constructor
  · intro h
    apply List.ext_getElem?
    intro i
    by_cases hi : i < 20
    · exact h i hi
    · rw [List.getElem?_eq_none (by omega), List.getElem?_eq_none (by omega)]
  · rintro rfl _ _; rfl

theorem run_eqId (a b : List UInt8) (ha : a.length = 20) (hb : b.length = 20) (w : World) :
    (Op.equalIn 10000 26 (.agg (Lib.byteCells a).toArray) (.agg (Lib.byteCells b).toArray)).run Tryd.prog w = .ok (a == b) w := by
  obtain ⟨i0, hi, -, -, -⟩ := info_parts infoU8'
  rw [run_equalIn_array w 9999 _ _ Tryd.underlying26 hi, cellsOfU8, eqItems_bytes 9998 a b w _ (fun i hi => by rw [List.mem_range] at hi; omega), all_eq a b ha hb]

theorem idEqGuard : Tryd.prog.eqGuardType Tryd.prog.depth 26 = false := by kernel_rfl

theorem eql_id (a b : List UInt8) (ha : a.length = 20) (hb : b.length = 20) (w : World) :
    (binOp .eql 26 (.agg (Lib.byteCells a).toArray) (.agg (Lib.byteCells b).toArray)).run Tryd.prog w = .ok (.bool (a == b)) w := by
  rw [run_eql_struct, run_eqId a b ha hb]; rfl
theorem neq_id (a b : List UInt8) (ha : a.length = 20) (hb : b.length = 20) (w : World) :
    (binOp .neq 26 (.agg (Lib.byteCells a).toArray) (.agg (Lib.byteCells b).toArray)).run Tryd.prog w = .ok (.bool (!(a == b))) w := by
  rw [run_neq_struct, run_eqId a b ha hb]; rfl
theorem guard_id (op : BinOp) (x y : Operand) (a b : List UInt8) (w : World) :
    (eqGuard op 26 x y (.agg (Lib.byteCells a).toArray) (.agg (Lib.byteCells b).toArray)).run Tryd.prog w = .ok () w :=
  run_eqGuard_agg w op _ x y _ _ idEqGuard

end Go.Proofs.YtemojhcbhljemaaDoor

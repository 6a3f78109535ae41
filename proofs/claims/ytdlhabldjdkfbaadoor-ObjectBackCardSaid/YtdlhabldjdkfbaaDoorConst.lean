/- Rows of bytes that a text of the program lays: a constant's bytes, and make. No function of the program. -/
import Derived.Test.YtdlhabldjdkfbaaDoorBuf
import Derived.Lib.SlBytesConst
namespace Go.Proofs.YtdlhabldjdkfbaaDoor
set_option linter.unusedVariables false
set_option linter.unusedSimpArgs false
open Go.RowKit

/-- The row of a constant's bytes. -/
theorem const_row (w : World) (l : List UInt8) (C : Array Value) (n : Nat) (fz : Nat × Nat) (hC : C = (Lib.byteCells l).toArray) (hn : l.length = n) (hf : n ≤ fz.1) (hl : l.length ≤ 9223372036854775807) :
    ∃ W1, w.alloc (.cells C 5 fz) = W1 ∧ Grew w W1 ∧ Rd W1 (some ⟨w.heap.size, 0, none⟩) l ∧ ∀ base, base ≤ w.heap.size → OwnB W1 base (.slice (some ⟨w.heap.size, 0, none⟩) n n) l := by
  subst hn
  subst hC
  have hb := heap_alloc_new w (.cells (Lib.byteCells l).toArray 5 fz)
  refine ⟨_, rfl, (Below.refl _ _).alloc (Nat.le_refl _) _, ?_, fun base hbase => ?_⟩
  · refine .inr ⟨_, 0, rfl, (Array.getElem?_eq_some_iff.1 hb).1, fun i hi => ?_⟩
    rw [cell_of_row _ _ _ _ _ _ hb, Nat.zero_add, List.getElem?_toArray, byteCells_getElem?, List.getElem?_eq_getElem hi, List.getD_eq_getElem?_getD, List.getElem?_eq_getElem hi]
    rfl
  · exact .inr ⟨_, l.length, _, fz, rfl, hbase, hb, .inr hf, Nat.le_refl _, by unfold maxLen; exact hl, by rw [List.size_toArray, Lib.byteCells_length], by
      rw [List.take_of_length_le]
      simp [Lib.byteCells_length]⟩

theorem conv_const : ∀ (w : World) (C : Array Value) (n c : Nat), (convert 22 22 (.slice (some ⟨w.heap.size, 0, none⟩) n c)).run Tryd.prog (w.alloc (.cells C 5)) = .ok (.slice (some ⟨w.heap.size, 0, none⟩) n c) (w.alloc (.cells C 5 (C.size, C.size + 1))) :=
  fun w C n c => Lib.run_convert_bytes_const w 22 5 C n c Tryd.underlying22 Tryd.underlying5

/-- make([]byte, n). -/
theorem make_zeros (n : Nat) (m : Int) (hm : (n : Int) = m) (hn : n ≤ 140737488355328) (w : World) : ∃ L : List UInt8, L.length = n ∧ (∀ c ∈ L, c = 0) ∧ ∃ W1, (Instr.makeSlice 22 (.int .i64 m) (.int .i64 m)).run Tryd.prog w = .ok (.slice (some ⟨w.heap.size, 0, none⟩) n n) W1 ∧
    Grew w W1 ∧ Rd W1 (some ⟨w.heap.size, 0, none⟩) L ∧ ∀ base, base ≤ w.heap.size → OwnB W1 base (.slice (some ⟨w.heap.size, 0, none⟩) n n) L := by
  subst hm
  obtain ⟨i0, hi, hz0, hz1, hz2⟩ := infoB
  have h := run_make (P := Tryd.prog) w 22 5 i0 (.int .u8 0) Tryd.underlying22 hi hz0 .i64 .i64 (n : Int) (n : Int) (by omega) (by omega) (by rw [hz2]; omega) (by omega)
  have hC : madeCells (Value.int .u8 0).cells n = (Lib.byteCells (List.replicate n (0 : UInt8))).toArray := by
    have hf : (fun x : Nat => (Value.int .u8 0).cells[x % (Value.int .u8 0).cells.size]!) = fun _ => Value.int .u8 0 := by
      funext x
      have : x % (Value.int .u8 0).cells.size = 0 := Nat.mod_one _
      rw [this]
      rfl
    show (Array.range n).map (fun x : Nat => (Value.int .u8 0).cells[x % (Value.int .u8 0).cells.size]!) = _
    rw [hf]
    apply Array.ext'
    simp [Lib.byteCells, List.map_const']
  obtain ⟨W1, hW1, g1, r1, o1⟩ := const_row w (List.replicate n (0 : UInt8)) _ n (n, n) rfl List.length_replicate (Nat.le_refl _) (by rw [List.length_replicate]; omega)
  have hb := heap_alloc_new w (.cells (Lib.byteCells (List.replicate n (0 : UInt8))).toArray 5)
  refine ⟨List.replicate n 0, List.length_replicate, fun c hc => List.eq_of_mem_replicate hc, _, by rw [h, hz1, Int.toNat_natCast, Nat.mul_one, hC], (Below.refl _ _).alloc (Nat.le_refl _) _, ?_, fun base hbase => ?_⟩
  · refine .inr ⟨_, 0, rfl, (Array.getElem?_eq_some_iff.1 hb).1, fun i hi => ?_⟩
    rw [cell_of_row _ _ _ _ _ _ hb, Nat.zero_add, List.getElem?_toArray, byteCells_getElem?, List.getElem?_eq_getElem hi, List.getD_eq_getElem?_getD, List.getElem?_eq_getElem hi]
    rfl
  · exact .inr ⟨_, n, _, (0, 0), by rw [List.length_replicate], hbase, hb, .inl (Nat.zero_le _), by rw [List.length_replicate]; exact Nat.le_refl _, by unfold maxLen; omega, by rw [List.size_toArray, Lib.byteCells_length, List.length_replicate], by
      rw [List.take_of_length_le]
      simp [Lib.byteCells_length]⟩

end Go.Proofs.YtdlhabldjdkfbaaDoor

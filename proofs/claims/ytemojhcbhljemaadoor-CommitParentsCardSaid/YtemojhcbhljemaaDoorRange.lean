/- Rows of cells in memory (structs, arrays, slices of them): read, laid anew. No function of the program. -/
import Derived.Test.YtemojhcbhljemaaDoorWords2
import Derived.Test.YtemojhcbhljemaaDoorTabs0
import Derived.Laws.Tables
namespace Go.Proofs.YtemojhcbhljemaaDoor
set_option linter.unusedVariables false
set_option linter.unusedSimpArgs false
open Go.RowKit

theorem range_grew {w w' : World} {b o : Nat} {cs : List Value} (h : w.rangeAt b o cs) (g : Grew w w') : w'.rangeAt b o cs := fun j v hv => cell_grew (h j v hv) g
theorem range_lt {w : World} {b o : Nat} {cs : List Value} (h : w.rangeAt b o cs) (h0 : 0 < cs.length) : b < w.heap.size :=
  cell_lt (h 0 _ (List.getElem?_eq_getElem h0))
theorem range_drop {w : World} {b o : Nat} {cs : List Value} (h : w.rangeAt b o cs) (k : Nat) : w.rangeAt b (o + k) (cs.drop k) := by
  intro j v hv
  rw [List.getElem?_drop] at hv
  rw [Nat.add_assoc]
  exact h _ v hv
theorem range_pre {w : World} {b o : Nat} {cs ds : List Value} (h : w.rangeAt b o (cs ++ ds)) : w.rangeAt b o cs := by
  intro j v hv
  refine h j v ?_
  rw [List.getElem?_append_left (List.getElem?_eq_some_iff.1 hv).1]
  exact hv
theorem range_suf {w : World} {b o : Nat} {cs ds : List Value} (h : w.rangeAt b o (cs ++ ds)) : w.rangeAt b (o + cs.length) ds := by
  have := range_drop h cs.length
  rwa [List.drop_left'] at this
  rfl
theorem range_app {w : World} {b o : Nat} {cs ds : List Value} (h : w.rangeAt b o cs) (k : w.rangeAt b (o + cs.length) ds) : w.rangeAt b o (cs ++ ds) := by
  intro j v hv
  by_cases hj : j < cs.length
  · rw [List.getElem?_append_left hj] at hv
    exact h j v hv
  · rw [List.getElem?_append_right (by omega)] at hv
    have := k _ v hv
    rwa [Nat.add_assoc, Nat.add_sub_cancel' (by omega)] at this

/-- A fresh variable of several cells gets its value: what is known behind it. -/
theorem wpList_store_new {P : Program} {ops : Array Oper} {rest : List Oper} {op : Oper} {a : Act} {w : World} {Q : Exit → Act → World → Prop} (hgd : op.guard = none) (ty : TypeId) (x y : Operand) (ho : op.op = .store ty x y) (w0 : World) (zs : Array Value) (hw : w = w0.alloc (.cells zs ty)) (cells : List Value)
    (hx : a.eval x = .pointer (some ⟨w0.heap.size, 0, none⟩)) (hy : a.eval y = .agg cells.toArray) (hsz : zs.size = cells.length) (hi : (P.info? ty).map (·.size) = some cells.length) (h1 : ∀ v ∈ cells, v.oneCell' = true)
    (h : ∀ W', Grew w0 W' → Grew W' W' → (∀ W, Grew W' W → W.rangeAt w0.heap.size 0 cells) → (∀ W, Grew W' W → ∀ j, W.frozen? ⟨w0.heap.size, j, none⟩ = false) → w0.heap.size < W'.heap.size → wpList P ops Q rest (a.put op.dst undef) W') : wpList P ops Q (op :: rest) a w := by
  subst hw
  refine wpList_store_row hgd ty x y ho w0.heap.size cells.toArray hx hy ty zs (heap_alloc_new w0 _) (by simpa using hi) (by simpa using hsz) (all_oneCell_toArray h1) ?_
  have hb := setRow_heap (w0.alloc (.cells zs ty)) w0.heap.size zs cells.toArray ty (0, 0) (heap_alloc_new w0 _)
  refine h _ (below_setRow ((Below.refl _ _).alloc (Nat.le_refl _) _) (Nat.le_refl _) _) (Below.refl _ _) (fun W g => range_grew ?_ g) (fun W g j => ?_) (by simp)
  · have := range_row hb
    simpa using this
  · have h2 := (g.block w0.heap.size (Array.getElem?_eq_some_iff.1 hb).1).trans hb
    simp [World.frozen?, h2]

/-- What is written to another block, and new blocks, leave a row. -/
theorem range_grown {w w' : World} {b o : Nat} {cs : List Value} {row : Option Nat} (h : w.rangeAt b o cs) (hg : w.grownBy w' row) (hne : row ≠ some b) : w'.rangeAt b o cs := by
  intro j v hv
  have h1 := h j v hv
  have hb := cell_lt h1
  unfold World.cell? at h1 ⊢
  rw [hg.block b hb (fun e => hne e.symm)]
  exact h1
theorem cell_grown {w w' : World} {p : Addr} {v : Value} {row : Option Nat} (h : w.cell? p = some v) (hg : w.grownBy w' row) (hne : row ≠ some p.block) : w'.cell? p = some v := by
  have hb := cell_lt h
  unfold World.cell? at h ⊢
  rw [hg.block p.block hb (fun e => hne e.symm)]
  exact h
/-- Bytes of a row, read as bytes. -/
theorem rd_range {w : World} {b o : Nat} {l : List UInt8} (h : w.rangeAt b o (Lib.byteCells l)) : Rd w (some ⟨b, o, none⟩) l := by
  by_cases h0 : l = []
  · exact .inl h0
  · refine .inr ⟨b, o, rfl, range_lt h (by rw [Lib.byteCells_length]; exact List.length_pos_iff.2 h0), fun i hi => h i _ ?_⟩
    rw [byteCells_getElem?, List.getElem?_eq_getElem hi, List.getD_eq_getElem?_getD, List.getElem?_eq_getElem hi]
    rfl

/-- A variable of several cells gets its value, in a region that draws. -/
theorem step_store_at {P : Program} {ops : Array Oper} {op : Oper} {a : Act} {w : World} {K : Act → World → Prop} {Q : Exit → Act → World → Prop} {E : Prop} (hgd : op.guard = none) (ty : TypeId) (x y : Operand) (ho : op.op = .store ty x y) (g : Nat) (old : Array Value) (t : TypeId) (cells : List Value)
    (hx : a.eval x = .pointer (some ⟨g, 0, none⟩)) (hy : a.eval y = .agg cells.toArray) (hg : w.heap[g]? = some (.cells old t (0, 0))) (hsz : old.size = cells.length) (hi : (P.info? ty).map (·.size) = some cells.length) (h1 : ∀ v ∈ cells, v.oneCell' = true)
    (h : ∀ w', w'.heap[g]? = some (.cells cells.toArray t (0, 0)) → w.grownBy w' (some g) → w'.heap.size = w.heap.size → K (a.put op.dst undef) w') : if Region.wanted op (yielded ops a.tmps) = true then Oper.wp P op a w K Q else E := by
  have hw : Region.wanted op (yielded ops a.tmps) = true := by simp [Region.wanted, hgd]
  rw [if_pos hw]
  exact wp_store_row ty x y ho g cells.toArray hx hy t old hg (by simpa using hi) (by simpa using hsz) (all_oneCell_toArray h1) (h _ (setRow_heap w g old cells.toArray t (0, 0) hg) ⟨rfl, rfl, rfl, by simp, fun k _ hk => setRow_other w g k _ (fun e => hk (by simp [e]))⟩ (by simp))

end Go.Proofs.YtemojhcbhljemaaDoor

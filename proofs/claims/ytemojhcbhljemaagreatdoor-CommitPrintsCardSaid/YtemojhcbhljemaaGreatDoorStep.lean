/- Steps of a region that draws, for whatever values. No function of the program. -/
import Derived.Test.YtemojhcbhljemaaGreatDoorM1
import Derived.Maps.AppendAt
namespace Go.Proofs.YtemojhcbhljemaaGreatDoor
set_option linter.unusedVariables false
set_option linter.unusedSimpArgs false
open Go.RowKit

/-- An operation whose run is known, in a region that draws. -/
theorem stepRun {P : Program} {ops : Array Oper} {o : Oper} {a : Act} {w : World} {K : Act → World → Prop} {Q : Exit → Act → World → Prop} {E : Prop} (hgd : o.guard = none) (v : Value) (w' : World) (hr : (execOp a.eval o).run P w = .ok (.value v) w') (h : K (a.put o.dst v) w') :
    if Region.wanted o (yielded ops a.tmps) = true then Oper.wp P o a w K Q else E := by
  have hw : Region.wanted o (yielded ops a.tmps) = true := by simp [Region.wanted, hgd]
  rw [if_pos hw]
  unfold Oper.wp
  rw [hr]
  exact h
theorem execBuild {P : Program} {o : Oper} {ρ : Operand → Value} {w : World} (t : TypeId) (ps : List (Nat × Operand)) (ho : o.op = .build t ps.toArray) (v : Value) (h : (Instr.build t (ps.map fun y => (y.1, ρ y.2)).toArray).run P w = .ok v w) : (execOp ρ o).run P w = .ok (.value v) w := by
  unfold execOp
  rw [ho]
  simp only [Sem.run_bind, List.map_toArray, h, Result.andThen_ok, Sem.run_pure]
theorem execBuildSlice {P : Program} {o : Oper} {ρ : Operand → Value} {w w' : World} (t : TypeId) (n : Nat) (ps : List (Nat × Operand)) (ho : o.op = .buildSlice t n ps.toArray) (v : Value) (h : (Instr.buildSlice t n (ps.map fun y => (y.1, ρ y.2)).toArray).run P w = .ok v w') : (execOp ρ o).run P w = .ok (.value v) w' := by
  unfold execOp
  rw [ho]
  simp only [Sem.run_bind, List.map_toArray, h, Result.andThen_ok, Sem.run_pure]
/-- An operation whose run is known. -/
theorem wpListExec {P : Program} {ops : Array Oper} {rest : List Oper} {o : Oper} {a : Act} {w : World} {Q : Exit → Act → World → Prop} (hgd : o.guard = none) (v : Value) (w' : World) (hr : (execOp a.eval o).run P w = .ok (.value v) w') (h : wpList P ops Q rest (a.put o.dst v) w') : wpList P ops Q (o :: rest) a w :=
  wpList_plain hgd fun K hK => by
    unfold Oper.wp
    rw [hr]
    exact hK _ _ h
/-- Several cells are read, in a region that draws. -/
theorem stepLoadAt {P : Program} {ops : Array Oper} {op : Oper} {a : Act} {w : World} {K : Act → World → Prop} {Q : Exit → Act → World → Prop} {E : Prop} (hgd : op.guard = none) (ty : TypeId) (x : Operand) (ho : op.op = .load ty x)
    (b o : Nat) (hx : a.eval x = .pointer (some ⟨b, o, none⟩)) (cs : List Value) (d : TypeDesc) (hc : w.rangeAt b o cs) (hu : P.underlying ty = some d) (hd : d.isRow = true) (hi : (P.info? ty).map (·.size) = some cs.length)
    (h : K (a.put op.dst (.agg cs.toArray)) w) : if Region.wanted op (yielded ops a.tmps) = true then Oper.wp P op a w K Q else E := by
  have hw : Region.wanted op (yielded ops a.tmps) = true := by simp [Region.wanted, hgd]
  rw [if_pos hw]
  exact wp_load_mid ty x ho b o hx cs d hc hu hd hi h
/-- A row of several cells is written into a block, in a region that draws. -/
theorem stepStoreG {P : Program} {ops : Array Oper} {op : Oper} {a : Act} {w : World} {K : Act → World → Prop} {Q : Exit → Act → World → Prop} {E : Prop} (hgd : op.guard = none) (ty : TypeId) (x y : Operand) (ho : op.op = .store ty x y) (g o : Nat) (t : TypeId) (old : Array Value) (cells : List Value)
    (hx : a.eval x = .pointer (some ⟨g, o, none⟩)) (hy : a.eval y = .agg cells.toArray) (hg : w.heap[g]? = some (.cells old t (0, 0))) (hfit : o + cells.length ≤ old.size) (hi : (P.info? ty).map (·.size) = some cells.length) (h1 : ∀ v ∈ cells, v.oneCell' = true)
    (h : K (a.put op.dst undef) (w.setRow g (old.toList.take o ++ cells ++ old.toList.drop (o + cells.length)).toArray)) : if Region.wanted op (yielded ops a.tmps) = true then Oper.wp P op a w K Q else E := by
  have hw : Region.wanted op (yielded ops a.tmps) = true := by simp [Region.wanted, hgd]
  rw [if_pos hw]
  unfold Oper.wp execOp
  simp only [ho, hx, hy, Instr.storeAt, Instr.sureAddr, Sem.run_bind, Sem.run_pure, Result.andThen_ok, run_storeVar_G w g o ty t old cells hg hfit hi h1]
  exact h
/-- append(v, x), and where the new slice lies. -/
theorem own_append_Gat {α : Type} (K : Kd α) (ty : TypeId) (w : World) (base : Nat) (v : Value) (l : List α) (x : α) (g : Nat) (hown : OwnG K w base v l) (hok : K.ok x) (hr : w.rangeAt g 0 (K.cells x)) (hbase : base ≤ w.heap.size) (h63 : l.length ≤ 1073741824) :
    ∃ v' w', (Builtin.append_ #[K.T, K.T] ty #[v, .slice (some ⟨g, 0, none⟩) 1 1]).run Tryz.prog w = .ok v' w' ∧ OwnG K w' base v' (l ++ [x]) ∧ Below base w w' ∧ w.grownBy w' v.ownBlock ∧ (v'.ownBlock = v.ownBlock ∨ v'.ownBlock = some w.heap.size) := by
  obtain ⟨i0, hi, hz0, hz1, hz2⟩ := info_parts K.info
  obtain ⟨v', w', h1, h2, h3, -, h5⟩ := run_append_own_at (P := Tryz.prog) w base K.T ty K.E i0 K.zero K.n K.bytes K.und hi hz0 hz1 hz2 K.hz K.hn v l.length (K.row l) hown.2 ⟨g, 0, none⟩ 1 1 (K.cells x) (by rw [K.hlen x hok, Nat.one_mul])
    (fun j u hu => by rw [Addr.add_mid]; exact hr j u hu) (K.hone x) (by unfold maxLen; omega) (bytes_bound K _ h63) hbase
  refine ⟨v', w', h1, ⟨?_, ?_⟩, (Below.refl _ _).grown h3 hbase (fun k hk => (hown.lt k hk).1), h3, h5⟩
  · intro y hy
    rw [List.mem_append] at hy
    rcases hy with hy | hy
    · exact hown.1 y hy
    · simp at hy; subst hy; exact hok
  · rw [show (l ++ [x]).length = l.length + 1 by simp, row_snoc]
    exact h2
theorem wpList_append_Gat {α : Type} (K : Kd α) {ops : Array Oper} {rest : List Oper} {o : Oper} {a : Act} {w : World} {Q : Exit → Act → World → Prop} (hgd : o.guard = none) (s x : Operand)
    (ho : o.op = .call { callee := .builtin .append, args := #[s, x], argTypes := #[K.T, K.T] }) (base : Nat) (v : Value) (l : List α) (i : α) (g : Nat) (hs : a.eval s = v) (hx : a.eval x = .slice (some ⟨g, 0, none⟩) 1 1)
    (hown : OwnG K w base v l) (hok : K.ok i) (hr : w.rangeAt g 0 (K.cells i)) (hbase : base ≤ w.heap.size) (h63 : l.length ≤ 1073741824)
    (h : ∀ v' w', OwnG K w' base v' (l ++ [i]) → Below base w w' → w.grownBy w' v.ownBlock → (v'.ownBlock = v.ownBlock ∨ v'.ownBlock = some w.heap.size) → wpList Tryz.prog ops Q rest (a.put o.dst v') w') : wpList Tryz.prog ops Q (o :: rest) a w := by
  refine wpList_plain hgd fun L hL => ?_
  obtain ⟨v', w', hrun, h2, h3, h4, h5⟩ := own_append_Gat K o.type w base v l i g hown hok hr hbase h63
  unfold Oper.wp execOp
  simp only [ho, resolve, invoke, builtin, Sem.run_bind, Sem.run_pure, Result.andThen_ok, List.map_toArray, List.map_cons, List.map_nil, hs, hx, hrun]
  exact hL _ _ (h v' w' h2 h3 h4 h5)

end Go.Proofs.YtemojhcbhljemaaGreatDoor

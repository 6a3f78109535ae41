/- One text of a pair is stored in a slice that the call made. No function of the program. -/
import Derived.Test.YtkdmhflcpfekfaaDoorM1
namespace Go.Proofs.YtkdmhflcpfekfaaDoor
set_option linter.unusedVariables false
set_option linter.unusedSimpArgs false
open Go.RowKit

theorem grownBy_setRow (w : World) (g : Nat) (row : Array Value) : w.grownBy (w.setRow g row) (some g) := by
  refine ⟨rfl, rfl, rfl, by simp [World.setRow], fun k hk hne => ?_⟩
  unfold World.setRow
  rw [Array.getElem?_modify, if_neg]
  intro e
  exact hne (by rw [e])
theorem own_key {w : World} {base g cap : Nat} {l : List Two} (h : OwnG kExtra w base (.slice (some ⟨g, 0, none⟩) l.length cap) l) {k : Nat} {x : Two} (hx : l[k]? = some x) (s : ByteArray) :
    ∃ cur, w.heap[g]? = some (.cells cur 28 (0, 0)) ∧ k * 2 + 1 ≤ cur.size ∧ OwnG kExtra (w.setRow g (cur.toList.take (k * 2) ++ [Value.string s] ++ cur.toList.drop (k * 2 + 1)).toArray) base (.slice (some ⟨g, 0, none⟩) l.length cap) (l.set k ⟨s, x.b⟩) := by
  have hk := (List.getElem?_eq_some_iff.1 hx).1
  obtain ⟨cur, h1, h2, h3⟩ := h.store k hk ⟨s, x.b⟩ trivial
  have h2' : k * 2 + 2 ≤ cur.size := h2
  have hc := (two_range (h.range hx)).2
  have hc' : w.cell? ⟨g, k * 2 + 1, none⟩ = some (.string x.b) := hc
  rw [cell_of_row w g (k * 2 + 1) _ _ (0, 0) h1] at hc'
  refine ⟨cur, h1, by omega, ?_⟩
  have hd : cur.toList.drop (k * 2 + 1) = Value.string x.b :: cur.toList.drop (k * 2 + 2) := by
    have hg : cur.toList[k * 2 + 1]? = some (.string x.b) := by rw [← hc']; simp
    have hlt : k * 2 + 1 < cur.toList.length := by rw [Array.length_toList]; omega
    rw [List.drop_eq_getElem_cons hlt]
    rw [List.getElem?_eq_getElem hlt] at hg
    rw [Option.some.inj hg]
  have he : cur.toList.take (k * 2) ++ [Value.string s] ++ cur.toList.drop (k * 2 + 1) = cur.toList.take (k * kExtra.n) ++ kExtra.cells ⟨s, x.b⟩ ++ cur.toList.drop (k * kExtra.n + (kExtra.cells ⟨s, x.b⟩).length) := by
    rw [hd]
    show _ = cur.toList.take (k * 2) ++ [Value.string s, Value.string x.b] ++ cur.toList.drop (k * 2 + 2)
    simp
  rw [he]
  exact h3

theorem wpList_store_str {P : Program} {ops : Array Oper} {rest : List Oper} {op : Oper} {a : Act} {w : World} {Q : Exit → Act → World → Prop} (hgd : op.guard = none) (ty : TypeId) (x y : Operand) (ho : op.op = .store ty x y) (g o : Nat) (t : TypeId) (old : Array Value) (s : ByteArray)
    (hx : a.eval x = .pointer (some ⟨g, o, none⟩)) (hy : a.eval y = .string s) (hg : w.heap[g]? = some (.cells old t (0, 0))) (hfit : o + 1 ≤ old.size) (hi : (P.info? ty).map (·.size) = some 1)
    (h : wpList P ops Q rest (a.put op.dst undef) (w.setRow g (old.toList.take o ++ [Value.string s] ++ old.toList.drop (o + 1)).toArray)) : wpList P ops Q (op :: rest) a w := by
  refine wpList_plain hgd fun L hL => ?_
  unfold Oper.wp execOp
  have hrun : (storeVar ty ⟨g, o, none⟩ (.string s)).run P w = .ok () (w.setRow g (old.toList.take o ++ [Value.string s] ++ old.toList.drop (o + 1)).toArray) := by
    have hst := run_storeCells_at P g o t [Value.string s] 0 old w hg (by simpa using hfit) (by intro v hv; simp at hv; subst hv; rfl)
    simp only [Nat.add_zero] at hst
    cases hq : P.info? ty with
    | none => simp [hq] at hi
    | some i =>
      have hs : 1 = i.size := by simp [hq] at hi; omega
      simp at hst
      simp [storeVar, sizeOf, typeInfo, hq, Value.cells, hs.symm, hst]
  simp only [ho, hx, hy, Instr.storeAt, Instr.sureAddr, Sem.run_bind, Sem.run_pure, Result.andThen_ok, hrun]
  exact hL _ _ h

theorem stepStoreOwn {α : Type} (KD : Kd α) {ops : Array Oper} {o : Oper} {a : Act} {w : World} {K : Act → World → Prop} {Q : Exit → Act → World → Prop} {E : Prop} (hgd : o.guard = none) (x y : Operand) (ho : o.op = .store KD.E x y)
    (base g cap : Nat) (l : List α) (k : Nat) (i : α) (hx : a.eval x = .pointer (some ⟨g, k * KD.n, none⟩)) (hy : a.eval y = .agg (KD.cells i).toArray) (hown : OwnG KD w base (.slice (some ⟨g, 0, none⟩) l.length cap) l) (hk : k < l.length) (hok : KD.ok i)
    (h : ∀ w', OwnG KD w' base (.slice (some ⟨g, 0, none⟩) (l.set k i).length cap) (l.set k i) → w.grownBy w' (some g) → K (a.put o.dst undef) w') : if Region.wanted o (yielded ops a.tmps) = true then Oper.wp Tryd.prog o a w K Q else E := by
  obtain ⟨cur, h1, h2, h3⟩ := hown.store k hk i hok
  exact stepStoreG hgd KD.E x y ho g (k * KD.n) KD.E cur (KD.cells i) hx hy h1 h2 (KD.size i hok) (KD.hone i) (h _ (by rw [List.length_set]; exact h3) (grownBy_setRow _ _ _))

end Go.Proofs.YtkdmhflcpfekfaaDoor

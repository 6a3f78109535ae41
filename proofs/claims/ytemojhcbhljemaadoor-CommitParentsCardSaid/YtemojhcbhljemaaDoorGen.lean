/- Slices of values of several cells each, of whatever kind: read, made, appended to, written into. No function of the program. -/
import Derived.Test.YtemojhcbhljemaaDoorWords2
import Derived.Test.YtemojhcbhljemaaDoorRange
import Derived.Test.YtemojhcbhljemaaDoorBuf
import Derived.Laws.AppendOwn
import Derived.Laws.Tables
import Derived.Laws.MakeOwn
import Derived.Great.BuildSlice
import Derived.Deep.RegionHeldLaw
namespace Go.Proofs.YtemojhcbhljemaaDoor
set_option linter.unusedVariables false
set_option linter.unusedSimpArgs false
open Go.RowKit
set_option maxRecDepth 100000

/-- A kind of values: their cells, as many of each; which are well made; the types' numbers, of an element and of a slice. -/
structure Kd (α : Type) where
  cells : α → List Value
  n : Nat
  ok : α → Prop
  E : TypeId
  T : TypeId
  zero : Value
  bytes : Nat
  hlen : ∀ x, ok x → (cells x).length = n
  hone : ∀ x, ∀ v ∈ cells x, v.oneCell' = true
  hn : 0 < n
  hn2 : n ≤ 1000
  hb : bytes ≤ 1024
  und : Tryd.prog.underlying T = some (.slice E)
  info : (Tryd.prog.info? E).map (fun i => (i.zero, i.size, i.bytes)) = some (some zero, n, bytes)
  hz : zero.cells.size = n

section
variable {α : Type} (K : Kd α)

theorem Kd.size (x : α) (h : K.ok x) : (Tryd.prog.info? K.E).map (·.size) = some (K.cells x).length := by
  obtain ⟨i0, hi, hz0, hz1, hz2⟩ := info_parts K.info
  rw [hi, K.hlen x h, Option.map_some, hz1]

/-- The cells of a list, in a row. -/
def Kd.row (l : List α) : List Value := l.flatMap K.cells
theorem row_len : ∀ (l : List α), (∀ x ∈ l, K.ok x) → (K.row l).length = l.length * K.n
  | [], _ => by simp [Kd.row]
  | x :: r, h => by
    have ih := row_len r (fun y hy => h y (by simp [hy]))
    unfold Kd.row at ih ⊢
    rw [List.flatMap_cons, List.length_append, K.hlen x (h x (by simp)), ih, List.length_cons, Nat.add_mul]
    omega
theorem row_get : ∀ (l : List α), (∀ x ∈ l, K.ok x) → ∀ (k : Nat) (x : α), l[k]? = some x → ∀ j, j < K.n → (K.row l)[k * K.n + j]? = (K.cells x)[j]?
  | [], _, k, x, h, _, _ => by simp at h
  | y :: r, h, k, x, hk, j, hj => by
    have hy := K.hlen y (h y (by simp))
    unfold Kd.row
    rw [List.flatMap_cons]
    cases k with
    | zero =>
      simp at hk
      subst hk
      rw [Nat.zero_mul, Nat.zero_add, List.getElem?_append_left (by omega)]
    | succ k =>
      rw [List.getElem?_cons_succ] at hk
      rw [List.getElem?_append_right (by rw [hy, Nat.add_mul]; omega), hy, show (k + 1) * K.n + j - K.n = k * K.n + j by rw [Nat.add_mul]; omega]
      exact row_get r (fun z hz => h z (by simp [hz])) k x hk j hj
theorem row_one (l : List α) : ∀ v ∈ K.row l, v.oneCell' = true := by
  intro v hv
  unfold Kd.row at hv
  rw [List.mem_flatMap] at hv
  obtain ⟨x, _, hx⟩ := hv
  exact K.hone x v hx
theorem row_app (l m : List α) : K.row (l ++ m) = K.row l ++ K.row m := by unfold Kd.row; rw [List.flatMap_append]
theorem row_snoc (l : List α) (x : α) : K.row (l ++ [x]) = K.row l ++ K.cells x := by rw [row_app]; simp [Kd.row]

/-- In memory: the slice at p holds l. -/
def RdG (w : World) (p : Option Addr) (l : List α) : Prop := l = [] ∨ ∃ b o, p = some ⟨b, o, none⟩ ∧ ∀ k x, l[k]? = some x → w.rangeAt b (o + k * K.n) (K.cells x)
variable {K}
theorem RdG.grew {w w' : World} {p : Option Addr} {l : List α} (h : RdG K w p l) (g : Grew w w') : RdG K w' p l := by
  rcases h with h | ⟨b, o, rfl, h⟩
  · exact .inl h
  · exact .inr ⟨b, o, rfl, fun k x hx => range_grew (h k x hx) g⟩
theorem RdG.pre {w : World} {p : Option Addr} {l m : List α} (h : RdG K w p (l ++ m)) : RdG K w p l := by
  rcases h with h | ⟨b, o, rfl, h⟩
  · exact .inl (List.append_eq_nil_iff.1 h).1
  · exact .inr ⟨b, o, rfl, fun k x hx => h k x (by rw [List.getElem?_append_left (List.getElem?_eq_some_iff.1 hx).1]; exact hx)⟩
theorem RdG.take {w : World} {p : Option Addr} {l : List α} (h : RdG K w p l) (k : Nat) : RdG K w p (l.take k) := by
  have := List.take_append_drop k l
  rw [← this] at h
  exact h.pre
theorem RdG.at {w : World} {p : Option Addr} {l : List α} (h : RdG K w p l) (h0 : 0 < l.length) : ∃ b o, p = some ⟨b, o, none⟩ ∧ ∀ k x, l[k]? = some x → w.rangeAt b (o + k * K.n) (K.cells x) := by
  rcases h with rfl | h
  · simp at h0
  · exact h
variable (K)
/-- A block that holds a list from its head on. -/
theorem rdG_block {w : World} {g : Nat} {cs : Array Value} {t : TypeId} {fz : Nat × Nat} {l : List α} (hg : w.heap[g]? = some (.cells cs t fz)) (hok : ∀ x ∈ l, K.ok x) (h : ∀ (i : Nat) (v : Value), (K.row l)[i]? = some v → cs[i]? = some v) : RdG K w (some ⟨g, 0, none⟩) l := by
  refine .inr ⟨g, 0, rfl, fun k x hx => fun j v hv => ?_⟩
  have hj : j < K.n := by have := (List.getElem?_eq_some_iff.1 hv).1; rw [K.hlen x (hok x (List.mem_of_getElem? hx))] at this; exact this
  have hg2 := row_get K l hok k x hx j hj
  rw [cell_of_row w g _ cs t fz hg, Nat.zero_add]
  exact h _ _ (hg2.trans hv)

/-- The slice v, made from base on, holds l. -/
def OwnG (w : World) (base : Nat) (v : Value) (l : List α) : Prop := (∀ x ∈ l, K.ok x) ∧ w.ownsRow base K.E K.n v l.length (K.row l)
theorem OwnG.nil (w : World) (base : Nat) : OwnG K w base (.slice none 0 0) [] := ⟨by simp, by simp [Kd.row], .inl ⟨rfl, rfl⟩⟩
variable {K}
theorem OwnG.lt {w : World} {base : Nat} {v : Value} {l : List α} (h : OwnG K w base v l) : ∀ k, v.ownBlock = some k → base ≤ k ∧ k < w.heap.size := by
  intro k hk
  rcases h.2.2 with ⟨rfl, _⟩ | ⟨g, cap, cur, rfl, hb, hg, _⟩
  · simp [Value.ownBlock] at hk
  · simp [Value.ownBlock] at hk
    subst hk
    exact ⟨hb, (Array.getElem?_eq_some_iff.1 hg).1⟩
theorem OwnG.below {w w' : World} {base : Nat} {v : Value} {l : List α} (h : OwnG K w base v l) (hb : Grew w w') : OwnG K w' base v l := by
  obtain ⟨h1, h2, h3⟩ := h
  refine ⟨h1, h2, ?_⟩
  rcases h3 with hn | ⟨g, cap, cur, rfl, hbs, hgg, rest⟩
  · exact .inl hn
  · exact .inr ⟨g, cap, cur, rfl, hbs, (hb.block g (Array.getElem?_eq_some_iff.1 hgg).1).trans hgg, rest⟩
theorem OwnG.base {w : World} {B C : Nat} {v : Value} {l : List α} (h : OwnG K w C v l) (hBC : B ≤ C) : OwnG K w B v l := by
  obtain ⟨h1, h2, h3⟩ := h
  refine ⟨h1, h2, ?_⟩
  rcases h3 with hn | ⟨g, cap, cur, rfl, hbs, rest⟩
  · exact .inl hn
  · exact .inr ⟨g, cap, cur, rfl, Nat.le_trans hBC hbs, rest⟩
theorem OwnG.set {w : World} {base : Nat} {v : Value} {l : List α} (h : OwnG K w base v l) (p : Addr) (u : Value) (hne : v.ownBlock ≠ some p.block) : OwnG K (w.setCell p u) base v l := by
  obtain ⟨h1, h2, h3⟩ := h
  refine ⟨h1, h2, ?_⟩
  rcases h3 with hn | ⟨g, cap, cur, rfl, hbs, hgg, rest⟩
  · exact .inl hn
  · exact .inr ⟨g, cap, cur, rfl, hbs, (heap_setCell_other w p g u (fun e => hne (by simp [Value.ownBlock, e]))).trans hgg, rest⟩
/-- Another block was turned. -/
theorem OwnG.kept {w w' : World} {base : Nat} {v : Value} {l : List α} {row : Option Nat} (h : OwnG K w base v l) (hg : w.grownBy w' row) (hne : v.ownBlock = none ∨ v.ownBlock ≠ row) : OwnG K w' base v l := by
  obtain ⟨h1, h2, h3⟩ := h
  refine ⟨h1, h2, ?_⟩
  rcases h3 with hn | ⟨g, cap, cur, rfl, hbs, hgg, rest⟩
  · exact .inl hn
  · refine .inr ⟨g, cap, cur, rfl, hbs, (hg.block g (Array.getElem?_eq_some_iff.1 hgg).1 (fun e => ?_)).trans hgg, rest⟩
    rcases hne with h | h
    · simp [Value.ownBlock] at h
    · exact h (by simpa [Value.ownBlock] using e)
theorem OwnG.val {w : World} {base : Nat} {v : Value} {l : List α} (h : OwnG K w base v l) : ∃ p cap, v = .slice p l.length cap ∧ RdG K w p l ∧ l.length ≤ cap ∧ (p = none → cap = 0) ∧ (∀ a, p = some a → base ≤ a.block ∧ a.block < w.heap.size) := by
  have hlt := h.lt
  obtain ⟨h1, h2, h3⟩ := h
  rcases h3 with ⟨rfl, h0⟩ | ⟨g, cap, cur, rfl, hb, hg, hnc, hcm, hcs, ht⟩
  · have : l = [] := List.eq_nil_of_length_eq_zero h0
    subst this
    exact ⟨none, 0, rfl, .inl rfl, Nat.le_refl _, fun _ => rfl, fun a ha => by cases ha⟩
  · refine ⟨_, cap, rfl, .inr ⟨g, 0, rfl, fun k x hx => fun j v hv => ?_⟩, hnc, (fun e => by cases e), fun a ha => by cases ha; exact hlt g rfl⟩
    have hj : j < K.n := by have := (List.getElem?_eq_some_iff.1 hv).1; rw [K.hlen x (h1 x (List.mem_of_getElem? hx))] at this; exact this
    have hg2 := row_get K l h1 k x hx j hj
    rw [hv, ← ht, List.getElem?_take] at hg2
    rw [cell_of_row w g _ cur _ (0, 0) hg, Nat.zero_add]
    split at hg2
    · simpa using hg2
    · cases hg2
variable (K)

theorem bytes_bound (n : Nat) (h : n ≤ 1073741824) : (n + 1) * K.bytes ≤ 140737488355328 := by
  have h1 := K.hb
  have h2 : (n + 1) * K.bytes ≤ 1073741825 * 1024 := Nat.mul_le_mul (by omega) h1
  omega

/-- append(v, x), its run. -/
theorem own_append_G (ty : TypeId) (w : World) (base : Nat) (v : Value) (l : List α) (x : α) (g : Nat) (hown : OwnG K w base v l) (hok : K.ok x) (hr : w.rangeAt g 0 (K.cells x)) (hbase : base ≤ w.heap.size) (h63 : l.length ≤ 1073741824) :
    ∃ v' w', (Builtin.append_ #[K.T, K.T] ty #[v, .slice (some ⟨g, 0, none⟩) 1 1]).run Tryd.prog w = .ok v' w' ∧ OwnG K w' base v' (l ++ [x]) ∧ Below base w w' ∧ w.grownBy w' v.ownBlock := by
  obtain ⟨i0, hi, hz0, hz1, hz2⟩ := info_parts K.info
  obtain ⟨v', w', h1, h2, h3, -⟩ := run_append_own (P := Tryd.prog) w base K.T ty K.E i0 K.zero K.n K.bytes K.und hi hz0 hz1 hz2 K.hz K.hn v l.length (K.row l) hown.2 ⟨g, 0, none⟩ 1 1 (K.cells x) (by rw [K.hlen x hok, Nat.one_mul])
    (fun j u hu => by rw [Addr.add_mid]; exact hr j u hu) (K.hone x) (by unfold maxLen; omega) (bytes_bound K _ h63) hbase
  refine ⟨v', w', h1, ⟨?_, ?_⟩, (Below.refl _ _).grown h3 hbase (fun k hk => (hown.lt k hk).1), h3⟩
  · intro y hy
    rw [List.mem_append] at hy
    rcases hy with hy | hy
    · exact hown.1 y hy
    · simp at hy; subst hy; exact hok
  · rw [show (l ++ [x]).length = l.length + 1 by simp, row_snoc]
    exact h2
theorem wpList_append_G {ops : Array Oper} {rest : List Oper} {o : Oper} {a : Act} {w : World} {Q : Exit → Act → World → Prop} (hgd : o.guard = none) (s x : Operand)
    (ho : o.op = .call { callee := .builtin .append, args := #[s, x], argTypes := #[K.T, K.T] }) (base : Nat) (v : Value) (l : List α) (i : α) (g : Nat) (hs : a.eval s = v) (hx : a.eval x = .slice (some ⟨g, 0, none⟩) 1 1)
    (hown : OwnG K w base v l) (hok : K.ok i) (hr : w.rangeAt g 0 (K.cells i)) (hbase : base ≤ w.heap.size) (h63 : l.length ≤ 1073741824)
    (h : ∀ v' w', OwnG K w' base v' (l ++ [i]) → Below base w w' → w.grownBy w' v.ownBlock → wpList Tryd.prog ops Q rest (a.put o.dst v') w') : wpList Tryd.prog ops Q (o :: rest) a w := by
  refine wpList_plain hgd fun L hL => ?_
  obtain ⟨v', w', hrun, h2, h3, h4⟩ := own_append_G K o.type w base v l i g hown hok hr hbase h63
  unfold Oper.wp execOp
  simp only [ho, resolve, invoke, builtin, Sem.run_bind, Sem.run_pure, Result.andThen_ok, List.map_toArray, List.map_cons, List.map_nil, hs, hx, hrun]
  exact hL _ _ (h v' w' h2 h3 h4)
theorem step_append_G {ops : Array Oper} {o : Oper} {a : Act} {w : World} {L : Act → World → Prop} {Q : Exit → Act → World → Prop} {E : Prop} (hgd : o.guard = none) (s x : Operand)
    (ho : o.op = .call { callee := .builtin .append, args := #[s, x], argTypes := #[K.T, K.T] }) (base : Nat) (v : Value) (l : List α) (i : α) (g : Nat) (hs : a.eval s = v) (hx : a.eval x = .slice (some ⟨g, 0, none⟩) 1 1)
    (hown : OwnG K w base v l) (hok : K.ok i) (hr : w.rangeAt g 0 (K.cells i)) (hbase : base ≤ w.heap.size) (h63 : l.length ≤ 1073741824)
    (h : ∀ v' w', OwnG K w' base v' (l ++ [i]) → Below base w w' → w.grownBy w' v.ownBlock → L (a.put o.dst v') w') : if Region.wanted o (yielded ops a.tmps) = true then Oper.wp Tryd.prog o a w L Q else E := by
  have hw : Region.wanted o (yielded ops a.tmps) = true := by simp [Region.wanted, hgd]
  rw [if_pos hw]
  obtain ⟨v', w', hrun, h2, h3, h4⟩ := own_append_G K o.type w base v l i g hown hok hr hbase h63
  unfold Oper.wp execOp
  simp only [ho, resolve, invoke, builtin, Sem.run_bind, Sem.run_pure, Result.andThen_ok, List.map_toArray, List.map_cons, List.map_nil, hs, hx, hrun]
  exact h v' w' h2 h3 h4

theorem fold_fill : ∀ (L : List Value) (k : Nat) (pre old : List Value), pre.length = k → old.length = L.length → ((L.zipIdx k).foldl (fun (cs : Array Value) (p : Value × Nat) => cs.setIfInBounds (0 + p.2) p.1) (pre ++ old).toArray) = (pre ++ L).toArray
  | [], k, pre, old, hk, hl => by
    have : old = [] := List.eq_nil_of_length_eq_zero hl
    subst this
    simp
  | x :: r, k, pre, old, hk, hl => by
    cases old with
    | nil => simp at hl
    | cons y q =>
      rw [List.zipIdx_cons, List.foldl_cons]
      have e : ((pre ++ y :: q).toArray.setIfInBounds (0 + k) x) = ((pre ++ [x]) ++ q).toArray := by
        apply Array.ext'
        rw [Array.toList_setIfInBounds, Nat.zero_add, List.set_append_right _ _ (by simp [hk]), hk, Nat.sub_self, List.set_cons_zero]
        simp
      show ((r.zipIdx (k + 1)).foldl _ ((pre ++ y :: q).toArray.setIfInBounds (0 + k) x)) = _
      rw [e, fold_fill r (k + 1) (pre ++ [x]) q (by simp [hk]) (by simpa using hl)]
      simp
/-- A slice that is written out, of one. -/
theorem run_slice_G (x : α) (hok : K.ok x) (w : World) : (Instr.buildSlice K.T 1 #[(0, .agg (K.cells x).toArray)]).run Tryd.prog w = .ok (.slice (some ⟨w.heap.size, 0, none⟩) 1 1) (w.alloc (.cells (K.cells x).toArray K.E)) := by
  obtain ⟨i0, hi, hz0, hz1, hz2⟩ := info_parts K.info
  have hl := K.hlen x hok
  have hp := K.hn
  have hp2 := K.hn2
  refine run_buildSlice w _ _ 1 _ _ i0 K.zero K.und hi hz0 (by rw [hz1]; omega) (by rw [hz1]; omega) ?_
  rw [hz1, Nat.one_mul]
  obtain ⟨C, hC⟩ : ∃ C : Array Value, (Array.range K.n).map (K.zero.cells[· % K.zero.cells.size]!) = C := ⟨_, rfl⟩
  have hCs : C.size = K.n := by rw [← hC]; simp
  rw [hC]
  simp only [Instr.fill, Nat.zero_mul, Value.cells]
  rw [if_neg (by simp [hl, hCs])]
  congr 1
  have h := fold_fill (K.cells x) 0 [] C.toList rfl (by rw [Array.length_toList, hCs, hl])
  simp only [List.nil_append, Array.toArray_toList] at h
  rw [← Array.foldl_toList]
  simpa using h

/-- A value in a block of its own. -/
theorem boxedG (w : World) (x : α) : ∃ W0, w.alloc (.cells (K.cells x).toArray K.E) = W0 ∧ Grew w W0 ∧ Grew W0 W0 ∧ (∀ W, Grew W0 W → W.rangeAt w.heap.size 0 (K.cells x)) := by
  obtain ⟨W0, hW0, g0, g00, hq⟩ := boxed w (K.cells x).toArray K.E
  refine ⟨W0, hW0, g0, g00, fun W g j v hv => ?_⟩
  rw [Nat.zero_add]
  exact hq W g j v (by simpa using hv)

/-- make([]T, 0, n). -/
theorem make_G (m : Nat) (hm : m ≤ 2147483648) (w : World) : ∃ C : Array Value, C.size = m * K.n ∧
    (Instr.makeSlice K.T (.int .i64 0) (.int .i64 (m : Int))).run Tryd.prog w = .ok (.slice (some ⟨w.heap.size, 0, none⟩) 0 m) (w.alloc (.cells C K.E)) := by
  obtain ⟨i0, hi, hz0, hz1, hz2⟩ := info_parts K.info
  have hb := K.hb
  have h := run_make (P := Tryd.prog) w K.T K.E i0 K.zero K.und hi hz0 .i64 .i64 0 (m : Int) (by omega) (by omega) (by
    rw [hz2]
    have h1 : K.bytes * m ≤ 1024 * 2147483648 := Nat.mul_le_mul hb hm
    omega) (by omega)
  exact ⟨_, by simp [madeCells, hz1], h⟩

/-- append(s, l...) where s has room. -/
theorem append_room_G (w : World) (g sCap : Nat) (cur : Array Value) (hg : w.heap[g]? = some (.cells cur K.E (0, 0))) (p : Option Addr) (l : List α) (c : Nat) (h : RdG K w p l) (hok : ∀ x ∈ l, K.ok x) (hroom : l.length ≤ sCap) (hcur : cur.size = sCap * K.n) :
    ∃ w', (Builtin.append_ #[K.T, K.T] K.T #[.slice (some ⟨g, 0, none⟩) 0 sCap, .slice p l.length c]).run Tryd.prog w = .ok (.slice (some ⟨g, 0, none⟩) l.length sCap) w' ∧
      w'.heap[g]? = some (.cells (K.row l ++ cur.toList.drop (l.length * K.n)).toArray K.E (0, 0)) ∧ w.grownBy w' (some g) ∧ w'.heap.size = w.heap.size := by
  obtain ⟨i0, hi, hz0, hz1, hz2⟩ := info_parts K.info
  have hlen := row_len K l hok
  have hpos := K.hn
  cases p with
  | none =>
    have hl : l = [] := by
      rcases h with h | ⟨b, o, e, _⟩
      · exact h
      · cases e
    subst hl
    refine ⟨w, ?_, ?_, ⟨rfl, rfl, rfl, Nat.le_refl _, fun _ _ _ => rfl⟩, rfl⟩
    · simp [Builtin.append_, run_underlying K.und, sizeOf, typeInfo, hi, Builtin.lenOf, Builtin.firstCells, storeCells]
    · rw [hg]; simp [Kd.row]
  | some ad =>
    have hnews : ∀ j u, (K.row l)[j]? = some u → w.cell? (ad.add j) = some u := by
      intro j u hu
      rcases h with rfl | ⟨b, o, e, hc⟩
      · simp [Kd.row] at hu
      cases e
      have hj := (List.getElem?_eq_some_iff.1 hu).1
      rw [hlen] at hj
      have hk : j / K.n < l.length := (Nat.div_lt_iff_lt_mul hpos).2 hj
      obtain ⟨x, hx⟩ : ∃ x, l[j / K.n]? = some x := ⟨_, List.getElem?_eq_getElem hk⟩
      have h1 := row_get K l hok (j / K.n) x hx (j % K.n) (Nat.mod_lt _ hpos)
      have hdm := Nat.div_add_mod' j K.n
      rw [hdm, hu] at h1
      have h2 := hc (j / K.n) x hx (j % K.n) u h1.symm
      rw [Addr.add_mid]
      rw [show o + j = o + j / K.n * K.n + j % K.n by omega]
      exact h2
    have hr := run_append_room (P := Tryd.prog) w K.T K.T K.E i0 K.und hi g 0 sCap cur hg ad l.length c (K.row l) (by rw [hz1, hlen]) hnews (row_one K l) (by omega) (by
      rw [hlen, hcur, Nat.zero_mul, Nat.zero_add]
      exact Nat.mul_le_mul_right _ hroom)
    simp only [Nat.zero_add, Nat.zero_mul, List.take_zero, List.nil_append] at hr
    refine ⟨_, hr, ?_, ⟨rfl, rfl, rfl, by simp, fun k _ hk => setRow_other w g k _ (fun e => hk (by simp [e]))⟩, by simp⟩
    rw [setRow_heap w g cur _ _ _ hg, hlen]

theorem run_storeVar_G {P : Program} (w : World) (g o : Nat) (ty t : TypeId) (old : Array Value) (cells : List Value) (hg : w.heap[g]? = some (.cells old t (0, 0))) (hfit : o + cells.length ≤ old.size) (hi : (P.info? ty).map (·.size) = some cells.length) (h1 : ∀ v ∈ cells, v.oneCell' = true) :
    (storeVar ty ⟨g, o, none⟩ (.agg cells.toArray)).run P w = .ok () (w.setRow g (old.toList.take o ++ cells ++ old.toList.drop (o + cells.length)).toArray) := by
  have hst := run_storeCells_at P g o t cells 0 old w hg (by simpa using hfit) h1
  simp only [Nat.add_zero] at hst
  cases hq : P.info? ty with
  | none => simp [hq] at hi
  | some i =>
    have hs : cells.length = i.size := by simp [hq] at hi; omega
    simp [storeVar, sizeOf, typeInfo, hq, Value.cells, hs.symm, hst]
/-- A row of several cells is written into a block. -/
theorem wpList_store_G {P : Program} {ops : Array Oper} {rest : List Oper} {op : Oper} {a : Act} {w : World} {Q : Exit → Act → World → Prop} (hgd : op.guard = none) (ty : TypeId) (x y : Operand) (ho : op.op = .store ty x y) (g o : Nat) (t : TypeId) (old : Array Value) (cells : List Value)
    (hx : a.eval x = .pointer (some ⟨g, o, none⟩)) (hy : a.eval y = .agg cells.toArray) (hg : w.heap[g]? = some (.cells old t (0, 0))) (hfit : o + cells.length ≤ old.size) (hi : (P.info? ty).map (·.size) = some cells.length) (h1 : ∀ v ∈ cells, v.oneCell' = true)
    (h : wpList P ops Q rest (a.put op.dst undef) (w.setRow g (old.toList.take o ++ cells ++ old.toList.drop (o + cells.length)).toArray)) : wpList P ops Q (op :: rest) a w := by
  refine wpList_plain hgd fun L hL => ?_
  unfold Oper.wp execOp
  simp only [ho, hx, hy, Instr.storeAt, Instr.sureAddr, Sem.run_bind, Sem.run_pure, Result.andThen_ok, run_storeVar_G w g o ty t old cells hg hfit hi h1]
  exact hL _ _ h

/-- The cells of a copy: the list, k times the filling, and what lay behind. -/
def ownG (l : List α) (f : α) (k : Nat) (z : List Value) : List Value := K.row l ++ (K.row (List.replicate k f) ++ z.drop (k * K.n))
theorem ownG_len (l : List α) (f : α) (k : Nat) (z : List Value) (hl : ∀ x ∈ l, K.ok x) (hf : K.ok f) (hz : z.length = 3 * K.n) (hk : k ≤ 3) : (ownG K l f k z).length = (l.length + 3) * K.n := by
  have h1 := row_len K l hl
  have h2 := row_len K (List.replicate k f) (fun x hx => by rw [List.eq_of_mem_replicate hx]; exact hf)
  rw [List.length_replicate] at h2
  unfold ownG
  have h3 : k * K.n ≤ 3 * K.n := Nat.mul_le_mul_right _ hk
  simp only [List.length_append, List.length_drop, h1, h2, hz, Nat.add_mul]
  omega
theorem ownG_next (l : List α) (f : α) {k : Nat} (z : List Value) (hl : ∀ x ∈ l, K.ok x) (hf : K.ok f) (hz : z.length = 3 * K.n) (hk : k < 3) :
    ((ownG K l f k z).toArray.toList.take ((l.length + k) * K.n) ++ K.cells f ++ (ownG K l f k z).toArray.toList.drop ((l.length + k) * K.n + (K.cells f).length)) = ownG K l f (k + 1) z := by
  have h1 := row_len K l hl
  have h2 := row_len K (List.replicate k f) (fun x hx => by rw [List.eq_of_mem_replicate hx]; exact hf)
  rw [List.length_replicate] at h2
  have hc := K.hlen f hf
  have e1 : ownG K l f k z = (K.row l ++ K.row (List.replicate k f)) ++ z.drop (k * K.n) := by unfold ownG; rw [List.append_assoc]
  have hlen : (K.row l ++ K.row (List.replicate k f)).length = (l.length + k) * K.n := by rw [List.length_append, h1, h2, Nat.add_mul]
  rw [List.toList_toArray, e1, List.take_append_of_le_length (by omega), List.take_of_length_le (by omega), List.drop_append, List.drop_of_length_le (by omega), List.nil_append, hlen, hc, show (l.length + k) * K.n + K.n - (l.length + k) * K.n = K.n by omega, List.drop_drop]
  unfold ownG
  rw [List.replicate_succ', row_snoc, show (k + 1) * K.n = k * K.n + K.n by rw [Nat.add_mul]; omega]
  simp [Nat.add_comm]

/-- How two of a kind are held against each other. -/
structure KdEq (K : Kd α) where
  eqv : α → α → Bool
  iff : ∀ a b, eqv a b = true ↔ a = b
  eql : ∀ a b, K.ok a → K.ok b → ∀ w, (binOp .eql K.E (.agg (K.cells a).toArray) (.agg (K.cells b).toArray)).run Tryd.prog w = .ok (.bool (eqv a b)) w
  neq : ∀ a b, K.ok a → K.ok b → ∀ w, (binOp .neq K.E (.agg (K.cells a).toArray) (.agg (K.cells b).toArray)).run Tryd.prog w = .ok (.bool (!(eqv a b))) w
  guard : ∀ (op : BinOp) (x y : Operand) a b w, (eqGuard op K.E x y (.agg (K.cells a).toArray) (.agg (K.cells b).toArray)).run Tryd.prog w = .ok () w
theorem KdEq.refl {K : Kd α} (Q : KdEq K) (a : α) : Q.eqv a a = true := (Q.iff a a).2 rfl

end
end Go.Proofs.YtemojhcbhljemaaDoor

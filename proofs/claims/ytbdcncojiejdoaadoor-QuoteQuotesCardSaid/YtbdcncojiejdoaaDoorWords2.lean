/- More words for memory that the walks of this seat share (variables of several cells, results that lie in memory): plain, of no function of the program. -/
import Derived.Test.YtbdcncojiejdoaaDoorWords
import Derived.Laws.ResultCell
import Derived.Lib.AppendIntMem
import Derived.Lib.LaidTab
namespace Go.Proofs.YtbdcncojiejdoaaDoor
set_option linter.unusedVariables false
set_option linter.unusedSimpArgs false
open Go.RowKit

theorem results_cell_tmp_mid {P : Program} {fn : Func} {p u : Tmp} {ty : TypeId} (h : fn.results = #[.cell p ty, .tmp u]) (tmps : Array Value) (w : World) (b o : Nat) (cs : List Value) (d : TypeDesc)
    (hp : tmps.getD p undef = .pointer (some ⟨b, o, none⟩)) (hc : w.rangeAt b o cs) (hu : P.underlying ty = some d) (hd : d.isRow = true) (hi : (P.info? ty).map (·.size) = some cs.length) :
    (results fn tmps).run P w = .ok (.tuple #[.agg cs.toArray, tmps.getD u undef]) w := by
  rw [results_cell_tmp h, hp]
  simp only [asAddr, Sem.run_pure, Result.andThen_ok, run_loadVar_mid w b o ty cs d hc hu hd hi]

theorem results_cell_mid {P : Program} {fn : Func} {p : Tmp} {ty : TypeId} (h : fn.results = #[.cell p ty]) (tmps : Array Value) (w : World) (b o : Nat) (cs : List Value) (d : TypeDesc)
    (hp : tmps.getD p undef = .pointer (some ⟨b, o, none⟩)) (hc : w.rangeAt b o cs) (hu : P.underlying ty = some d) (hd : d.isRow = true) (hi : (P.info? ty).map (·.size) = some cs.length) :
    (results fn tmps).run P w = .ok (.agg cs.toArray) w := by
  have hp' : tmps[p]?.getD undef = .pointer (some ⟨b, o, none⟩) := by simpa using hp
  simp [results, h, hp', asAddr, run_loadVar_mid w b o ty cs d hc hu hd hi]

theorem below_setRow {B : Nat} {a w : World} (h : Below B a w) {g : Nat} (hg : B ≤ g) (cs : Array Value) : Below B a (w.setRow g cs) :=
  h.trans ⟨rfl, rfl, rfl, by simp, fun k hk => setRow_other w g k cs (by omega)⟩

theorem range_row {w : World} {g : Nat} {cs : Array Value} {t : TypeId} {fz : Nat × Nat} (hg : w.heap[g]? = some (.cells cs t fz)) : w.rangeAt g 0 cs.toList := fun j v hv => by
  rw [cell_of_row w g _ cs t fz hg]
  simpa using hv

theorem range_setRow {w : World} {g : Nat} {old : Array Value} {t : TypeId} {fz : Nat × Nat} (hg : w.heap[g]? = some (.cells old t fz)) (cs : List Value) : (w.setRow g cs.toArray).rangeAt g 0 cs := by
  have := range_row (setRow_heap w g old cs.toArray t fz hg)
  simpa using this

/-- A range below B is as it was. -/
theorem range_below {B : Nat} {w w' : World} (h : Below B w w') {b o : Nat} {cs : List Value} (hr : w.rangeAt b o cs) (hb : b < B) : w'.rangeAt b o cs := fun j v hv => (h.cell (p := ⟨b, o + j, none⟩) hb).trans (hr j v hv)

theorem byteCells_getElem? (l : List UInt8) (i : Nat) : (Lib.byteCells l)[i]? = (l[i]?).map fun b => Value.int .u8 (b.toNat : Int) := by simp [Lib.byteCells]

/-- Rd, cell by cell, as append asks it. -/
theorem Rd.cells {w : World} {a : Addr} {l : List UInt8} (h : Rd w (some a) l) : ∀ j u, (Lib.byteCells l)[j]? = some u → w.cell? (a.add j) = some u := by
  intro j u hu
  rcases h with rfl | ⟨b, o, e, _, hc⟩
  · simp [Lib.byteCells] at hu
  · cases e
    have hj : j < l.length := by have := (List.getElem?_eq_some_iff.1 hu).1; rwa [Lib.byteCells_length] at this
    rw [byteCells_getElem?, List.getElem?_eq_getElem hj] at hu
    rw [Addr.add_mid, hc j hj, List.getD_eq_getElem?_getD, List.getElem?_eq_getElem hj]
    exact hu

theorem one_bytes' (l : List UInt8) : ∀ u ∈ Lib.byteCells l, u.oneCell' = true := by
  intro v hv
  simp [Lib.byteCells] at hv
  obtain ⟨x, _, rfl⟩ := hv
  rfl

/-- append(s, l...) where s has room: the block g holds s from its head on. -/
theorem append_room (t ty e : TypeId) {P : Program} (i : TypeInfo) (ht : P.underlying t = some (.slice e)) (hi : P.info? e = some i) (h1 : i.size = 1) (w : World) (g sLen sCap : Nat) (cur : Array Value) (hg : w.heap[g]? = some (.cells cur e (0, 0)))
    (p : Option Addr) (l : List UInt8) (c : Nat) (h : Rd w p l) (hroom : sLen + l.length ≤ sCap) (hcur : cur.size = sCap) :
    ∃ w', (Builtin.append_ #[t, t] ty #[.slice (some ⟨g, 0, none⟩) sLen sCap, .slice p l.length c]).run P w = .ok (.slice (some ⟨g, 0, none⟩) (sLen + l.length) sCap) w' ∧
      w'.heap[g]? = some (.cells (cur.toList.take sLen ++ Lib.byteCells l ++ cur.toList.drop (sLen + l.length)).toArray e (0, 0)) ∧ w.grownBy w' (some g) ∧ w'.heap.size = w.heap.size := by
  cases p with
  | none =>
    have hl : l = [] := by
      rcases h with h | ⟨b, o, e, _⟩
      · exact h
      · cases e
    subst hl
    refine ⟨w, ?_, ?_, ⟨rfl, rfl, rfl, Nat.le_refl _, fun _ _ _ => rfl⟩, rfl⟩
    · have hs : sLen ≤ sCap := by simpa using hroom
      simp [Builtin.append_, run_underlying ht, sizeOf, typeInfo, hi, Builtin.lenOf, Builtin.firstCells, hs, storeCells]
    · rw [hg]; simp [Lib.byteCells]
  | some a =>
    refine ⟨_, run_append_room (P := P) w t ty e i ht hi g sLen sCap cur hg a l.length c (Lib.byteCells l) (by rw [h1, Lib.byteCells_length, Nat.mul_one]) h.cells (one_bytes' l) hroom (by rw [h1, Lib.byteCells_length]; omega), ?_, ⟨rfl, rfl, rfl, by simp, fun k _ hk => setRow_other w g k _ (fun e => hk (by simp [e]))⟩, by simp⟩
    rw [setRow_heap w g cur _ e _ hg, h1, Nat.mul_one, Lib.byteCells_length]

/-- string(b). -/
theorem conv_string {w : World} {p : Option Addr} {l : List UInt8} (c : Nat) (h : Rd w p l) : (convert 25 9 (.slice p l.length c)).run Tryd.prog w = .ok (.string ⟨l.toArray⟩) w := by
  rcases h with rfl | ⟨b, o, rfl, _, hc⟩
  · cases p with
    | none => simp [convert, go_sem, Conv.bytesToString]; rfl
    | some a => simp [convert, go_sem, Conv.bytesToString]; rfl
  · have hb : Lib.Bytes w b o ⟨l.toArray⟩ := by
      intro i hi
      have hi' : i < l.length := by simpa [ByteArray.size] using hi
      rw [hc i hi', List.getD_eq_getElem?_getD, List.getElem?_eq_getElem hi']
      rfl
    have := Lib.run_convert_whole (P := Tryd.prog) w 25 5 9 Tryd.underlying25 Tryd.underlying5 Tryd.underlying9 b o ⟨l.toArray⟩ hb c
    simpa [ByteArray.size] using this

/-- int(uint(x) % n), as the walk writes it. -/
theorem pick_wrap (x : Int) (n : Nat) (m : Int) (hm : (n : Int) = m) (hn : 0 < n) (hn2 : n ≤ 2147483648) : ∃ K : Nat, wrap64 ((IntKind.u64.wrap x).tmod m) = (K : Int) ∧ K < n := by
  subst hm
  have h0 : 0 ≤ IntKind.u64.wrap x := by simp [IntKind.wrap, IntKind.bits, IntKind.signed]; omega
  rw [Int.tmod_eq_emod_of_nonneg h0]
  have h1 := Int.emod_nonneg (IntKind.u64.wrap x) (show (n : Int) ≠ 0 by omega)
  have h2 := Int.emod_lt_of_pos (IntKind.u64.wrap x) (show (0 : Int) < n by omega)
  refine ⟨(IntKind.u64.wrap x % (n : Int)).toNat, ?_, by omega⟩
  unfold wrap64
  omega

/-- A load of several cells that stands behind a guard that is met. -/
theorem wpList_load_g {P : Program} {ops : Array Oper} {rest : List Oper} {op : Oper} {a : Act} {w : World} {Q : Exit → Act → World → Prop} (hw : Region.wanted op (yielded ops a.tmps) = true) (ty : TypeId) (x : Operand) (ho : op.op = .load ty x)
    (b o : Nat) (hx : a.eval x = .pointer (some ⟨b, o, none⟩)) (cs : List Value) (d : TypeDesc) (hc : w.rangeAt b o cs)
    (hu : P.underlying ty = some d) (hd : d.isRow = true) (hi : (P.info? ty).map (·.size) = some cs.length)
    (h : wpList P ops Q rest (a.put op.dst (.agg cs.toArray)) w) : wpList P ops Q (op :: rest) a w :=
  wpList_step fun K hK => by rw [if_pos hw]; exact wp_load_mid ty x ho b o hx cs d hc hu hd hi (hK _ _ h)

/-- What a package-level variable holds stays, whatever the call makes. -/
theorem var_grew {P : Program} {W W' : World} {n : String} {cs : Array Value} (hb : Grew W W') (hv : W.var? P n = some cs) : W'.var? P n = some cs := by
  unfold World.var? at hv ⊢
  cases hg : P.globalNamed n with
  | none => simp [hg] at hv
  | some g =>
    simp only [hg, Option.bind_some] at hv ⊢
    have hlt : g < W.heap.size := by
      rcases Nat.lt_or_ge g W.heap.size with h | h
      · exact h
      · simp [Array.getElem?_eq_none h] at hv
    rw [hb.block g hlt]
    exact hv

end Go.Proofs.YtbdcncojiejdoaaDoor

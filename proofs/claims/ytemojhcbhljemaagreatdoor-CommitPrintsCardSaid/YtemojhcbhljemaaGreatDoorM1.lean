/- Several texts in one: Words, Words2, Tabs0, Range, Frozen, Buf, Gen, Gen2, Ids, KId, Idz, Pure01, Pure01b, Pure01c, PureCut, Pure11, Pure06, Pure06b, PureClean, PureClean2. -/
import Derived.Test.YtemojhcbhljemaaGreatDoorProg
import Derived.WalkKit
import Derived.WalkSpells
import Derived.WalkLawsBesides
import Derived.Lib.SlBytesRow
import Derived.Lib.SlFresh
import Derived.KernelRfl
import Derived.Laws.MakeOwn
import Derived.Lib.OthersKept
import Derived.Lib.Hide
import Derived.Deep.MidRow
import Derived.Laws.ResultCell
import Derived.Lib.AppendIntMem
import Derived.Lib.LaidTab
import Derived.Laws.Tables
import Derived.Lib.ConvBytes
import Derived.Lib.FrozenHead2
import Derived.Laws.AppendOwn
import Derived.Great.BuildSlice
import Derived.Deep.RegionHeldLaw
import Derived.ChangeKeysEq
import Derived.Laws.StructEq
import Derived.Lib.ItoaNum
import Derived.Lib.ParseIntB
import Derived.Lib.ParseIntBCases
import Derived.Lib.AtoiAll
import Derived.Lib.ItoaMem
import Derived.Lib.ItoaLen
import Derived.Lib.IndexMore
import Derived.Lib.IndexBytes
import Derived.Lib.IndexLaws
import Derived.Lib.ValidLaws
import Derived.Lib.Split
import Derived.Lib.SplitLaws
import Derived.Lib.Strings
import Derived.Laws.RangeAny
import Derived.Lib.MapLaws
import Derived.Lib.TrimByte

/- Words for bytes in memory and small facts on worlds that the walks of this seat share: plain, of no function of the program. -/
namespace Go.Proofs.YtemojhcbhljemaaGreatDoor
set_option linter.unusedVariables false
set_option linter.unusedSimpArgs false
open Go.RowKit

/-- The bytes l lie at p (an address, or nil where there is none). -/
def Rd (w : World) (p : Option Addr) (l : List UInt8) : Prop :=
  l = [] ∨ ∃ b o, p = some ⟨b, o, none⟩ ∧ b < w.heap.size ∧ ∀ i, i < l.length → w.cell? ⟨b, o + i, none⟩ = some (.int .u8 ((l.getD i 0).toNat : Int))

theorem Rd.nil (w : World) (p : Option Addr) : Rd w p [] := .inl rfl

theorem Rd.below {w w' : World} {p : Option Addr} {l : List UInt8} (h : Rd w p l) {B : Nat} (hb : Below B w w') (hB : w.heap.size ≤ B) : Rd w' p l := by
  rcases h with h | ⟨b, o, rfl, hlt, hc⟩
  · exact .inl h
  · exact .inr ⟨b, o, rfl, Nat.lt_of_lt_of_le hlt hb.size, fun i hi => (hb.cell (p := ⟨b, o + i, none⟩) (by show b < B; omega)).trans (hc i hi)⟩

/-- Below, said from the heap's size on. -/
abbrev Grew (w w' : World) : Prop := Below w.heap.size w w'

theorem Grew.trans' {a b c : World} (h : Grew a b) (k : Grew b c) : Grew a c := h.trans (k.mono h.size)

theorem byte_lt (x : UInt8) : (x.toNat : Int) < 256 := by have := x.toNat_lt; omega

/-- Two strings of the same bytes are one value. -/
theorem str_eq {a b : ByteArray} (h : a.data.toList = b.data.toList) : Value.string a = Value.string b := by
  cases a with | mk a => cases b with | mk b =>
  simp only at h
  rw [Array.toList_inj.1 h]

theorem ret_eq {a b : ByteArray} (h : a.data.toList = b.data.toList) : Ending.returned (Value.string a) = Ending.returned (Value.string b) := by rw [str_eq h]

theorem Grew.drewN {B : Nat} {w w' : World} (h : Below B w w') (n : Nat) : Below B w (w'.drewN n) := by
  induction n with
  | zero => exact h
  | succ n ih => exact ih.drew

theorem ret_int {k : IntKind} {a b : Int} (h : a = b) : Ending.returned (.int k a) = .returned (.int k b) := by rw [h]
theorem val_int {k : IntKind} {a b : Int} (h : a = b) : Value.int k a = .int k b := by rw [h]

/-- A slice of bytes that the call has made itself reads as its bytes. -/
theorem rd_of_owns {w : World} {B : Nat} {e : TypeId} {v : Value} {n : Nat} {l : List UInt8} (h : w.ownsRow B e 1 v n (Lib.byteCells l)) :
    n = l.length ∧ ∃ p cap, v = .slice p l.length cap ∧ l.length ≤ cap ∧ cap ≤ maxLen ∧ Rd w p l := by
  have hn : n = l.length := by have := h.1; rw [Lib.byteCells_length] at this; omega
  subst hn
  refine ⟨rfl, ?_⟩
  rcases h.2 with ⟨rfl, h0⟩ | ⟨g, cap, cur, rfl, hb, hg, hnc, hcm, hcs, ht⟩
  · have : l = [] := List.eq_nil_of_length_eq_zero h0
    subst this
    exact ⟨none, 0, rfl, Nat.le_refl _, by decide, .inl rfl⟩
  · refine ⟨_, cap, rfl, hnc, hcm, .inr ⟨g, 0, rfl, (Array.getElem?_eq_some_iff.1 hg).1, fun i hi => ?_⟩⟩
    have hc := World.ownsRow.cells (w := w) (base := B) (e := e) (size := 1) (v := .slice (some ⟨g, 0, none⟩) l.length cap) (n := l.length) (xs := Lib.byteCells l) h (g := g) rfl i
      (.int .u8 ((l.getD i 0).toNat : Int)) (by simp [Lib.byteCells, List.getElem?_eq_getElem hi, List.getD_eq_getElem?_getD])
    have hadd : (⟨g, 0, none⟩ : Addr).add i = ⟨g, 0 + i, none⟩ := by unfold Addr.add; split <;> simp_all
    rw [← hadd]
    exact hc

theorem infoU8' : (Tryz.prog.info? 5).map (fun i => (i.zero, i.size, i.bytes)) = some (some (.int .u8 0), 1, 1) := by kernel_rfl

/-- make([]byte, 0, n). -/
theorem make_bytes (n : Nat) (hn : n ≤ 140737488355328) (w : World) : ∃ C : Array Value, C.size = n ∧
    (Instr.makeSlice 29 (.int .i64 0) (.int .i64 (n : Int))).run Tryz.prog w = .ok (.slice (some ⟨w.heap.size, 0, none⟩) 0 n) (w.alloc (.cells C 5)) := by
  obtain ⟨i0, hi, hz0, hz1, hz2⟩ := info_parts infoU8'
  have h := run_make (P := Tryz.prog) w 29 5 i0 (.int .u8 0) Tryz.underlying29 hi hz0 .i64 .i64 0 (n : Int) (by omega) (by omega) (by rw [hz2]; omega) (by omega)
  exact ⟨_, by simp [madeCells, hz1], h⟩

/-- A string's iterator stands where it stood while a row of the call's own grows. -/
theorem iter_grown {w w' : World} {B : Nat} {e : TypeId} {v : Value} {n : Nat} {xs : List Value} {k pos : Nat} {s : ByteArray} (ho : w.ownsRow B e 1 v n xs) (hk : w.heap[k]? = some (.stringIter s pos)) (hg : w.grownBy w' v.ownBlock) :
    w'.heap[k]? = some (.stringIter s pos) := by
  rw [hg.block k (Array.getElem?_eq_some_iff.1 hk).1 ?_]
  · exact hk
  · intro e1
    rcases ho.2 with ⟨rfl, _⟩ | ⟨g, cap, cur, rfl, _, hgg, _⟩
    · simp [Value.ownBlock] at e1
    · simp only [Value.ownBlock, Option.some.injEq] at e1
      subst e1
      rw [hgg] at hk
      cases hk

/-- A row of the call's own stays its own while an iterator moves on. -/
theorem own_iterAt {w : World} {B : Nat} {e : TypeId} {v : Value} {n : Nat} {xs : List Value} {k pos : Nat} {s : ByteArray} (h : w.ownsRow B e 1 v n xs) (hk : w.heap[k]? = some (.stringIter s pos)) (p : Nat) :
    (w.iterAt k s p).ownsRow B e 1 v n xs := by
  refine ⟨h.1, ?_⟩
  rcases h.2 with h2 | ⟨g, cap, cur, rfl, hb, hg, r⟩
  · exact .inl h2
  · have hkg : g ≠ k := by
      intro e1
      rw [e1, hk] at hg
      cases hg
    exact .inr ⟨g, cap, cur, rfl, hb, (Lib.iterAt_other w k g s p hkg).trans hg, r⟩

/-- s[k] of a string. -/
theorem index_str (s : ByteArray) (k : Nat) (c : UInt8) (h : s.data.toList[k]? = some c) (w : World) :
    (Instr.index 9 (.string s) (.int .i64 (k : Int))).run Tryz.prog w = .ok (.int .u8 (c.toNat : Int)) w := by
  have hk : k < s.size := by
    have := (List.getElem?_eq_some_iff.1 h).1
    simpa using this
  have hc : s[k]? = some c := by
    rw [getElem?_pos s k hk]
    have := (List.getElem?_eq_some_iff.1 h).2
    rw [← this]; rfl
  simp [Instr.index, Sem.run, go_sem, hc]

/-- An id as a value. -/
def idV (l : List UInt8) : Value := .agg (Lib.byteCells l).toArray
def zeros20 : List UInt8 := List.replicate 20 0

theorem infoId : (Tryz.prog.info? 23).map (·.size) = some 20 := by kernel_rfl
theorem infoId' {l : List UInt8} (h : l.length = 20) : (Tryz.prog.info? 23).map (·.size) = some (Lib.byteCells l).length := by rw [Lib.byteCells_length, h]; exact infoId
theorem infoId'' {l : List UInt8} (h : l.length = 20) : (Tryz.prog.info? 23).map (·.size) = some (Lib.byteCells l).toArray.size := by simpa using infoId' h
theorem arrayAt20 (p : Option Addr) (cap : Nat) (w : World) : (Instr.arrayAt 23 (.slice p 20 cap)).run Tryz.prog w = .ok (.pointer p) w := by simp [Instr.arrayAt, go_sem]
theorem one_bytes (l : List UInt8) : (Lib.byteCells l).toArray.all (·.oneCell') = true :=
  Array.all_eq_true_iff_forall_mem.2 fun v hv => by
    simp [Lib.byteCells] at hv
    obtain ⟨x, _, rfl⟩ := hv
    rfl
theorem idV_zero : idV zeros20 = .agg #[.int .u8 0, .int .u8 0, .int .u8 0, .int .u8 0, .int .u8 0, .int .u8 0, .int .u8 0, .int .u8 0, .int .u8 0, .int .u8 0, .int .u8 0, .int .u8 0, .int .u8 0, .int .u8 0, .int .u8 0, .int .u8 0, .int .u8 0, .int .u8 0, .int .u8 0, .int .u8 0] := by rfl

/-- A row of bytes that the call owns, block, offset and all. -/
theorem owns_at {w : World} {B : Nat} {e : TypeId} {v : Value} {n : Nat} {l : List UInt8} (h : w.ownsRow B e 1 v n (Lib.byteCells l)) (h0 : 0 < l.length) :
    ∃ g cap, v = .slice (some ⟨g, 0, none⟩) l.length cap ∧ B ≤ g ∧ g < w.heap.size ∧ l.length ≤ cap ∧ cap ≤ maxLen ∧ w.rangeAt g 0 (Lib.byteCells l) := by
  have hn : n = l.length := by have := h.1; rw [Lib.byteCells_length] at this; omega
  subst hn
  rcases h.2 with ⟨rfl, h1⟩ | ⟨g, cap, cur, rfl, hb, hg, hnc, hcm, hcs, ht⟩
  · omega
  · refine ⟨g, cap, rfl, hb, (Array.getElem?_eq_some_iff.1 hg).1, hnc, hcm, fun j v hv => ?_⟩
    rw [cell_of_row w g _ cur e (0, 0) hg]
    rw [← ht, List.getElem?_take] at hv
    split at hv
    · simpa using hv
    · cases hv

theorem bit_or_16 : ∀ u : Nat, u < 16 → ∀ v : Nat, v < 16 → Go.bits .or .u8 (16 * (u : Int)) (v : Int) = 16 * (u : Int) + v := by decide

end Go.Proofs.YtemojhcbhljemaaGreatDoor

/- More words for memory that the walks of this seat share (variables of several cells, results that lie in memory): plain, of no function of the program. -/
namespace Go.Proofs.YtemojhcbhljemaaGreatDoor
set_option linter.unusedVariables false
set_option linter.unusedSimpArgs false
open Go.RowKit

theorem results_cell_tmp_mid {P : Program} {fn : Func} {p u : Tmp} {ty : TypeId} (h : fn.results = #[.cell p ty, .tmp u]) (tmps : Array Value) (w : World) (b o : Nat) (cs : List Value) (d : TypeDesc)
    (hp : tmps.getD p undef = .pointer (some ⟨b, o, none⟩)) (hc : w.rangeAt b o cs) (hu : P.underlying ty = some d) (hd : d.isRow = true) (hi : (P.info? ty).map (·.size) = some cs.length) :
    (results fn tmps).run P w = .ok (.tuple #[.agg cs.toArray, tmps.getD u undef]) w := by
  rw [results_cell_tmp h, hp]
  simp only [asAddr, Sem.run_pure, Result.andThen_ok, run_loadVar_mid w b o ty cs d hc hu hd hi]

theorem results_cell_mid {P : Program} {fn : Func} {p : Tmp} {ty : TypeId} (h : fn.results = #[.cell p ty]) (tmps : Array Value) (w : World) (b o : Nat) (cs : List Value) (d : TypeDesc)
    (hp : tmps.getD p undef = .pointer (some ⟨b, o, none⟩)) (hc : w.rangeAt b o cs) (hu : P.underlying ty = some d) (hd : d.isRow = true) (hi : (P.info? ty).map (·.size) = some cs.length) :
    (results fn tmps).run P w = .ok (.agg cs.toArray) w := by
  have hp' : tmps[p]?.getD undef = .pointer (some ⟨b, o, none⟩) := by simpa using hp
  simp [results, h, hp', asAddr, run_loadVar_mid w b o ty cs d hc hu hd hi]

theorem below_setRow {B : Nat} {a w : World} (h : Below B a w) {g : Nat} (hg : B ≤ g) (cs : Array Value) : Below B a (w.setRow g cs) :=
  h.trans ⟨rfl, rfl, rfl, by simp, fun k hk => setRow_other w g k cs (by omega)⟩

theorem range_row {w : World} {g : Nat} {cs : Array Value} {t : TypeId} {fz : Nat × Nat} (hg : w.heap[g]? = some (.cells cs t fz)) : w.rangeAt g 0 cs.toList := fun j v hv => by
  rw [cell_of_row w g _ cs t fz hg]
  simpa using hv

theorem range_setRow {w : World} {g : Nat} {old : Array Value} {t : TypeId} {fz : Nat × Nat} (hg : w.heap[g]? = some (.cells old t fz)) (cs : List Value) : (w.setRow g cs.toArray).rangeAt g 0 cs := by
  have := range_row (setRow_heap w g old cs.toArray t fz hg)
  simpa using this

/-- A range below B is as it was. -/
theorem range_below {B : Nat} {w w' : World} (h : Below B w w') {b o : Nat} {cs : List Value} (hr : w.rangeAt b o cs) (hb : b < B) : w'.rangeAt b o cs := fun j v hv => (h.cell (p := ⟨b, o + j, none⟩) hb).trans (hr j v hv)

theorem byteCells_getElem? (l : List UInt8) (i : Nat) : (Lib.byteCells l)[i]? = (l[i]?).map fun b => Value.int .u8 (b.toNat : Int) := by simp [Lib.byteCells]

/-- Rd, cell by cell, as append asks it. -/
theorem Rd.cells {w : World} {a : Addr} {l : List UInt8} (h : Rd w (some a) l) : ∀ j u, (Lib.byteCells l)[j]? = some u → w.cell? (a.add j) = some u := by
  intro j u hu
  rcases h with rfl | ⟨b, o, e, _, hc⟩
  · simp [Lib.byteCells] at hu
  · cases e
    have hj : j < l.length := by have := (List.getElem?_eq_some_iff.1 hu).1; rwa [Lib.byteCells_length] at this
    rw [byteCells_getElem?, List.getElem?_eq_getElem hj] at hu
    rw [Addr.add_mid, hc j hj, List.getD_eq_getElem?_getD, List.getElem?_eq_getElem hj]
    exact hu

theorem one_bytes' (l : List UInt8) : ∀ u ∈ Lib.byteCells l, u.oneCell' = true := by
  intro v hv
  simp [Lib.byteCells] at hv
  obtain ⟨x, _, rfl⟩ := hv
  rfl

/-- append(s, l...) where s has room: the block g holds s from its head on. -/
theorem append_room (t ty e : TypeId) {P : Program} (i : TypeInfo) (ht : P.underlying t = some (.slice e)) (hi : P.info? e = some i) (h1 : i.size = 1) (w : World) (g sLen sCap : Nat) (cur : Array Value) (hg : w.heap[g]? = some (.cells cur e (0, 0)))
    (p : Option Addr) (l : List UInt8) (c : Nat) (h : Rd w p l) (hroom : sLen + l.length ≤ sCap) (hcur : cur.size = sCap) :
    ∃ w', (Builtin.append_ #[t, t] ty #[.slice (some ⟨g, 0, none⟩) sLen sCap, .slice p l.length c]).run P w = .ok (.slice (some ⟨g, 0, none⟩) (sLen + l.length) sCap) w' ∧
      w'.heap[g]? = some (.cells (cur.toList.take sLen ++ Lib.byteCells l ++ cur.toList.drop (sLen + l.length)).toArray e (0, 0)) ∧ w.grownBy w' (some g) ∧ w'.heap.size = w.heap.size := by
  cases p with
  | none =>
    have hl : l = [] := by
      rcases h with h | ⟨b, o, e, _⟩
      · exact h
      · cases e
    subst hl
    refine ⟨w, ?_, ?_, ⟨rfl, rfl, rfl, Nat.le_refl _, fun _ _ _ => rfl⟩, rfl⟩
    · have hs : sLen ≤ sCap := by simpa using hroom
      simp [Builtin.append_, run_underlying ht, sizeOf, typeInfo, hi, Builtin.lenOf, Builtin.firstCells, hs, storeCells]
    · rw [hg]; simp [Lib.byteCells]
  | some a =>
    refine ⟨_, run_append_room (P := P) w t ty e i ht hi g sLen sCap cur hg a l.length c (Lib.byteCells l) (by rw [h1, Lib.byteCells_length, Nat.mul_one]) h.cells (one_bytes' l) hroom (by rw [h1, Lib.byteCells_length]; omega), ?_, ⟨rfl, rfl, rfl, by simp, fun k _ hk => setRow_other w g k _ (fun e => hk (by simp [e]))⟩, by simp⟩
    rw [setRow_heap w g cur _ e _ hg, h1, Nat.mul_one, Lib.byteCells_length]

/-- string(b). -/
theorem conv_string {w : World} {p : Option Addr} {l : List UInt8} (c : Nat) (h : Rd w p l) : (convert 29 9 (.slice p l.length c)).run Tryz.prog w = .ok (.string ⟨l.toArray⟩) w := by
  rcases h with rfl | ⟨b, o, rfl, _, hc⟩
  · cases p with
    | none => simp [convert, go_sem, Conv.bytesToString]; rfl
    | some a => simp [convert, go_sem, Conv.bytesToString]; rfl
  · have hb : Lib.Bytes w b o ⟨l.toArray⟩ := by
      intro i hi
      have hi' : i < l.length := by simpa [ByteArray.size] using hi
      rw [hc i hi', List.getD_eq_getElem?_getD, List.getElem?_eq_getElem hi']
      rfl
    have := Lib.run_convert_whole (P := Tryz.prog) w 29 5 9 Tryz.underlying29 Tryz.underlying5 Tryz.underlying9 b o ⟨l.toArray⟩ hb c
    simpa [ByteArray.size] using this

/-- int(uint(x) % n), as the walk writes it. -/
theorem pick_wrap (x : Int) (n : Nat) (m : Int) (hm : (n : Int) = m) (hn : 0 < n) (hn2 : n ≤ 2147483648) : ∃ K : Nat, wrap64 ((IntKind.u64.wrap x).tmod m) = (K : Int) ∧ K < n := by
  subst hm
  have h0 : 0 ≤ IntKind.u64.wrap x := by simp [IntKind.wrap, IntKind.bits, IntKind.signed]; omega
  rw [Int.tmod_eq_emod_of_nonneg h0]
  have h1 := Int.emod_nonneg (IntKind.u64.wrap x) (show (n : Int) ≠ 0 by omega)
  have h2 := Int.emod_lt_of_pos (IntKind.u64.wrap x) (show (0 : Int) < n by omega)
  refine ⟨(IntKind.u64.wrap x % (n : Int)).toNat, ?_, by omega⟩
  unfold wrap64
  omega

/-- A load of several cells that stands behind a guard that is met. -/
theorem wpList_load_g {P : Program} {ops : Array Oper} {rest : List Oper} {op : Oper} {a : Act} {w : World} {Q : Exit → Act → World → Prop} (hw : Region.wanted op (yielded ops a.tmps) = true) (ty : TypeId) (x : Operand) (ho : op.op = .load ty x)
    (b o : Nat) (hx : a.eval x = .pointer (some ⟨b, o, none⟩)) (cs : List Value) (d : TypeDesc) (hc : w.rangeAt b o cs)
    (hu : P.underlying ty = some d) (hd : d.isRow = true) (hi : (P.info? ty).map (·.size) = some cs.length)
    (h : wpList P ops Q rest (a.put op.dst (.agg cs.toArray)) w) : wpList P ops Q (op :: rest) a w :=
  wpList_step fun K hK => by rw [if_pos hw]; exact wp_load_mid ty x ho b o hx cs d hc hu hd hi (hK _ _ h)

/-- What a package-level variable holds stays, whatever the call makes. -/
theorem var_grew {P : Program} {W W' : World} {n : String} {cs : Array Value} (hb : Grew W W') (hv : W.var? P n = some cs) : W'.var? P n = some cs := by
  unfold World.var? at hv ⊢
  cases hg : P.globalNamed n with
  | none => simp [hg] at hv
  | some g =>
    simp only [hg, Option.bind_some] at hv ⊢
    have hlt : g < W.heap.size := by
      rcases Nat.lt_or_ge g W.heap.size with h | h
      · exact h
      · simp [Array.getElem?_eq_none h] at hv
    rw [hb.block g hlt]
    exact hv

end Go.Proofs.YtemojhcbhljemaaGreatDoor

/- A cell that stands, stands behind what only makes new blocks. No function of the program. -/
namespace Go.Proofs.YtemojhcbhljemaaGreatDoor
set_option linter.unusedVariables false
set_option linter.unusedSimpArgs false
open Go.RowKit

theorem cell_lt {w : World} {p : Addr} {v : Value} (h : w.cell? p = some v) : p.block < w.heap.size := World.block_lt_of_cell? _ _ h
theorem cell_grew {w w' : World} {p : Addr} {v : Value} (h : w.cell? p = some v) (hb : Grew w w') : w'.cell? p = some v := (hb.cell (cell_lt h)).trans h

end Go.Proofs.YtemojhcbhljemaaGreatDoor

/- Rows of cells in memory (structs, arrays, slices of them): read, laid anew. No function of the program. -/
namespace Go.Proofs.YtemojhcbhljemaaGreatDoor
set_option linter.unusedVariables false
set_option linter.unusedSimpArgs false
open Go.RowKit

theorem range_grew {w w' : World} {b o : Nat} {cs : List Value} (h : w.rangeAt b o cs) (g : Grew w w') : w'.rangeAt b o cs := fun j v hv => cell_grew (h j v hv) g
theorem range_lt {w : World} {b o : Nat} {cs : List Value} (h : w.rangeAt b o cs) (h0 : 0 < cs.length) : b < w.heap.size :=
  cell_lt (h 0 _ (List.getElem?_eq_getElem h0))
theorem range_drop {w : World} {b o : Nat} {cs : List Value} (h : w.rangeAt b o cs) (k : Nat) : w.rangeAt b (o + k) (cs.drop k) := by
  intro j v hv
  rw [List.getElem?_drop] at hv
  rw [Nat.add_assoc]
  exact h _ v hv
theorem range_pre {w : World} {b o : Nat} {cs ds : List Value} (h : w.rangeAt b o (cs ++ ds)) : w.rangeAt b o cs := by
  intro j v hv
  refine h j v ?_
  rw [List.getElem?_append_left (List.getElem?_eq_some_iff.1 hv).1]
  exact hv
theorem range_suf {w : World} {b o : Nat} {cs ds : List Value} (h : w.rangeAt b o (cs ++ ds)) : w.rangeAt b (o + cs.length) ds := by
  have := range_drop h cs.length
  rwa [List.drop_left'] at this
  rfl
theorem range_app {w : World} {b o : Nat} {cs ds : List Value} (h : w.rangeAt b o cs) (k : w.rangeAt b (o + cs.length) ds) : w.rangeAt b o (cs ++ ds) := by
  intro j v hv
  by_cases hj : j < cs.length
  · rw [List.getElem?_append_left hj] at hv
    exact h j v hv
  · rw [List.getElem?_append_right (by omega)] at hv
    have := k _ v hv
    rwa [Nat.add_assoc, Nat.add_sub_cancel' (by omega)] at this

/-- A fresh variable of several cells gets its value: what is known behind it. -/
theorem wpList_store_new {P : Program} {ops : Array Oper} {rest : List Oper} {op : Oper} {a : Act} {w : World} {Q : Exit → Act → World → Prop} (hgd : op.guard = none) (ty : TypeId) (x y : Operand) (ho : op.op = .store ty x y) (w0 : World) (zs : Array Value) (hw : w = w0.alloc (.cells zs ty)) (cells : List Value)
    (hx : a.eval x = .pointer (some ⟨w0.heap.size, 0, none⟩)) (hy : a.eval y = .agg cells.toArray) (hsz : zs.size = cells.length) (hi : (P.info? ty).map (·.size) = some cells.length) (h1 : ∀ v ∈ cells, v.oneCell' = true)
    (h : ∀ W', Grew w0 W' → Grew W' W' → (∀ W, Grew W' W → W.rangeAt w0.heap.size 0 cells) → (∀ W, Grew W' W → ∀ j, W.frozen? ⟨w0.heap.size, j, none⟩ = false) → w0.heap.size < W'.heap.size → wpList P ops Q rest (a.put op.dst undef) W') : wpList P ops Q (op :: rest) a w := by
  subst hw
  refine wpList_store_row hgd ty x y ho w0.heap.size cells.toArray hx hy ty zs (heap_alloc_new w0 _) (by simpa using hi) (by simpa using hsz) (all_oneCell_toArray h1) ?_
  have hb := setRow_heap (w0.alloc (.cells zs ty)) w0.heap.size zs cells.toArray ty (0, 0) (heap_alloc_new w0 _)
  refine h _ (below_setRow ((Below.refl _ _).alloc (Nat.le_refl _) _) (Nat.le_refl _) _) (Below.refl _ _) (fun W g => range_grew ?_ g) (fun W g j => ?_) (by simp)
  · have := range_row hb
    simpa using this
  · have h2 := (g.block w0.heap.size (Array.getElem?_eq_some_iff.1 hb).1).trans hb
    simp [World.frozen?, h2]

/-- What is written to another block, and new blocks, leave a row. -/
theorem range_grown {w w' : World} {b o : Nat} {cs : List Value} {row : Option Nat} (h : w.rangeAt b o cs) (hg : w.grownBy w' row) (hne : row ≠ some b) : w'.rangeAt b o cs := by
  intro j v hv
  have h1 := h j v hv
  have hb := cell_lt h1
  unfold World.cell? at h1 ⊢
  rw [hg.block b hb (fun e => hne e.symm)]
  exact h1
theorem cell_grown {w w' : World} {p : Addr} {v : Value} {row : Option Nat} (h : w.cell? p = some v) (hg : w.grownBy w' row) (hne : row ≠ some p.block) : w'.cell? p = some v := by
  have hb := cell_lt h
  unfold World.cell? at h ⊢
  rw [hg.block p.block hb (fun e => hne e.symm)]
  exact h
/-- Bytes of a row, read as bytes. -/
theorem rd_range {w : World} {b o : Nat} {l : List UInt8} (h : w.rangeAt b o (Lib.byteCells l)) : Rd w (some ⟨b, o, none⟩) l := by
  by_cases h0 : l = []
  · exact .inl h0
  · refine .inr ⟨b, o, rfl, range_lt h (by rw [Lib.byteCells_length]; exact List.length_pos_iff.2 h0), fun i hi => h i _ ?_⟩
    rw [byteCells_getElem?, List.getElem?_eq_getElem hi, List.getD_eq_getElem?_getD, List.getElem?_eq_getElem hi]
    rfl

/-- A variable of several cells gets its value, in a region that draws. -/
theorem step_store_at {P : Program} {ops : Array Oper} {op : Oper} {a : Act} {w : World} {K : Act → World → Prop} {Q : Exit → Act → World → Prop} {E : Prop} (hgd : op.guard = none) (ty : TypeId) (x y : Operand) (ho : op.op = .store ty x y) (g : Nat) (old : Array Value) (t : TypeId) (cells : List Value)
    (hx : a.eval x = .pointer (some ⟨g, 0, none⟩)) (hy : a.eval y = .agg cells.toArray) (hg : w.heap[g]? = some (.cells old t (0, 0))) (hsz : old.size = cells.length) (hi : (P.info? ty).map (·.size) = some cells.length) (h1 : ∀ v ∈ cells, v.oneCell' = true)
    (h : ∀ w', w'.heap[g]? = some (.cells cells.toArray t (0, 0)) → w.grownBy w' (some g) → w'.heap.size = w.heap.size → K (a.put op.dst undef) w') : if Region.wanted op (yielded ops a.tmps) = true then Oper.wp P op a w K Q else E := by
  have hw : Region.wanted op (yielded ops a.tmps) = true := by simp [Region.wanted, hgd]
  rw [if_pos hw]
  exact wp_store_row ty x y ho g cells.toArray hx hy t old hg (by simpa using hi) (by simpa using hsz) (all_oneCell_toArray h1) (h _ (setRow_heap w g old cells.toArray t (0, 0) hg) ⟨rfl, rfl, rfl, by simp, fun k _ hk => setRow_other w g k _ (fun e => hk (by simp [e]))⟩ (by simp))

end Go.Proofs.YtemojhcbhljemaaGreatDoor

/- A row whose last place behind its bytes is frozen (what []byte(s) makes): its cells may be set, and it reads as its bytes. No function of the program. -/
namespace Go.Proofs.YtemojhcbhljemaaGreatDoor
set_option linter.unusedVariables false
set_option linter.unusedSimpArgs false
open Go.RowKit

theorem set_cell_any (w : World) (g i : Nat) (cs : Array Value) (t : TypeId) (fz : Nat × Nat) (v : Value) (hg : w.heap[g]? = some (.cells cs t fz)) :
    (w.setCell ⟨g, i, none⟩ v).heap[g]? = some (.cells (cs.setIfInBounds i v) t fz) := by
  rw [setCell_eq_setRow w g i cs t fz v hg]
  exact setRow_heap w g cs _ t _ hg
theorem frozen_any (w : World) (g j : Nat) (cs : Array Value) (t : TypeId) (lo hi : Nat) (hg : w.heap[g]? = some (.cells cs t (lo, hi))) (hj : j < lo) : w.frozen? ⟨g, j, none⟩ = false := by
  simp [World.frozen?, hg]
  omega
/-- The cells hold the bytes l, from the head on. -/
def Holds8 (cs : Array Value) (l : List UInt8) : Prop := ∀ i, i < l.length → cs[i]? = some (.int .u8 ((l.getD i 0).toNat : Int))
theorem holds_bytes (w : World) (t : TypeId) (s : ByteArray) : Holds8 (Lib.bytesCells w t s) s.data.toList := by
  intro i hi
  have hs : s.data.toList.length = s.data.size := Array.length_toList
  unfold Lib.bytesCells
  rw [Array.getElem?_append_left (by rw [Array.size_map]; omega), Array.getElem?_map, ← Array.getElem?_toList, List.getElem?_eq_getElem hi, List.getD_eq_getElem?_getD, List.getElem?_eq_getElem hi]
  rfl
theorem holds_size {cs : Array Value} {l : List UInt8} (h : Holds8 cs l) : l.length ≤ cs.size := by
  apply Classical.byContradiction
  intro hn
  have := h cs.size (by omega)
  simp at this
theorem holds_set {cs : Array Value} {l : List UInt8} (h : Holds8 cs l) (k : Nat) (c : UInt8) : Holds8 (cs.setIfInBounds k (.int .u8 (c.toNat : Int))) (l.set k c) := by
  intro i hi
  rw [List.length_set] at hi
  have hsz := holds_size h
  rw [Array.getElem?_setIfInBounds, List.getD_eq_getElem?_getD, List.getElem?_set]
  by_cases e : k = i
  · subst e
    rw [if_pos rfl, if_pos rfl, if_pos (by omega), if_pos hi]
    rfl
  · rw [if_neg e, if_neg e, h i hi, List.getD_eq_getElem?_getD]
theorem rd_holds {w : World} {g : Nat} {cs : Array Value} {t : TypeId} {fz : Nat × Nat} {l : List UInt8} (hg : w.heap[g]? = some (.cells cs t fz)) (h : Holds8 cs l) : Rd w (some ⟨g, 0, none⟩) l :=
  .inr ⟨g, 0, rfl, (Array.getElem?_eq_some_iff.1 hg).1, fun i hi => by
    rw [cell_of_row w g _ cs t fz hg, Nat.zero_add]
    exact h i hi⟩

end Go.Proofs.YtemojhcbhljemaaGreatDoor

/- Bytes that a call has made itself, in a row whose head, or whose place behind the last cell, may be frozen: appended to, read, converted. No function of the program. -/
namespace Go.Proofs.YtemojhcbhljemaaGreatDoor
set_option linter.unusedVariables false
set_option linter.unusedSimpArgs false
open Go.RowKit

/-- The slice v of bytes, made from base on, holds l. -/
def OwnB (w : World) (base : Nat) (v : Value) (l : List UInt8) : Prop :=
  (v = .slice none 0 0 ∧ l = []) ∨
  ∃ g cap cur fz, v = .slice (some ⟨g, 0, none⟩) l.length cap ∧ base ≤ g ∧ w.heap[g]? = some (.cells cur 5 fz) ∧ (fz.2 ≤ l.length ∨ cap ≤ fz.1) ∧ l.length ≤ cap ∧ cap ≤ maxLen ∧ cur.size = cap ∧ cur.toList.take l.length = Lib.byteCells l

theorem OwnB.nil (w : World) (base : Nat) : OwnB w base (.slice none 0 0) [] := .inl ⟨rfl, rfl⟩

theorem OwnB.lt {w : World} {base : Nat} {v : Value} {l : List UInt8} (h : OwnB w base v l) : ∀ k, v.ownBlock = some k → base ≤ k ∧ k < w.heap.size := by
  intro k hk
  rcases h with ⟨rfl, _⟩ | ⟨g, cap, cur, fz, rfl, hb, hg, _⟩
  · simp [Value.ownBlock] at hk
  · simp [Value.ownBlock] at hk
    subst hk
    exact ⟨hb, (Array.getElem?_eq_some_iff.1 hg).1⟩

theorem OwnB.kept {w w' : World} {base : Nat} {v : Value} {l : List UInt8} {row : Option Nat} (h : OwnB w base v l) (hg : w.grownBy w' row) (hne : v.ownBlock = none ∨ v.ownBlock ≠ row) : OwnB w' base v l := by
  rcases h with hn | ⟨g, cap, cur, fz, rfl, hb, hgg, rest⟩
  · exact .inl hn
  · refine .inr ⟨g, cap, cur, fz, rfl, hb, ?_, rest⟩
    rw [hg.block g (Array.getElem?_eq_some_iff.1 hgg).1 (by simpa [Value.ownBlock] using hne)]
    exact hgg

/-- What only makes new blocks leaves it. -/
theorem OwnB.below {w w' : World} {base : Nat} {v : Value} {l : List UInt8} (h : OwnB w base v l) (hb : Grew w w') : OwnB w' base v l := by
  rcases h with hn | ⟨g, cap, cur, fz, rfl, hbs, hgg, rest⟩
  · exact .inl hn
  · exact .inr ⟨g, cap, cur, fz, rfl, hbs, (hb.block g (Array.getElem?_eq_some_iff.1 hgg).1).trans hgg, rest⟩
theorem OwnB.base {w : World} {B C : Nat} {v : Value} {l : List UInt8} (h : OwnB w C v l) (hBC : B ≤ C) : OwnB w B v l := by
  rcases h with hn | ⟨g, cap, cur, fz, rfl, hbs, rest⟩
  · exact .inl hn
  · exact .inr ⟨g, cap, cur, fz, rfl, by omega, rest⟩

theorem OwnB.val {w : World} {base : Nat} {v : Value} {l : List UInt8} (h : OwnB w base v l) : ∃ p cap, v = .slice p l.length cap ∧ Rd w p l ∧ l.length ≤ cap ∧ (∀ a, p = some a → base ≤ a.block ∧ a.block < w.heap.size) := by
  rcases h with ⟨rfl, rfl⟩ | ⟨g, cap, cur, fz, rfl, hb, hg, hfz, hlc, hcm, hcs, ht⟩
  · exact ⟨none, 0, rfl, .inl rfl, Nat.le_refl _, fun a h => by cases h⟩
  · have hlt := (Array.getElem?_eq_some_iff.1 hg).1
    refine ⟨_, cap, rfl, .inr ⟨g, 0, rfl, hlt, fun i hi => ?_⟩, hlc, fun a h => by cases h; exact ⟨hb, hlt⟩⟩
    rw [cell_of_row w g _ cur _ fz hg, Nat.zero_add]
    have h1 : (Lib.byteCells l)[i]? = some (.int .u8 ((l.getD i 0).toNat : Int)) := by simp [Lib.byteCells, List.getElem?_eq_getElem hi, List.getD_eq_getElem?_getD]
    rw [← ht, List.getElem?_take, if_pos hi] at h1
    simpa using h1

theorem OwnB.of_ownsRow {w : World} {base : Nat} {v : Value} {n : Nat} {l : List UInt8} (h : w.ownsRow base 5 1 v n (Lib.byteCells l)) : OwnB w base v l := by
  have hn : n = l.length := by have := h.1; rw [Lib.byteCells_length] at this; omega
  subst hn
  rcases h.2 with ⟨rfl, h0⟩ | ⟨g, cap, cur, rfl, hb, hg, hnc, hcm, hcs, ht⟩
  · exact .inl ⟨rfl, List.eq_nil_of_length_eq_zero h0⟩
  · exact .inr ⟨g, cap, cur, (0, 0), rfl, hb, hg, .inl (Nat.zero_le _), hnc, hcm, by omega, by simpa using ht⟩

/-- '[]byte(s)'. -/
theorem OwnB.conv {w : World} {base : Nat} (s : ByteArray) (hb : base ≤ w.heap.size) (hs : s.size ≤ 9223372036854775807) : OwnB (Lib.bytesWorld w 5 s) base (.slice (some ⟨w.heap.size, 0, none⟩) s.data.toList.length (grownCap w s.size 0 5)) s.data.toList := by
  have hl : s.data.toList.length = s.size := Array.length_toList
  have hge := grownCap_ge w s.size 0 5
  have hcm := grownCap_le_maxLen w s.size 0 5 (by unfold maxLen; exact hs)
  have hsz : (Lib.bytesCells w 5 s).size = grownCap w s.size 0 5 := by
    unfold Lib.bytesCells
    have : s.data.size = s.size := rfl
    rw [Array.size_append, Array.size_map, Array.size_replicate]
    omega
  refine .inr ⟨_, _, _, _, rfl, hb, Lib.bytesWorld_at_new w 5 s, .inr (by rw [hsz]; exact Nat.le_refl _), by omega, hcm, hsz, ?_⟩
  unfold Lib.bytesCells
  rw [Array.toList_append, List.take_append_of_le_length (by simp), List.take_of_length_le (by simp)]
  simp [Lib.byteCells]
theorem OwnB.conv' {w : World} {base : Nat} (s : ByteArray) (hb : base ≤ w.heap.size) (hs : s.size ≤ 9223372036854775807) : OwnB (Lib.bytesWorld w 5 s) base (.slice (some ⟨w.heap.size, 0, none⟩) s.size (grownCap w s.size 0 5)) s.data.toList := by
  have h := OwnB.conv s hb hs
  rwa [show s.data.toList.length = s.size from Array.length_toList] at h
/-- Two texts, one behind the other. -/
theorem str_add (a b c : ByteArray) (h : a.size + b.size < 9223372036854775808) (hc : a ++ b = c) (w : World) : (binOp .add 9 (.string a) (.string b)).run Tryz.prog w = .ok (.string c) w := by
  subst hc
  simp [binOp_string_add, Op.stringOp, go_sem, ByteArray.size_append]
  omega
theorem bytesWorld_grew (w : World) (s : ByteArray) : Grew w (Lib.bytesWorld w 5 s) :=
  ⟨rfl, rfl, rfl, by rw [Lib.bytesWorld_size]; omega, fun k hk => Lib.bytesWorld_at_old w _ s k hk⟩
theorem run_conv_bytes (w : World) (s : ByteArray) : (convert 9 29 (.string s)).run Tryz.prog w = .ok (.slice (some ⟨w.heap.size, 0, none⟩) s.data.toList.length (grownCap w s.size 0 5)) (Lib.bytesWorld w 5 s) := by
  have hl : s.data.toList.length = s.size := Array.length_toList
  rw [hl]
  exact Lib.run_convert_string_bytes w _ _ _ s Tryz.underlying9 Tryz.underlying29 Tryz.underlying5

theorem run_storeCells_atT (P : Program) (g o : Nat) (t : TypeId) (fz : Nat × Nat) : ∀ (vs : List Value) (i : Nat) (cur : Array Value) (w : World), w.heap[g]? = some (.cells cur t fz) → (fz.2 ≤ o + i ∨ o + i + vs.length ≤ fz.1) → o + i + vs.length ≤ cur.size → (∀ v ∈ vs, v.oneCell' = true) →
    (storeCells ⟨g, o, none⟩ vs i).run P w = .ok () (w.setRow g (cur.toList.take (o + i) ++ vs ++ cur.toList.drop (o + i + vs.length)).toArray)
  | [], i, cur, w, hg, _, _, _ => by
    simp only [storeCells, List.append_nil, List.length_nil, Nat.add_zero, List.take_append_drop, Array.toArray_toList]
    rw [setRow_self w g cur t fz hg]
    rfl
  | v :: rest, i, cur, w, hg, hfz, hl, h1 => by
    have hi : o + i < cur.size := by simp at hl; omega
    have hadd : (⟨g, o, none⟩ : Addr).add i = ⟨g, o + i, none⟩ := by unfold Addr.add; split <;> simp_all
    have hcell : w.cell? ⟨g, o + i, none⟩ = some cur[o + i] := by simp [World.cell?, hg, hi]
    have hfro : w.frozen? ⟨g, o + i, none⟩ = false := by
      obtain ⟨lo, hi'⟩ := fz
      simp only [World.frozen?, hg, Bool.and_eq_false_iff, decide_eq_false_iff_not]
      simp only [List.length_cons] at hfz
      omega
    have hst : (store ((⟨g, o, none⟩ : Addr).add i) v).run P w = .ok () (w.setRow g (cur.setIfInBounds (o + i) v)) := by
      rw [hadd, run_store P w _ v _ (h1 v (by simp)), hcell]
      simp [hfro, setCell_eq_setRow w g (o + i) cur t fz v hg]
    have ih := run_storeCells_atT P g o t fz rest (i + 1) (cur.setIfInBounds (o + i) v) (w.setRow g (cur.setIfInBounds (o + i) v)) (setRow_heap w g cur _ t _ hg) (by simp only [List.length_cons] at hfz; omega) (by simp at hl ⊢; omega) (fun x hx => h1 x (by simp [hx]))
    simp only [storeCells, Sem.run_bind, hst, Result.andThen_ok, ih, setRow_setRow]
    congr 3
    have e := list_seg_step cur.toList (o + i) v rest (by simp at hl ⊢; omega)
    simpa [Array.toList_setIfInBounds, Nat.add_assoc] using e

/-- What both sources of an append come to. -/
theorem append_core (v : Value) (l m : List UInt8) (w : World) (base : Nat) (hown : OwnB w base v l) (hbase : base ≤ w.heap.size) (h63 : l.length + m.length ≤ 140737488355328) (x : Value) (t2 : TypeId) (ty : TypeId) (i0 : TypeInfo) (hi : Tryz.prog.info? 5 = some i0) (hz0 : i0.zero = some (.int .u8 0)) (hz1 : i0.size = 1) (hz2 : i0.bytes = 1)
    (hnil : v = .slice none 0 0 → ∃ v' w', (Builtin.append_ #[29, t2] ty #[v, x]).run Tryz.prog w = .ok v' w' ∧ w'.ownsRow base 5 1 v' (0 + m.length) ([] ++ Lib.byteCells m) ∧ w.grownBy w' none)
    (hroom : ∀ g cap cur fz, v = .slice (some ⟨g, 0, none⟩) l.length cap → w.heap[g]? = some (.cells cur 5 fz) → (fz.2 ≤ l.length ∨ l.length + m.length ≤ fz.1) → l.length + m.length ≤ cap → l.length + m.length ≤ cur.size →
      (Builtin.append_ #[29, t2] ty #[v, x]).run Tryz.prog w = .ok (.slice (some ⟨g, 0, none⟩) (l.length + m.length) cap) (w.setRow g (cur.toList.take l.length ++ Lib.byteCells m ++ cur.toList.drop (l.length + m.length)).toArray))
    (hgrow : ∀ g cap, v = .slice (some ⟨g, 0, none⟩) l.length cap → (∀ j u, (Lib.byteCells l)[j]? = some u → w.cell? ((⟨g, 0, none⟩ : Addr).add j) = some u) → cap < l.length + m.length →
      (Builtin.append_ #[29, t2] ty #[v, x]).run Tryz.prog w = .ok (.slice (some ⟨w.heap.size, 0, none⟩) (l.length + m.length) (grownCap w (l.length + m.length) cap 5)) (w.drew.alloc (.cells ((Lib.byteCells l).toArray ++ (Lib.byteCells m).toArray ++ Builtin.zeroCells (Value.int .u8 0).cells (grownCap w (l.length + m.length) cap 5 - (l.length + m.length))) 5))) :
    ∃ v' w', (Builtin.append_ #[29, t2] ty #[v, x]).run Tryz.prog w = .ok v' w' ∧ OwnB w' base v' (l ++ m) ∧ Below base w w' ∧ w.grownBy w' v.ownBlock := by
  have hl0 := hown.lt
  rcases hown with ⟨rfl, rfl⟩ | ⟨g, cap, cur, fz, rfl, hbg, hg, hfz, hnc, hcm, hcs, htake⟩
  · obtain ⟨v', w', h1, h2, h3⟩ := hnil rfl
    exact ⟨v', w', h1, OwnB.of_ownsRow h2, (Below.refl _ _).grown h3 hbase (fun k hk => by cases hk), h3⟩
  · have hlen : (Lib.byteCells (l ++ m)).length = l.length + m.length := by rw [Lib.byteCells_length, List.length_append]
    have hlen2 : (l ++ m).length = l.length + m.length := List.length_append
    by_cases hr : l.length + m.length ≤ cap
    · have hrun := hroom g cap cur fz rfl hg (by omega) hr (by omega)
      have hgb : w.grownBy (w.setRow g (cur.toList.take l.length ++ Lib.byteCells m ++ cur.toList.drop (l.length + m.length)).toArray) (Value.slice (some ⟨g, 0, none⟩) l.length cap).ownBlock :=
        ⟨rfl, rfl, rfl, by simp, fun k _ hk => setRow_other w g k _ (fun e => hk (by simp [Value.ownBlock, e]))⟩
      refine ⟨_, _, hrun, .inr ⟨g, cap, _, fz, by rw [hlen2], hbg, setRow_heap w g cur _ _ _ hg, by omega, by omega, hcm, ?_, ?_⟩, (Below.refl _ _).grown hgb hbase (fun k hk => (hl0 k hk).1), hgb⟩
      · simp only [List.size_toArray, List.length_append, List.length_take, List.length_drop, Array.length_toList, Lib.byteCells_length]
        omega
      · rw [htake, ← Lib.byteCells_append, hlen2, ← hlen]
        exact List.take_left
    · have hcells : ∀ j u, (Lib.byteCells l)[j]? = some u → w.cell? ((⟨g, 0, none⟩ : Addr).add j) = some u := by
        intro j u hu
        rw [Addr.add_mid, Nat.zero_add, cell_of_row w g j cur _ fz hg]
        rw [← htake, List.getElem?_take] at hu
        split at hu
        · simpa using hu
        · cases hu
      have hrun := hgrow g cap rfl hcells (by omega)
      have hge := grownCap_ge w (l.length + m.length) cap 5
      have hcm2 : grownCap w (l.length + m.length) cap 5 ≤ maxLen := grownCap_le_maxLen w (l.length + m.length) cap 5 (by unfold maxLen; omega)
      have hgb : w.grownBy (w.drew.alloc (.cells ((Lib.byteCells l).toArray ++ (Lib.byteCells m).toArray ++ Builtin.zeroCells (Value.int .u8 0).cells (grownCap w (l.length + m.length) cap 5 - (l.length + m.length))) 5)) (Value.slice (some ⟨g, 0, none⟩) l.length cap).ownBlock :=
        ⟨rfl, rfl, rfl, by simp, fun k hk _ => heap_alloc_old w.drew _ hk⟩
      refine ⟨_, _, hrun, .inr ⟨w.heap.size, _, _, (0, 0), by rw [hlen2], hbase, heap_alloc_new w.drew _, .inl (Nat.zero_le _), by rw [hlen2]; exact hge, hcm2, ?_, ?_⟩, (Below.refl _ _).grown hgb hbase (fun k hk => (hl0 k hk).1), hgb⟩
      · have hz3 : (Value.int IntKind.u8 0).cells.size = 1 := rfl
        simp only [Array.size_append, List.size_toArray, size_zeroCells, hz3, Lib.byteCells_length]
        omega
      · simp only [Array.toList_append]
        rw [hlen2, ← hlen, Lib.byteCells_append]
        exact List.take_left

theorem infoB : ∃ i0, Tryz.prog.info? 5 = some i0 ∧ i0.zero = some (.int .u8 0) ∧ i0.size = 1 ∧ i0.bytes = 1 := info_parts infoU8'

/-- append(v, x...), x bytes in memory. -/
theorem own_append (v : Value) (l m : List UInt8) (p : Option Addr) (c : Nat) (w : World) (base : Nat) (ty : TypeId) (hown : OwnB w base v l) (hr : Rd w p m) (hbase : base ≤ w.heap.size) (h63 : l.length + m.length ≤ 140737488355328) :
    ∃ v' w', (Builtin.append_ #[29, 29] ty #[v, .slice p m.length c]).run Tryz.prog w = .ok v' w' ∧ OwnB w' base v' (l ++ m) ∧ Below base w w' ∧ w.grownBy w' v.ownBlock := by
  obtain ⟨i0, hi, hz0, hz1, hz2⟩ := infoB
  cases p with
  | none =>
    have hm : m = [] := by
      rcases hr with h | ⟨b, o, e, _⟩
      · exact h
      · cases e
    subst hm
    refine ⟨v, w, ?_, by rw [List.append_nil]; exact hown, Below.refl _ _, ⟨rfl, rfl, rfl, Nat.le_refl _, fun _ _ _ => rfl⟩⟩
    rcases hown with ⟨rfl, rfl⟩ | ⟨g, cap, cur, fz, rfl, hbg, hg, hfz, hnc, hcm, hcs, htake⟩
    · simp [Builtin.append_, run_underlying Tryz.underlying29, sizeOf, typeInfo, hi, Builtin.lenOf, Builtin.firstCells, storeCells]
    · simp [Builtin.append_, run_underlying Tryz.underlying29, sizeOf, typeInfo, hi, Builtin.lenOf, Builtin.firstCells, hnc, storeCells]
  | some a =>
    refine append_core v l m w base hown hbase h63 _ _ ty i0 hi hz0 hz1 hz2 ?_ ?_ ?_
    · intro hv
      subst hv
      have hl : l = [] := by
        rcases hown with ⟨_, h⟩ | ⟨g, cap, cur, fz, h, _⟩
        · exact h
        · cases h
      subst hl
      obtain ⟨v', w', r1, r2, r3, r4⟩ := run_append_own (P := Tryz.prog) w base 29 ty 5 i0 (.int .u8 0) 1 1 Tryz.underlying29 hi hz0 hz1 hz2 rfl (by decide) (.slice none 0 0) 0 [] ⟨by simp, .inl ⟨rfl, rfl⟩⟩ a m.length c (Lib.byteCells m) (by rw [Lib.byteCells_length, Nat.mul_one]) hr.cells (one_bytes' m) (by unfold maxLen; simp at h63; omega) (by simp at h63; omega) hbase
      exact ⟨v', w', r1, r2, r3⟩
    · intro g cap cur fz hv hg hfz hroom hfit
      subst hv
      have hf := run_firstCells_some (P := Tryz.prog) w 1 m.length a m.length c (Lib.byteCells m) (by rw [Lib.byteCells_length, Nat.mul_one]) hr.cells
      have hst := run_storeCells_atT Tryz.prog g l.length 5 fz (Lib.byteCells m) 0 cur w hg (by rw [Lib.byteCells_length]; simpa using hfz) (by rw [Lib.byteCells_length]; simpa using hfit) (one_bytes' m)
      simp only [Nat.add_zero, Lib.byteCells_length] at hst
      simp [Builtin.append_, run_underlying Tryz.underlying29, sizeOf, typeInfo, hi, hz1, Builtin.lenOf, hroom, hf, Addr.add_lit, hst]
    · intro g cap hv hc hcap
      subst hv
      have hlc : l.length ≤ cap := by
        rcases hown with ⟨h, _⟩ | ⟨g', cap', cur, fz, h, _, _, _, hn, _⟩
        · cases h
        · cases h; exact hn
      have hr := run_append_grow (P := Tryz.prog) w 29 ty 5 i0 (.int .u8 0) Tryz.underlying29 hi hz0 ⟨g, 0, none⟩ l.length cap (Lib.byteCells l) (by rw [Lib.byteCells_length, hz1, Nat.mul_one]) hc a m.length c (Lib.byteCells m) (by rw [Lib.byteCells_length, hz1, Nat.mul_one]) hr.cells (by omega) (by omega) (by rw [hz2]; exact growslice_fits (by omega) (by omega))
      exact hr

/-- append(v, s...), s a text. -/
theorem own_append_str (v : Value) (l : List UInt8) (s : ByteArray) (w : World) (base : Nat) (ty : TypeId) (hown : OwnB w base v l) (hbase : base ≤ w.heap.size) (h63 : l.length + s.size ≤ 140737488355328) :
    ∃ v' w', (Builtin.append_ #[29, 9] ty #[v, .string s]).run Tryz.prog w = .ok v' w' ∧ OwnB w' base v' (l ++ s.data.toList) ∧ Below base w w' ∧ w.grownBy w' v.ownBlock := by
  obtain ⟨i0, hi, hz0, hz1, hz2⟩ := infoB
  have hsl : s.data.toList.length = s.size := Array.length_toList
  have hsc : Lib.strCells s = Lib.byteCells s.data.toList := rfl
  refine append_core v l s.data.toList w base hown hbase (by omega) _ _ ty i0 hi hz0 hz1 hz2 ?_ ?_ ?_
  · intro hv
    subst hv
    have hl : l = [] := by
      rcases hown with ⟨_, h⟩ | ⟨g, cap, cur, fz, h, _⟩
      · exact h
      · cases h
    subst hl
    obtain ⟨v', w', r1, r2, r3, r4⟩ := Lib.run_append_own_string (P := Tryz.prog) w base 29 9 ty 5 i0 Tryz.underlying29 Tryz.underlying9 hi hz0 hz1 hz2 (.slice none 0 0) 0 [] ⟨by simp, .inl ⟨rfl, rfl⟩⟩ s (by unfold maxLen; simp at h63; omega) (by simp at h63; omega) hbase
    rw [hsl]
    exact ⟨v', w', r1, r2, r3⟩
  · intro g cap cur fz hv hg hfz hroom hfit
    subst hv
    rw [hsl] at hfz hroom hfit ⊢
    have hf := Lib.run_firstCells_string (P := Tryz.prog) w 1 s
    have hst := run_storeCells_atT Tryz.prog g l.length 5 fz (Lib.strCells s) 0 cur w hg (by rw [Lib.strCells_length]; simpa using hfz) (by rw [Lib.strCells_length]; simpa using hfit) (Lib.strCells_oneCell s)
    simp only [Nat.add_zero, Lib.strCells_length] at hst
    rw [← hsc]
    simp [Builtin.append_, run_underlying Tryz.underlying29, run_underlying Tryz.underlying9, sizeOf, typeInfo, hi, hz1, Builtin.lenOf, hroom, hf, Addr.add_lit, hst]
  · intro g cap hv hc hcap
    subst hv
    rw [hsl] at hcap ⊢
    have hlc : l.length ≤ cap := by
      rcases hown with ⟨h, _⟩ | ⟨g', cap', cur, fz, h, _, _, _, hn, _⟩
      · cases h
      · cases h; exact hn
    have hr := Lib.run_append_grow_string (P := Tryz.prog) w 29 9 ty 5 i0 (.int .u8 0) Tryz.underlying29 Tryz.underlying9 hi hz0 ⟨g, 0, none⟩ l.length cap (Lib.byteCells l) (by rw [Lib.byteCells_length, hz1, Nat.mul_one]) hc s (by omega) (by omega) (by rw [hz2]; exact growslice_fits (by omega) (by omega))
    exact hr

/-- The two, for a walk. -/
theorem wpList_append_B {ops : Array Oper} {rest : List Oper} {o : Oper} {a : Act} {w : World} {Q : Exit → Act → World → Prop} (hgd : o.guard = none) (s x : Operand)
    (ho : o.op = .call { callee := .builtin .append, args := #[s, x], argTypes := #[29, 29] }) (base : Nat) (v : Value) (l m : List UInt8) (p : Option Addr) (c : Nat) (hs : a.eval s = v) (hx : a.eval x = .slice p m.length c)
    (hown : OwnB w base v l) (hr : Rd w p m) (hbase : base ≤ w.heap.size) (h63 : l.length + m.length ≤ 140737488355328)
    (h : ∀ v' w', OwnB w' base v' (l ++ m) → Below base w w' → w.grownBy w' v.ownBlock → wpList Tryz.prog ops Q rest (a.put o.dst v') w') : wpList Tryz.prog ops Q (o :: rest) a w := by
  refine wpList_plain hgd fun K hK => ?_
  obtain ⟨v', w', hrun, h2, h3, h4⟩ := own_append v l m p c w base o.type hown hr hbase h63
  unfold Oper.wp execOp
  simp only [ho, resolve, invoke, builtin, Sem.run_bind, Sem.run_pure, Result.andThen_ok, List.map_toArray, List.map_cons, List.map_nil, hs, hx, hrun]
  exact hK _ _ (h v' w' h2 h3 h4)
theorem wpList_append_S {ops : Array Oper} {rest : List Oper} {o : Oper} {a : Act} {w : World} {Q : Exit → Act → World → Prop} (hgd : o.guard = none) (s x : Operand)
    (ho : o.op = .call { callee := .builtin .append, args := #[s, x], argTypes := #[29, 9] }) (base : Nat) (v : Value) (l : List UInt8) (t : ByteArray) (hs : a.eval s = v) (hx : a.eval x = .string t)
    (hown : OwnB w base v l) (hbase : base ≤ w.heap.size) (h63 : l.length + t.size ≤ 140737488355328)
    (h : ∀ v' w', OwnB w' base v' (l ++ t.data.toList) → Below base w w' → w.grownBy w' v.ownBlock → wpList Tryz.prog ops Q rest (a.put o.dst v') w') : wpList Tryz.prog ops Q (o :: rest) a w := by
  refine wpList_plain hgd fun K hK => ?_
  obtain ⟨v', w', hrun, h2, h3, h4⟩ := own_append_str v l t w base o.type hown hbase h63
  unfold Oper.wp execOp
  simp only [ho, resolve, invoke, builtin, Sem.run_bind, Sem.run_pure, Result.andThen_ok, List.map_toArray, List.map_cons, List.map_nil, hs, hx, hrun]
  exact hK _ _ (h v' w' h2 h3 h4)

/-- The two, as one step of a region that draws. -/
theorem step_append_B {ops : Array Oper} {o : Oper} {a : Act} {w : World} {K : Act → World → Prop} {Q : Exit → Act → World → Prop} {E : Prop} (hgd : o.guard = none) (s x : Operand)
    (ho : o.op = .call { callee := .builtin .append, args := #[s, x], argTypes := #[29, 29] }) (base : Nat) (v : Value) (l m : List UInt8) (p : Option Addr) (c : Nat) (hs : a.eval s = v) (hx : a.eval x = .slice p m.length c)
    (hown : OwnB w base v l) (hr : Rd w p m) (hbase : base ≤ w.heap.size) (h63 : l.length + m.length ≤ 140737488355328)
    (h : ∀ v' w', OwnB w' base v' (l ++ m) → Below base w w' → w.grownBy w' v.ownBlock → K (a.put o.dst v') w') : if Region.wanted o (yielded ops a.tmps) = true then Oper.wp Tryz.prog o a w K Q else E := by
  have hw : Region.wanted o (yielded ops a.tmps) = true := by simp [Region.wanted, hgd]
  rw [if_pos hw]
  obtain ⟨v', w', hrun, h2, h3, h4⟩ := own_append v l m p c w base o.type hown hr hbase h63
  unfold Oper.wp execOp
  simp only [ho, resolve, invoke, builtin, Sem.run_bind, Sem.run_pure, Result.andThen_ok, List.map_toArray, List.map_cons, List.map_nil, hs, hx, hrun]
  exact h v' w' h2 h3 h4
theorem step_append_S {ops : Array Oper} {o : Oper} {a : Act} {w : World} {K : Act → World → Prop} {Q : Exit → Act → World → Prop} {E : Prop} (hgd : o.guard = none) (s x : Operand)
    (ho : o.op = .call { callee := .builtin .append, args := #[s, x], argTypes := #[29, 9] }) (base : Nat) (v : Value) (l : List UInt8) (t : ByteArray) (hs : a.eval s = v) (hx : a.eval x = .string t)
    (hown : OwnB w base v l) (hbase : base ≤ w.heap.size) (h63 : l.length + t.size ≤ 140737488355328)
    (h : ∀ v' w', OwnB w' base v' (l ++ t.data.toList) → Below base w w' → w.grownBy w' v.ownBlock → K (a.put o.dst v') w') : if Region.wanted o (yielded ops a.tmps) = true then Oper.wp Tryz.prog o a w K Q else E := by
  have hw : Region.wanted o (yielded ops a.tmps) = true := by simp [Region.wanted, hgd]
  rw [if_pos hw]
  obtain ⟨v', w', hrun, h2, h3, h4⟩ := own_append_str v l t w base o.type hown hbase h63
  unfold Oper.wp execOp
  simp only [ho, resolve, invoke, builtin, Sem.run_bind, Sem.run_pure, Result.andThen_ok, List.map_toArray, List.map_cons, List.map_nil, hs, hx, hrun]
  exact h v' w' h2 h3 h4

/-- A block that a call lays ahead (an argument that is a struct): its cells stand in every later world. -/
theorem boxed (w : World) (cs : Array Value) (t : TypeId) : ∃ W0, w.alloc (.cells cs t) = W0 ∧ Grew w W0 ∧ Grew W0 W0 ∧ (∀ W, Grew W0 W → ∀ (j : Nat) v, cs[j]? = some v → W.cell? ⟨w.heap.size, j, none⟩ = some v) := by
  refine ⟨_, rfl, (Below.refl _ _).alloc (Nat.le_refl _) _, Below.refl _ _, fun W g j v hv => ?_⟩
  have h0 : (w.alloc (.cells cs t)).cell? ⟨w.heap.size, j, none⟩ = some v := by rw [cell_of_row _ _ _ _ _ (0, 0) (heap_alloc_new w _)]; exact hv
  exact (g.cell (World.block_lt_of_cell? _ _ h0)).trans h0
/-- Of such a block nothing is frozen. -/
theorem boxed_free {w W0 : World} {cs : Array Value} {t : TypeId} (h : w.alloc (.cells cs t) = W0) (W : World) (g : Grew W0 W) (j : Nat) : W.frozen? ⟨w.heap.size, j, none⟩ = false := by
  subst h
  have hb := heap_alloc_new w (.cells cs t)
  have hb2 := (g.block w.heap.size (Array.getElem?_eq_some_iff.1 hb).1).trans hb
  simp [World.frozen?, hb2]
/-- Bytes that lie in another block than the one that is written to. -/
theorem Rd.set {w : World} {q : Option Addr} {l : List UInt8} (h : Rd w q l) (p : Addr) (v : Value) (hne : ∀ a, q = some a → a.block ≠ p.block) : Rd (w.setCell p v) q l := by
  rcases h with h | ⟨b, o, rfl, hlt, hc⟩
  · exact .inl h
  · have hb := heap_setCell_other w p b v (hne _ rfl)
    refine .inr ⟨b, o, rfl, ?_, fun i hi => ?_⟩
    · have h1 : w.heap[b]? = some w.heap[b] := Array.getElem?_eq_getElem hlt
      rw [← hb] at h1
      exact (Array.getElem?_eq_some_iff.1 h1).1
    · rw [← hc i hi]
      simp only [World.cell?, hb]
theorem append_list (a b : ByteArray) : (a ++ b).data.toList = a.data.toList ++ b.data.toList := by
  rw [ByteArray.data_append]; simp

end Go.Proofs.YtemojhcbhljemaaGreatDoor

/- Slices of values of several cells each, of whatever kind: read, made, appended to, written into. No function of the program. -/
namespace Go.Proofs.YtemojhcbhljemaaGreatDoor
set_option linter.unusedVariables false
set_option linter.unusedSimpArgs false
open Go.RowKit
set_option maxRecDepth 100000

/-- A kind of values: their cells, as many of each; which are well made; the types' numbers, of an element and of a slice. -/
structure Kd (α : Type) where
  cells : α → List Value
  n : Nat
  ok : α → Prop
  E : TypeId
  T : TypeId
  zero : Value
  bytes : Nat
  hlen : ∀ x, ok x → (cells x).length = n
  hone : ∀ x, ∀ v ∈ cells x, v.oneCell' = true
  hn : 0 < n
  hn2 : n ≤ 1000
  hb : bytes ≤ 1024
  und : Tryz.prog.underlying T = some (.slice E)
  info : (Tryz.prog.info? E).map (fun i => (i.zero, i.size, i.bytes)) = some (some zero, n, bytes)
  hz : zero.cells.size = n

section
variable {α : Type} (K : Kd α)

theorem Kd.size (x : α) (h : K.ok x) : (Tryz.prog.info? K.E).map (·.size) = some (K.cells x).length := by
  obtain ⟨i0, hi, hz0, hz1, hz2⟩ := info_parts K.info
  rw [hi, K.hlen x h, Option.map_some, hz1]

/-- The cells of a list, in a row. -/
def Kd.row (l : List α) : List Value := l.flatMap K.cells
theorem row_len : ∀ (l : List α), (∀ x ∈ l, K.ok x) → (K.row l).length = l.length * K.n
  | [], _ => by simp [Kd.row]
  | x :: r, h => by
    have ih := row_len r (fun y hy => h y (by simp [hy]))
    unfold Kd.row at ih ⊢
    rw [List.flatMap_cons, List.length_append, K.hlen x (h x (by simp)), ih, List.length_cons, Nat.add_mul]
    omega
theorem row_get : ∀ (l : List α), (∀ x ∈ l, K.ok x) → ∀ (k : Nat) (x : α), l[k]? = some x → ∀ j, j < K.n → (K.row l)[k * K.n + j]? = (K.cells x)[j]?
  | [], _, k, x, h, _, _ => by simp at h
  | y :: r, h, k, x, hk, j, hj => by
    have hy := K.hlen y (h y (by simp))
    unfold Kd.row
    rw [List.flatMap_cons]
    cases k with
    | zero =>
      simp at hk
      subst hk
      rw [Nat.zero_mul, Nat.zero_add, List.getElem?_append_left (by omega)]
    | succ k =>
      rw [List.getElem?_cons_succ] at hk
      rw [List.getElem?_append_right (by rw [hy, Nat.add_mul]; omega), hy, show (k + 1) * K.n + j - K.n = k * K.n + j by rw [Nat.add_mul]; omega]
      exact row_get r (fun z hz => h z (by simp [hz])) k x hk j hj
theorem row_one (l : List α) : ∀ v ∈ K.row l, v.oneCell' = true := by
  intro v hv
  unfold Kd.row at hv
  rw [List.mem_flatMap] at hv
  obtain ⟨x, _, hx⟩ := hv
  exact K.hone x v hx
theorem row_app (l m : List α) : K.row (l ++ m) = K.row l ++ K.row m := by unfold Kd.row; rw [List.flatMap_append]
theorem row_snoc (l : List α) (x : α) : K.row (l ++ [x]) = K.row l ++ K.cells x := by rw [row_app]; simp [Kd.row]

/-- In memory: the slice at p holds l. -/
def RdG (w : World) (p : Option Addr) (l : List α) : Prop := l = [] ∨ ∃ b o, p = some ⟨b, o, none⟩ ∧ ∀ k x, l[k]? = some x → w.rangeAt b (o + k * K.n) (K.cells x)
variable {K}
theorem RdG.grew {w w' : World} {p : Option Addr} {l : List α} (h : RdG K w p l) (g : Grew w w') : RdG K w' p l := by
  rcases h with h | ⟨b, o, rfl, h⟩
  · exact .inl h
  · exact .inr ⟨b, o, rfl, fun k x hx => range_grew (h k x hx) g⟩
theorem RdG.pre {w : World} {p : Option Addr} {l m : List α} (h : RdG K w p (l ++ m)) : RdG K w p l := by
  rcases h with h | ⟨b, o, rfl, h⟩
  · exact .inl (List.append_eq_nil_iff.1 h).1
  · exact .inr ⟨b, o, rfl, fun k x hx => h k x (by rw [List.getElem?_append_left (List.getElem?_eq_some_iff.1 hx).1]; exact hx)⟩
theorem RdG.take {w : World} {p : Option Addr} {l : List α} (h : RdG K w p l) (k : Nat) : RdG K w p (l.take k) := by
  have := List.take_append_drop k l
  rw [← this] at h
  exact h.pre
theorem RdG.at {w : World} {p : Option Addr} {l : List α} (h : RdG K w p l) (h0 : 0 < l.length) : ∃ b o, p = some ⟨b, o, none⟩ ∧ ∀ k x, l[k]? = some x → w.rangeAt b (o + k * K.n) (K.cells x) := by
  rcases h with rfl | h
  · simp at h0
  · exact h
variable (K)
/-- A block that holds a list from its head on. -/
theorem rdG_block {w : World} {g : Nat} {cs : Array Value} {t : TypeId} {fz : Nat × Nat} {l : List α} (hg : w.heap[g]? = some (.cells cs t fz)) (hok : ∀ x ∈ l, K.ok x) (h : ∀ (i : Nat) (v : Value), (K.row l)[i]? = some v → cs[i]? = some v) : RdG K w (some ⟨g, 0, none⟩) l := by
  refine .inr ⟨g, 0, rfl, fun k x hx => fun j v hv => ?_⟩
  have hj : j < K.n := by have := (List.getElem?_eq_some_iff.1 hv).1; rw [K.hlen x (hok x (List.mem_of_getElem? hx))] at this; exact this
  have hg2 := row_get K l hok k x hx j hj
  rw [cell_of_row w g _ cs t fz hg, Nat.zero_add]
  exact h _ _ (hg2.trans hv)

/-- The slice v, made from base on, holds l. -/
def OwnG (w : World) (base : Nat) (v : Value) (l : List α) : Prop := (∀ x ∈ l, K.ok x) ∧ w.ownsRow base K.E K.n v l.length (K.row l)
theorem OwnG.nil (w : World) (base : Nat) : OwnG K w base (.slice none 0 0) [] := ⟨by simp, by simp [Kd.row], .inl ⟨rfl, rfl⟩⟩
variable {K}
theorem OwnG.lt {w : World} {base : Nat} {v : Value} {l : List α} (h : OwnG K w base v l) : ∀ k, v.ownBlock = some k → base ≤ k ∧ k < w.heap.size := by
  intro k hk
  rcases h.2.2 with ⟨rfl, _⟩ | ⟨g, cap, cur, rfl, hb, hg, _⟩
  · simp [Value.ownBlock] at hk
  · simp [Value.ownBlock] at hk
    subst hk
    exact ⟨hb, (Array.getElem?_eq_some_iff.1 hg).1⟩
theorem OwnG.below {w w' : World} {base : Nat} {v : Value} {l : List α} (h : OwnG K w base v l) (hb : Grew w w') : OwnG K w' base v l := by
  obtain ⟨h1, h2, h3⟩ := h
  refine ⟨h1, h2, ?_⟩
  rcases h3 with hn | ⟨g, cap, cur, rfl, hbs, hgg, rest⟩
  · exact .inl hn
  · exact .inr ⟨g, cap, cur, rfl, hbs, (hb.block g (Array.getElem?_eq_some_iff.1 hgg).1).trans hgg, rest⟩
theorem OwnG.base {w : World} {B C : Nat} {v : Value} {l : List α} (h : OwnG K w C v l) (hBC : B ≤ C) : OwnG K w B v l := by
  obtain ⟨h1, h2, h3⟩ := h
  refine ⟨h1, h2, ?_⟩
  rcases h3 with hn | ⟨g, cap, cur, rfl, hbs, rest⟩
  · exact .inl hn
  · exact .inr ⟨g, cap, cur, rfl, Nat.le_trans hBC hbs, rest⟩
theorem OwnG.set {w : World} {base : Nat} {v : Value} {l : List α} (h : OwnG K w base v l) (p : Addr) (u : Value) (hne : v.ownBlock ≠ some p.block) : OwnG K (w.setCell p u) base v l := by
  obtain ⟨h1, h2, h3⟩ := h
  refine ⟨h1, h2, ?_⟩
  rcases h3 with hn | ⟨g, cap, cur, rfl, hbs, hgg, rest⟩
  · exact .inl hn
  · exact .inr ⟨g, cap, cur, rfl, hbs, (heap_setCell_other w p g u (fun e => hne (by simp [Value.ownBlock, e]))).trans hgg, rest⟩
/-- Another block was turned. -/
theorem OwnG.kept {w w' : World} {base : Nat} {v : Value} {l : List α} {row : Option Nat} (h : OwnG K w base v l) (hg : w.grownBy w' row) (hne : v.ownBlock = none ∨ v.ownBlock ≠ row) : OwnG K w' base v l := by
  obtain ⟨h1, h2, h3⟩ := h
  refine ⟨h1, h2, ?_⟩
  rcases h3 with hn | ⟨g, cap, cur, rfl, hbs, hgg, rest⟩
  · exact .inl hn
  · refine .inr ⟨g, cap, cur, rfl, hbs, (hg.block g (Array.getElem?_eq_some_iff.1 hgg).1 (fun e => ?_)).trans hgg, rest⟩
    rcases hne with h | h
    · simp [Value.ownBlock] at h
    · exact h (by simpa [Value.ownBlock] using e)
theorem OwnG.val {w : World} {base : Nat} {v : Value} {l : List α} (h : OwnG K w base v l) : ∃ p cap, v = .slice p l.length cap ∧ RdG K w p l ∧ l.length ≤ cap ∧ (p = none → cap = 0) ∧ (∀ a, p = some a → base ≤ a.block ∧ a.block < w.heap.size) := by
  have hlt := h.lt
  obtain ⟨h1, h2, h3⟩ := h
  rcases h3 with ⟨rfl, h0⟩ | ⟨g, cap, cur, rfl, hb, hg, hnc, hcm, hcs, ht⟩
  · have : l = [] := List.eq_nil_of_length_eq_zero h0
    subst this
    exact ⟨none, 0, rfl, .inl rfl, Nat.le_refl _, fun _ => rfl, fun a ha => by cases ha⟩
  · refine ⟨_, cap, rfl, .inr ⟨g, 0, rfl, fun k x hx => fun j v hv => ?_⟩, hnc, (fun e => by cases e), fun a ha => by cases ha; exact hlt g rfl⟩
    have hj : j < K.n := by have := (List.getElem?_eq_some_iff.1 hv).1; rw [K.hlen x (h1 x (List.mem_of_getElem? hx))] at this; exact this
    have hg2 := row_get K l h1 k x hx j hj
    rw [hv, ← ht, List.getElem?_take] at hg2
    rw [cell_of_row w g _ cur _ (0, 0) hg, Nat.zero_add]
    split at hg2
    · simpa using hg2
    · cases hg2
variable (K)

theorem bytes_bound (n : Nat) (h : n ≤ 1073741824) : (n + 1) * K.bytes ≤ 140737488355328 := by
  have h1 := K.hb
  have h2 : (n + 1) * K.bytes ≤ 1073741825 * 1024 := Nat.mul_le_mul (by omega) h1
  omega

/-- append(v, x), its run. -/
theorem own_append_G (ty : TypeId) (w : World) (base : Nat) (v : Value) (l : List α) (x : α) (g : Nat) (hown : OwnG K w base v l) (hok : K.ok x) (hr : w.rangeAt g 0 (K.cells x)) (hbase : base ≤ w.heap.size) (h63 : l.length ≤ 1073741824) :
    ∃ v' w', (Builtin.append_ #[K.T, K.T] ty #[v, .slice (some ⟨g, 0, none⟩) 1 1]).run Tryz.prog w = .ok v' w' ∧ OwnG K w' base v' (l ++ [x]) ∧ Below base w w' ∧ w.grownBy w' v.ownBlock := by
  obtain ⟨i0, hi, hz0, hz1, hz2⟩ := info_parts K.info
  obtain ⟨v', w', h1, h2, h3, -⟩ := run_append_own (P := Tryz.prog) w base K.T ty K.E i0 K.zero K.n K.bytes K.und hi hz0 hz1 hz2 K.hz K.hn v l.length (K.row l) hown.2 ⟨g, 0, none⟩ 1 1 (K.cells x) (by rw [K.hlen x hok, Nat.one_mul])
    (fun j u hu => by rw [Addr.add_mid]; exact hr j u hu) (K.hone x) (by unfold maxLen; omega) (bytes_bound K _ h63) hbase
  refine ⟨v', w', h1, ⟨?_, ?_⟩, (Below.refl _ _).grown h3 hbase (fun k hk => (hown.lt k hk).1), h3⟩
  · intro y hy
    rw [List.mem_append] at hy
    rcases hy with hy | hy
    · exact hown.1 y hy
    · simp at hy; subst hy; exact hok
  · rw [show (l ++ [x]).length = l.length + 1 by simp, row_snoc]
    exact h2
theorem wpList_append_G {ops : Array Oper} {rest : List Oper} {o : Oper} {a : Act} {w : World} {Q : Exit → Act → World → Prop} (hgd : o.guard = none) (s x : Operand)
    (ho : o.op = .call { callee := .builtin .append, args := #[s, x], argTypes := #[K.T, K.T] }) (base : Nat) (v : Value) (l : List α) (i : α) (g : Nat) (hs : a.eval s = v) (hx : a.eval x = .slice (some ⟨g, 0, none⟩) 1 1)
    (hown : OwnG K w base v l) (hok : K.ok i) (hr : w.rangeAt g 0 (K.cells i)) (hbase : base ≤ w.heap.size) (h63 : l.length ≤ 1073741824)
    (h : ∀ v' w', OwnG K w' base v' (l ++ [i]) → Below base w w' → w.grownBy w' v.ownBlock → wpList Tryz.prog ops Q rest (a.put o.dst v') w') : wpList Tryz.prog ops Q (o :: rest) a w := by
  refine wpList_plain hgd fun L hL => ?_
  obtain ⟨v', w', hrun, h2, h3, h4⟩ := own_append_G K o.type w base v l i g hown hok hr hbase h63
  unfold Oper.wp execOp
  simp only [ho, resolve, invoke, builtin, Sem.run_bind, Sem.run_pure, Result.andThen_ok, List.map_toArray, List.map_cons, List.map_nil, hs, hx, hrun]
  exact hL _ _ (h v' w' h2 h3 h4)
theorem step_append_G {ops : Array Oper} {o : Oper} {a : Act} {w : World} {L : Act → World → Prop} {Q : Exit → Act → World → Prop} {E : Prop} (hgd : o.guard = none) (s x : Operand)
    (ho : o.op = .call { callee := .builtin .append, args := #[s, x], argTypes := #[K.T, K.T] }) (base : Nat) (v : Value) (l : List α) (i : α) (g : Nat) (hs : a.eval s = v) (hx : a.eval x = .slice (some ⟨g, 0, none⟩) 1 1)
    (hown : OwnG K w base v l) (hok : K.ok i) (hr : w.rangeAt g 0 (K.cells i)) (hbase : base ≤ w.heap.size) (h63 : l.length ≤ 1073741824)
    (h : ∀ v' w', OwnG K w' base v' (l ++ [i]) → Below base w w' → w.grownBy w' v.ownBlock → L (a.put o.dst v') w') : if Region.wanted o (yielded ops a.tmps) = true then Oper.wp Tryz.prog o a w L Q else E := by
  have hw : Region.wanted o (yielded ops a.tmps) = true := by simp [Region.wanted, hgd]
  rw [if_pos hw]
  obtain ⟨v', w', hrun, h2, h3, h4⟩ := own_append_G K o.type w base v l i g hown hok hr hbase h63
  unfold Oper.wp execOp
  simp only [ho, resolve, invoke, builtin, Sem.run_bind, Sem.run_pure, Result.andThen_ok, List.map_toArray, List.map_cons, List.map_nil, hs, hx, hrun]
  exact h v' w' h2 h3 h4

theorem fold_fill : ∀ (L : List Value) (k : Nat) (pre old : List Value), pre.length = k → old.length = L.length → ((L.zipIdx k).foldl (fun (cs : Array Value) (p : Value × Nat) => cs.setIfInBounds (0 + p.2) p.1) (pre ++ old).toArray) = (pre ++ L).toArray
  | [], k, pre, old, hk, hl => by
    have : old = [] := List.eq_nil_of_length_eq_zero hl
    subst this
    simp
  | x :: r, k, pre, old, hk, hl => by
    cases old with
    | nil => simp at hl
    | cons y q =>
      rw [List.zipIdx_cons, List.foldl_cons]
      have e : ((pre ++ y :: q).toArray.setIfInBounds (0 + k) x) = ((pre ++ [x]) ++ q).toArray := by
        apply Array.ext'
        rw [Array.toList_setIfInBounds, Nat.zero_add, List.set_append_right _ _ (by simp [hk]), hk, Nat.sub_self, List.set_cons_zero]
        simp
      show ((r.zipIdx (k + 1)).foldl _ ((pre ++ y :: q).toArray.setIfInBounds (0 + k) x)) = _
      rw [e, fold_fill r (k + 1) (pre ++ [x]) q (by simp [hk]) (by simpa using hl)]
      simp
/-- A slice that is written out, of one. -/
theorem run_slice_G (x : α) (hok : K.ok x) (w : World) : (Instr.buildSlice K.T 1 #[(0, .agg (K.cells x).toArray)]).run Tryz.prog w = .ok (.slice (some ⟨w.heap.size, 0, none⟩) 1 1) (w.alloc (.cells (K.cells x).toArray K.E)) := by
  obtain ⟨i0, hi, hz0, hz1, hz2⟩ := info_parts K.info
  have hl := K.hlen x hok
  have hp := K.hn
  have hp2 := K.hn2
  refine run_buildSlice w _ _ 1 _ _ i0 K.zero K.und hi hz0 (by rw [hz1]; omega) (by rw [hz1]; omega) ?_
  rw [hz1, Nat.one_mul]
  obtain ⟨C, hC⟩ : ∃ C : Array Value, (Array.range K.n).map (K.zero.cells[· % K.zero.cells.size]!) = C := ⟨_, rfl⟩
  have hCs : C.size = K.n := by rw [← hC]; simp
  rw [hC]
  simp only [Instr.fill, Nat.zero_mul, Value.cells]
  rw [if_neg (by simp [hl, hCs])]
  congr 1
  have h := fold_fill (K.cells x) 0 [] C.toList rfl (by rw [Array.length_toList, hCs, hl])
  simp only [List.nil_append, Array.toArray_toList] at h
  rw [← Array.foldl_toList]
  simpa using h

/-- A value in a block of its own. -/
theorem boxedG (w : World) (x : α) : ∃ W0, w.alloc (.cells (K.cells x).toArray K.E) = W0 ∧ Grew w W0 ∧ Grew W0 W0 ∧ (∀ W, Grew W0 W → W.rangeAt w.heap.size 0 (K.cells x)) := by
  obtain ⟨W0, hW0, g0, g00, hq⟩ := boxed w (K.cells x).toArray K.E
  refine ⟨W0, hW0, g0, g00, fun W g j v hv => ?_⟩
  rw [Nat.zero_add]
  exact hq W g j v (by simpa using hv)

/-- make([]T, 0, n). -/
theorem make_G (m : Nat) (hm : m ≤ 2147483648) (w : World) : ∃ C : Array Value, C.size = m * K.n ∧
    (Instr.makeSlice K.T (.int .i64 0) (.int .i64 (m : Int))).run Tryz.prog w = .ok (.slice (some ⟨w.heap.size, 0, none⟩) 0 m) (w.alloc (.cells C K.E)) := by
  obtain ⟨i0, hi, hz0, hz1, hz2⟩ := info_parts K.info
  have hb := K.hb
  have h := run_make (P := Tryz.prog) w K.T K.E i0 K.zero K.und hi hz0 .i64 .i64 0 (m : Int) (by omega) (by omega) (by
    rw [hz2]
    have h1 : K.bytes * m ≤ 1024 * 2147483648 := Nat.mul_le_mul hb hm
    omega) (by omega)
  exact ⟨_, by simp [madeCells, hz1], h⟩

/-- append(s, l...) where s has room. -/
theorem append_room_G (w : World) (g sCap : Nat) (cur : Array Value) (hg : w.heap[g]? = some (.cells cur K.E (0, 0))) (p : Option Addr) (l : List α) (c : Nat) (h : RdG K w p l) (hok : ∀ x ∈ l, K.ok x) (hroom : l.length ≤ sCap) (hcur : cur.size = sCap * K.n) :
    ∃ w', (Builtin.append_ #[K.T, K.T] K.T #[.slice (some ⟨g, 0, none⟩) 0 sCap, .slice p l.length c]).run Tryz.prog w = .ok (.slice (some ⟨g, 0, none⟩) l.length sCap) w' ∧
      w'.heap[g]? = some (.cells (K.row l ++ cur.toList.drop (l.length * K.n)).toArray K.E (0, 0)) ∧ w.grownBy w' (some g) ∧ w'.heap.size = w.heap.size := by
  obtain ⟨i0, hi, hz0, hz1, hz2⟩ := info_parts K.info
  have hlen := row_len K l hok
  have hpos := K.hn
  cases p with
  | none =>
    have hl : l = [] := by
      rcases h with h | ⟨b, o, e, _⟩
      · exact h
      · cases e
    subst hl
    refine ⟨w, ?_, ?_, ⟨rfl, rfl, rfl, Nat.le_refl _, fun _ _ _ => rfl⟩, rfl⟩
    · simp [Builtin.append_, run_underlying K.und, sizeOf, typeInfo, hi, Builtin.lenOf, Builtin.firstCells, storeCells]
    · rw [hg]; simp [Kd.row]
  | some ad =>
    have hnews : ∀ j u, (K.row l)[j]? = some u → w.cell? (ad.add j) = some u := by
      intro j u hu
      rcases h with rfl | ⟨b, o, e, hc⟩
      · simp [Kd.row] at hu
      cases e
      have hj := (List.getElem?_eq_some_iff.1 hu).1
      rw [hlen] at hj
      have hk : j / K.n < l.length := (Nat.div_lt_iff_lt_mul hpos).2 hj
      obtain ⟨x, hx⟩ : ∃ x, l[j / K.n]? = some x := ⟨_, List.getElem?_eq_getElem hk⟩
      have h1 := row_get K l hok (j / K.n) x hx (j % K.n) (Nat.mod_lt _ hpos)
      have hdm := Nat.div_add_mod' j K.n
      rw [hdm, hu] at h1
      have h2 := hc (j / K.n) x hx (j % K.n) u h1.symm
      rw [Addr.add_mid]
      rw [show o + j = o + j / K.n * K.n + j % K.n by omega]
      exact h2
    have hr := run_append_room (P := Tryz.prog) w K.T K.T K.E i0 K.und hi g 0 sCap cur hg ad l.length c (K.row l) (by rw [hz1, hlen]) hnews (row_one K l) (by omega) (by
      rw [hlen, hcur, Nat.zero_mul, Nat.zero_add]
      exact Nat.mul_le_mul_right _ hroom)
    simp only [Nat.zero_add, Nat.zero_mul, List.take_zero, List.nil_append] at hr
    refine ⟨_, hr, ?_, ⟨rfl, rfl, rfl, by simp, fun k _ hk => setRow_other w g k _ (fun e => hk (by simp [e]))⟩, by simp⟩
    rw [setRow_heap w g cur _ _ _ hg, hlen]

theorem run_storeVar_G {P : Program} (w : World) (g o : Nat) (ty t : TypeId) (old : Array Value) (cells : List Value) (hg : w.heap[g]? = some (.cells old t (0, 0))) (hfit : o + cells.length ≤ old.size) (hi : (P.info? ty).map (·.size) = some cells.length) (h1 : ∀ v ∈ cells, v.oneCell' = true) :
    (storeVar ty ⟨g, o, none⟩ (.agg cells.toArray)).run P w = .ok () (w.setRow g (old.toList.take o ++ cells ++ old.toList.drop (o + cells.length)).toArray) := by
  have hst := run_storeCells_at P g o t cells 0 old w hg (by simpa using hfit) h1
  simp only [Nat.add_zero] at hst
  cases hq : P.info? ty with
  | none => simp [hq] at hi
  | some i =>
    have hs : cells.length = i.size := by simp [hq] at hi; omega
    simp [storeVar, sizeOf, typeInfo, hq, Value.cells, hs.symm, hst]
/-- A row of several cells is written into a block. -/
theorem wpList_store_G {P : Program} {ops : Array Oper} {rest : List Oper} {op : Oper} {a : Act} {w : World} {Q : Exit → Act → World → Prop} (hgd : op.guard = none) (ty : TypeId) (x y : Operand) (ho : op.op = .store ty x y) (g o : Nat) (t : TypeId) (old : Array Value) (cells : List Value)
    (hx : a.eval x = .pointer (some ⟨g, o, none⟩)) (hy : a.eval y = .agg cells.toArray) (hg : w.heap[g]? = some (.cells old t (0, 0))) (hfit : o + cells.length ≤ old.size) (hi : (P.info? ty).map (·.size) = some cells.length) (h1 : ∀ v ∈ cells, v.oneCell' = true)
    (h : wpList P ops Q rest (a.put op.dst undef) (w.setRow g (old.toList.take o ++ cells ++ old.toList.drop (o + cells.length)).toArray)) : wpList P ops Q (op :: rest) a w := by
  refine wpList_plain hgd fun L hL => ?_
  unfold Oper.wp execOp
  simp only [ho, hx, hy, Instr.storeAt, Instr.sureAddr, Sem.run_bind, Sem.run_pure, Result.andThen_ok, run_storeVar_G w g o ty t old cells hg hfit hi h1]
  exact hL _ _ h

/-- The cells of a copy: the list, k times the filling, and what lay behind. -/
def ownG (l : List α) (f : α) (k : Nat) (z : List Value) : List Value := K.row l ++ (K.row (List.replicate k f) ++ z.drop (k * K.n))
theorem ownG_len (l : List α) (f : α) (k : Nat) (z : List Value) (hl : ∀ x ∈ l, K.ok x) (hf : K.ok f) (hz : z.length = 3 * K.n) (hk : k ≤ 3) : (ownG K l f k z).length = (l.length + 3) * K.n := by
  have h1 := row_len K l hl
  have h2 := row_len K (List.replicate k f) (fun x hx => by rw [List.eq_of_mem_replicate hx]; exact hf)
  rw [List.length_replicate] at h2
  unfold ownG
  have h3 : k * K.n ≤ 3 * K.n := Nat.mul_le_mul_right _ hk
  simp only [List.length_append, List.length_drop, h1, h2, hz, Nat.add_mul]
  omega
theorem ownG_next (l : List α) (f : α) {k : Nat} (z : List Value) (hl : ∀ x ∈ l, K.ok x) (hf : K.ok f) (hz : z.length = 3 * K.n) (hk : k < 3) :
    ((ownG K l f k z).toArray.toList.take ((l.length + k) * K.n) ++ K.cells f ++ (ownG K l f k z).toArray.toList.drop ((l.length + k) * K.n + (K.cells f).length)) = ownG K l f (k + 1) z := by
  have h1 := row_len K l hl
  have h2 := row_len K (List.replicate k f) (fun x hx => by rw [List.eq_of_mem_replicate hx]; exact hf)
  rw [List.length_replicate] at h2
  have hc := K.hlen f hf
  have e1 : ownG K l f k z = (K.row l ++ K.row (List.replicate k f)) ++ z.drop (k * K.n) := by unfold ownG; rw [List.append_assoc]
  have hlen : (K.row l ++ K.row (List.replicate k f)).length = (l.length + k) * K.n := by rw [List.length_append, h1, h2, Nat.add_mul]
  rw [List.toList_toArray, e1, List.take_append_of_le_length (by omega), List.take_of_length_le (by omega), List.drop_append, List.drop_of_length_le (by omega), List.nil_append, hlen, hc, show (l.length + k) * K.n + K.n - (l.length + k) * K.n = K.n by omega, List.drop_drop]
  unfold ownG
  rw [List.replicate_succ', row_snoc, show (k + 1) * K.n = k * K.n + K.n by rw [Nat.add_mul]; omega]
  simp [Nat.add_comm]

/-- How two of a kind are held against each other. -/
structure KdEq (K : Kd α) where
  eqv : α → α → Bool
  iff : ∀ a b, eqv a b = true ↔ a = b
  eql : ∀ a b, K.ok a → K.ok b → ∀ w, (binOp .eql K.E (.agg (K.cells a).toArray) (.agg (K.cells b).toArray)).run Tryz.prog w = .ok (.bool (eqv a b)) w
  neq : ∀ a b, K.ok a → K.ok b → ∀ w, (binOp .neq K.E (.agg (K.cells a).toArray) (.agg (K.cells b).toArray)).run Tryz.prog w = .ok (.bool (!(eqv a b))) w
  guard : ∀ (op : BinOp) (x y : Operand) a b w, (eqGuard op K.E x y (.agg (K.cells a).toArray) (.agg (K.cells b).toArray)).run Tryz.prog w = .ok () w
theorem KdEq.refl {K : Kd α} (Q : KdEq K) (a : α) : Q.eqv a a = true := (Q.iff a a).2 rfl

end
end Go.Proofs.YtemojhcbhljemaaGreatDoor

/- A place of a slice that the call made itself is written anew. No function of the program. -/
namespace Go.Proofs.YtemojhcbhljemaaGreatDoor
set_option linter.unusedVariables false
set_option linter.unusedSimpArgs false
open Go.RowKit

variable {α : Type} {K : Kd α}
theorem row_set (l : List α) (hl : ∀ x ∈ l, K.ok x) (k : Nat) (hk : k < l.length) (x : α) (hx : K.ok x) : (K.row l).take (k * K.n) ++ K.cells x ++ (K.row l).drop (k * K.n + (K.cells x).length) = K.row (l.set k x) := by
  have hc := K.hlen x hx
  obtain ⟨y, hy⟩ : ∃ y, l[k]? = some y := ⟨_, List.getElem?_eq_getElem hk⟩
  have hsp : l = l.take k ++ y :: l.drop (k + 1) := by
    conv => lhs; rw [← List.take_append_drop k l, List.drop_eq_getElem_cons hk]
    rw [(List.getElem?_eq_some_iff.1 hy).2]
  have h1 : (K.row (l.take k)).length = k * K.n := by
    rw [row_len K _ (fun z hz => hl z (List.mem_of_mem_take hz)), List.length_take]
    congr 1
    omega
  have hyc := K.hlen y (hl y (List.mem_of_getElem? hy))
  have h2 : K.row l = K.row (l.take k) ++ (K.cells y ++ K.row (l.drop (k + 1))) := by
    conv => lhs; rw [hsp]
    rw [row_app]
    rfl
  have h3 : l.set k x = l.take k ++ x :: l.drop (k + 1) := by
    rw [List.set_eq_take_append_cons_drop, if_pos hk]
  rw [h2, h3, row_app, hc, List.take_left' h1, List.drop_append, List.drop_of_length_le (by omega), List.nil_append, h1, show k * K.n + K.n - k * K.n = K.n by omega, List.drop_left' hyc, List.append_assoc]
  rfl
theorem OwnG.store {w : World} {base g cap : Nat} {l : List α} (h : OwnG K w base (.slice (some ⟨g, 0, none⟩) l.length cap) l) (k : Nat) (hk : k < l.length) (x : α) (hx : K.ok x) :
    ∃ cur, w.heap[g]? = some (.cells cur K.E (0, 0)) ∧ k * K.n + (K.cells x).length ≤ cur.size ∧ OwnG K (w.setRow g (cur.toList.take (k * K.n) ++ K.cells x ++ cur.toList.drop (k * K.n + (K.cells x).length)).toArray) base (.slice (some ⟨g, 0, none⟩) l.length cap) (l.set k x) := by
  obtain ⟨h1, h2, h3⟩ := h
  rcases h3 with ⟨hv, _⟩ | ⟨g', cap', cur, hv, hb, hg, hnc, hcm, hcs, ht⟩
  · cases hv
  simp only [Value.slice.injEq, Option.some.injEq, Addr.mk.injEq, and_true, true_and] at hv
  obtain ⟨rfl, rfl⟩ := hv
  have hc := K.hlen x hx
  have hle : k * K.n + K.n ≤ l.length * K.n := by
    have := Nat.mul_le_mul_right K.n (show k + 1 ≤ l.length from hk)
    rw [Nat.add_mul, Nat.one_mul] at this
    exact this
  have hle2 : l.length * K.n ≤ cap * K.n := Nat.mul_le_mul_right _ hnc
  have hsz : k * K.n + (K.cells x).length ≤ cur.size := by rw [hc, hcs]; omega
  refine ⟨cur, hg, hsz, fun y hy => ?_, ?_, .inr ⟨g, cap, _, by rw [List.length_set], hb, setRow_heap w g cur _ _ _ hg, by rw [List.length_set]; exact hnc, hcm, ?_, ?_⟩⟩
  · rcases List.mem_or_eq_of_mem_set hy with h | h
    · exact h1 y h
    · subst h; exact hx
  · rw [List.length_set, row_len K]
    · rw [List.length_set]
    · intro y hy
      rcases List.mem_or_eq_of_mem_set hy with h | h
      · exact h1 y h
      · subst h; exact hx
  · have hcl : cur.toList.length = cur.size := Array.length_toList
    rw [List.size_toArray, List.length_append, List.length_append, List.length_take, List.length_drop, hc, hcl, hcs]
    omega
  · rw [List.length_set, ← row_set l h1 k hk x hx, ← ht, hc]
    have hcl : cur.toList.length = cur.size := Array.length_toList
    rw [List.toList_toArray, List.take_take, Nat.min_eq_left (by omega), List.drop_take]
    have e1 : (cur.toList.take (k * K.n) ++ K.cells x).length = k * K.n + K.n := by rw [List.length_append, List.length_take, hc, hcl]; omega
    rw [List.take_append, List.take_of_length_le (by omega), e1]

theorem OwnG.form {w : World} {base : Nat} {v : Value} {l : List α} (h : OwnG K w base v l) (hn : 0 < l.length) : ∃ g cap, v = .slice (some ⟨g, 0, none⟩) l.length cap ∧ base ≤ g ∧ g < w.heap.size ∧ l.length ≤ cap := by
  have hlt := h.lt
  obtain ⟨h1, h2, h3⟩ := h
  rcases h3 with ⟨rfl, h0⟩ | ⟨g, cap, cur, rfl, hb, hg, hnc, hcm, hcs, ht⟩
  · omega
  · exact ⟨g, cap, rfl, hb, (hlt g rfl).2, hnc⟩
theorem OwnG.range {w : World} {base g cap : Nat} {l : List α} (h : OwnG K w base (.slice (some ⟨g, 0, none⟩) l.length cap) l) {k : Nat} {x : α} (hx : l[k]? = some x) : w.rangeAt g (k * K.n) (K.cells x) := by
  obtain ⟨p, c, hv, hr, hc, -⟩ := h.val
  cases hv
  rcases hr with rfl | ⟨b, o, e, hr⟩
  · simp at hx
  · cases e
    have := hr k x hx
    rwa [Nat.zero_add] at this

end Go.Proofs.YtemojhcbhljemaaGreatDoor

/- Ids (arrays of twenty bytes) held against each other by == and !=: as their bytes are. Conditions: none. -/
namespace Go.Proofs.YtemojhcbhljemaaGreatDoor
set_option linter.unusedVariables false
set_option linter.unusedSimpArgs false
open Go.RowKit

theorem cellsOfU8 : Tryz.prog.cellsOf 5 = 1 := by kernel_rfl

theorem part_byte (l : List UInt8) (i : Nat) (hi : i < l.length) (w : World) :
    (part 5 (Lib.byteCells l).toArray i).run Tryz.prog w = .ok (.int .u8 ((l[i]).toNat : Int)) w := by
  have h : (Lib.byteCells l).toArray[i]? = some (.int .u8 ((l[i]).toNat : Int)) := by
    simp [byteCells_getElem?, List.getElem?_eq_getElem hi]
  simp [part, go_sem, h]

theorem eqItems_bytes (d : Nat) (a b : List UInt8) (w : World) : ∀ is : List Nat, (∀ i ∈ is, i < a.length ∧ i < b.length) →
    (Op.eqItems (d + 1) 5 1 (Lib.byteCells a).toArray (Lib.byteCells b).toArray is).run Tryz.prog w = .ok (is.all fun i => a[i]? == b[i]?) w
  | [], _ => by simp [Op.eqItems]
  | i :: is, h => by
    obtain ⟨h1, h2⟩ := h i (by simp)
    have ih := eqItems_bytes d a b w is (fun j hj => h j (by simp [hj]))
    simp only [Op.eqItems, Nat.mul_one, Sem.run_bind, part_byte a i h1, part_byte b i h2, Result.andThen_ok, run_equalIn_int w d 5 .u8 .u8 _ _ Tryz.underlying5]
    have e : (((a[i]).toNat : Int) == ((b[i]).toNat : Int)) = (a[i]? == b[i]?) := by
      rw [List.getElem?_eq_getElem h1, List.getElem?_eq_getElem h2, Bool.eq_iff_iff]
      simp only [beq_iff_eq, Option.some.injEq]
      constructor
      · intro h; exact UInt8.toNat_inj.1 (by omega)
      · intro h; rw [h]
    rw [e]
    cases hq : (a[i]? == b[i]?)
    · simp [hq]
    · simp [hq, ih]

theorem all_eq (a b : List UInt8) (ha : a.length = 20) (hb : b.length = 20) : ((List.range 20).all fun i => a[i]? == b[i]?) = (a == b) := by
  rw [Bool.eq_iff_iff]
  simp only [List.all_eq_true, List.mem_range, beq_iff_eq]
  constructor
  · intro h
    apply List.ext_getElem?
    intro i
    by_cases hi : i < 20
    · exact h i hi
    · rw [List.getElem?_eq_none (by omega), List.getElem?_eq_none (by omega)]
  · rintro rfl _ _; rfl

theorem run_eqId (a b : List UInt8) (ha : a.length = 20) (hb : b.length = 20) (w : World) :
    (Op.equalIn 10000 23 (.agg (Lib.byteCells a).toArray) (.agg (Lib.byteCells b).toArray)).run Tryz.prog w = .ok (a == b) w := by
  obtain ⟨i0, hi, -, -, -⟩ := info_parts infoU8'
  rw [run_equalIn_array w 9999 _ _ Tryz.underlying23 hi, cellsOfU8, eqItems_bytes 9998 a b w _ (fun i hi => by rw [List.mem_range] at hi; omega), all_eq a b ha hb]

theorem idEqGuard : Tryz.prog.eqGuardType Tryz.prog.depth 23 = false := by kernel_rfl

theorem eql_id (a b : List UInt8) (ha : a.length = 20) (hb : b.length = 20) (w : World) :
    (binOp .eql 23 (.agg (Lib.byteCells a).toArray) (.agg (Lib.byteCells b).toArray)).run Tryz.prog w = .ok (.bool (a == b)) w := by
  rw [run_eql_struct, run_eqId a b ha hb]; rfl
theorem neq_id (a b : List UInt8) (ha : a.length = 20) (hb : b.length = 20) (w : World) :
    (binOp .neq 23 (.agg (Lib.byteCells a).toArray) (.agg (Lib.byteCells b).toArray)).run Tryz.prog w = .ok (.bool (!(a == b))) w := by
  rw [run_neq_struct, run_eqId a b ha hb]; rfl
theorem guard_id (op : BinOp) (x y : Operand) (a b : List UInt8) (w : World) :
    (eqGuard op 23 x y (.agg (Lib.byteCells a).toArray) (.agg (Lib.byteCells b).toArray)).run Tryz.prog w = .ok () w :=
  run_eqGuard_agg w op _ x y _ _ idEqGuard

end Go.Proofs.YtemojhcbhljemaaGreatDoor

/- Slices of ids. No function of the program. -/
namespace Go.Proofs.YtemojhcbhljemaaGreatDoor
set_option linter.unusedVariables false
set_option linter.unusedSimpArgs false
open Go.RowKit

def kId : Kd (List UInt8) where
  cells := Lib.byteCells
  n := 20
  ok := fun l => l.length = 20
  E := 23
  T := 24
  zero := .agg #[.int .u8 0, .int .u8 0, .int .u8 0, .int .u8 0, .int .u8 0, .int .u8 0, .int .u8 0, .int .u8 0, .int .u8 0, .int .u8 0, .int .u8 0, .int .u8 0, .int .u8 0, .int .u8 0, .int .u8 0, .int .u8 0, .int .u8 0, .int .u8 0, .int .u8 0, .int .u8 0]
  bytes := 20
  hlen := fun x h => by rw [Lib.byteCells_length]; exact h
  hone := fun x => one_bytes' x
  hn := by decide
  hn2 := by decide
  hb := by decide
  und := Tryz.underlying24
  info := by kernel_rfl
  hz := rfl
def kIdEq : KdEq kId where
  eqv := fun a b => a == b
  iff := fun a b => beq_iff_eq
  eql := fun a b ha hb w => eql_id a b ha hb w
  neq := fun a b ha hb w => neq_id a b ha hb w
  guard := fun op x y a b w => guard_id op x y a b w

end Go.Proofs.YtemojhcbhljemaaGreatDoor

/- An id held against the one of zeros. No function of the program. -/
namespace Go.Proofs.YtemojhcbhljemaaGreatDoor
set_option linter.unusedVariables false
set_option linter.unusedSimpArgs false
open Go.RowKit

theorem eql_idz' (a : List UInt8) (ha : a.length = 20) (w : World) :
    (binOp .eql 23 (.agg (Lib.byteCells a).toArray) (.agg #[.int .u8 0, .int .u8 0, .int .u8 0, .int .u8 0, .int .u8 0, .int .u8 0, .int .u8 0, .int .u8 0, .int .u8 0, .int .u8 0, .int .u8 0, .int .u8 0, .int .u8 0, .int .u8 0, .int .u8 0, .int .u8 0, .int .u8 0, .int .u8 0, .int .u8 0, .int .u8 0])).run Tryz.prog w = .ok (.bool (a == zeros20)) w := eql_id a zeros20 ha rfl w
theorem neq_idz' (a : List UInt8) (ha : a.length = 20) (w : World) :
    (binOp .neq 23 (.agg (Lib.byteCells a).toArray) (.agg #[.int .u8 0, .int .u8 0, .int .u8 0, .int .u8 0, .int .u8 0, .int .u8 0, .int .u8 0, .int .u8 0, .int .u8 0, .int .u8 0, .int .u8 0, .int .u8 0, .int .u8 0, .int .u8 0, .int .u8 0, .int .u8 0, .int .u8 0, .int .u8 0, .int .u8 0, .int .u8 0])).run Tryz.prog w = .ok (.bool (!(a == zeros20))) w := neq_id a zeros20 ha rfl w
theorem guard_idz' (op : BinOp) (x y : Operand) (a : List UInt8) (w : World) :
    (eqGuard op 23 x y (.agg (Lib.byteCells a).toArray) (.agg #[.int .u8 0, .int .u8 0, .int .u8 0, .int .u8 0, .int .u8 0, .int .u8 0, .int .u8 0, .int .u8 0, .int .u8 0, .int .u8 0, .int .u8 0, .int .u8 0, .int .u8 0, .int .u8 0, .int .u8 0, .int .u8 0, .int .u8 0, .int .u8 0, .int .u8 0, .int .u8 0])).run Tryz.prog w = .ok () w := guard_id op x y a zeros20 w
theorem run_zeroId (w : World) : (Instr.build 23 #[]).run Tryz.prog w = .ok (.agg (Lib.byteCells zeros20).toArray) w := run_build w _ _ _ (by kernel_rfl)

end Go.Proofs.YtemojhcbhljemaaGreatDoor

/- Plain functions for layer 1 (hexa): digits of 16 and of 10, and how they are read back; no Go and no memory. -/
namespace Go.Proofs.YtemojhcbhljemaaGreatDoor.Pure
set_option linter.unusedVariables false
set_option linter.unusedSimpArgs false

/-- A digit of 16. -/
def hexDigit (n : Nat) : UInt8 := if n < 10 then UInt8.ofNat (48 + n) else UInt8.ofNat (87 + n)

/-- Bytes as digits of 16. -/
def hex : List UInt8 → List UInt8
  | [] => []
  | c :: r => hexDigit (c.toNat / 16) :: hexDigit (c.toNat % 16) :: hex r

theorem hex_append (a b : List UInt8) : hex (a ++ b) = hex a ++ hex b := by
  induction a with
  | nil => rfl
  | cons c r ih => simp [hex, ih]

theorem hex_length (a : List UInt8) : (hex a).length = 2 * a.length := by
  induction a with
  | nil => rfl
  | cons c r ih => simp [hex, ih]; omega

/-- What a digit of 16 says. -/
def val (c : UInt8) : Option Nat :=
  if 48 ≤ c.toNat ∧ c.toNat ≤ 57 then some (c.toNat - 48) else if 97 ≤ c.toNat ∧ c.toNat ≤ 102 then some (c.toNat - 87) else none

/-- The bytes that digits say, the upper half of a byte at hand or not. -/
def unhexA : Option Nat → List UInt8 → Option (List UInt8)
  | none, [] => some []
  | some _, [] => none
  | none, c :: r => (val c).bind fun v => unhexA (some v) r
  | some u, c :: r => (val c).bind fun v => (unhexA none r).map (UInt8.ofNat (16 * u + v) :: ·)

/-- The bytes that digits of 16 say. -/
def unhex (l : List UInt8) : Option (List UInt8) := unhexA none l

theorem val_lt {c : UInt8} {v : Nat} (h : val c = some v) : v < 16 := by
  unfold val at h
  split at h
  · simp at h; omega
  · split at h
    · simp at h; omega
    · simp at h

theorem unhexA_length : ∀ (l : List UInt8) (u : Option Nat) (r : List UInt8), unhexA u l = some r → 2 * r.length = l.length + (if u.isSome then 1 else 0)
  | [], none, r, h => by simp [unhexA] at h; subst h; rfl
  | [], some _, r, h => by simp [unhexA] at h
  | c :: t, none, r, h => by
    simp only [unhexA, Option.bind_eq_some_iff] at h
    obtain ⟨v, _, h⟩ := h
    have := unhexA_length t (some v) r h
    simp at this ⊢
    omega
  | c :: t, some u, r, h => by
    simp only [unhexA, Option.bind_eq_some_iff, Option.map_eq_some_iff] at h
    obtain ⟨v, _, r', h, rfl⟩ := h
    have := unhexA_length t none r' h
    simp at this ⊢
    omega

theorem unhex_odd (l : List UInt8) (h : l.length % 2 = 1) : unhex l = none := by
  cases e : unhex l with
  | none => rfl
  | some r => have := unhexA_length l none r e; simp at this; omega

theorem unhex_length {l r : List UInt8} (h : unhex l = some r) : 2 * r.length = l.length := by
  have := unhexA_length l none r h
  simpa using this

end Go.Proofs.YtemojhcbhljemaaGreatDoor.Pure

/- Plain laws of layer 1 (hexa): what is written is read, what is read is written so; no Go and no memory. -/
namespace Go.Proofs.YtemojhcbhljemaaGreatDoor.Pure

theorem val_hexDigit : ∀ n : Nat, n < 16 → val (hexDigit n) = some n := by decide

theorem hexDigit_val {c : UInt8} {v : Nat} (h : val c = some v) : hexDigit v = c := by
  unfold val at h
  split at h
  · rename_i hc
    simp at h
    subst h
    unfold hexDigit
    rw [if_pos (by omega)]
    apply UInt8.toNat_inj.1
    rw [UInt8.toNat_ofNat']
    omega
  · split at h
    · rename_i hc
      simp at h
      subst h
      unfold hexDigit
      rw [if_neg (by omega)]
      apply UInt8.toNat_inj.1
      rw [UInt8.toNat_ofNat']
      omega
    · simp at h

theorem unhex_hex (l : List UInt8) : unhex (hex l) = some l := by
  induction l with
  | nil => rfl
  | cons c r ih =>
    have hc := c.toNat_lt
    have h1 := val_hexDigit (c.toNat / 16) (by omega)
    have h2 := val_hexDigit (c.toNat % 16) (by omega)
    unfold unhex at ih
    simp only [unhex, hex, unhexA, h1, h2, Option.bind_some, ih, Option.map_some]
    congr 2
    apply UInt8.toNat_inj.1
    rw [UInt8.toNat_ofNat']
    omega

theorem hex_unhexA : ∀ (s : List UInt8) (r : List UInt8), (unhexA none s = some r → hex r = s) ∧ ∀ u, u < 16 → unhexA (some u) s = some r → hex r = hexDigit u :: s
  | [], r => by
    refine ⟨fun h => ?_, fun u _ h => ?_⟩
    · simp [unhexA] at h; subst h; rfl
    · simp [unhexA] at h
  | c :: s, r => by
    refine ⟨fun h => ?_, fun u hu h => ?_⟩
    · simp only [unhexA, Option.bind_eq_some_iff] at h
      obtain ⟨v, hv, h⟩ := h
      have := (hex_unhexA s r).2 v (val_lt hv) h
      rw [this, hexDigit_val hv]
    · simp only [unhexA, Option.bind_eq_some_iff, Option.map_eq_some_iff] at h
      obtain ⟨v, hv, r', h, rfl⟩ := h
      have ih := (hex_unhexA s r').1 h
      have hv16 := val_lt hv
      have hn : (UInt8.ofNat (16 * u + v)).toNat = 16 * u + v := by rw [UInt8.toNat_ofNat']; omega
      simp only [hex, hn, ih]
      rw [show (16 * u + v) / 16 = u by omega, show (16 * u + v) % 16 = v by omega, hexDigit_val hv]

theorem hex_unhex {s r : List UInt8} (h : unhex s = some r) : hex r = s := (hex_unhexA s r).1 h

theorem unhex_none_of_bad (s : List UInt8) (i : Nat) (c : UInt8) (h : s[i]? = some c) (hc : val c = none) : unhex s = none := by
  have key : ∀ (s : List UInt8) (i : Nat) (u : Option Nat), s[i]? = some c → unhexA u s = none := by
    intro s
    induction s with
    | nil => intro i u h; simp at h
    | cons x s ih =>
      intro i u h
      cases i with
      | zero =>
        simp at h
        subst h
        cases u <;> simp [unhexA, hc]
      | succ i =>
        have h' : s[i]? = some c := by simpa using h
        cases u with
        | none =>
          simp only [unhexA]
          cases hv : val x with
          | none => rfl
          | some v => simpa using ih i (some v) h'
        | some u =>
          simp only [unhexA]
          cases hv : val x with
          | none => rfl
          | some v => simp [ih i none h']
  exact key s i none h

end Go.Proofs.YtemojhcbhljemaaGreatDoor.Pure

/- Plain laws on numbers as digits of 10: what a text of digits says, that a number's digits say it, and no other text does; no Go and no memory. -/
namespace Go.Proofs.YtemojhcbhljemaaGreatDoor.Pure
set_option linter.unusedVariables false
set_option linter.unusedSimpArgs false
open Go.Lib

/-- What digits say behind a number. -/
def dec (acc : Nat) : List UInt8 → Option Nat
  | [] => some acc
  | c :: r => if 48 ≤ c.toNat ∧ c.toNat ≤ 57 then dec (acc * 10 + (c.toNat - 48)) r else none

theorem dec_append : ∀ (a b : List UInt8) (acc : Nat), dec acc (a ++ b) = (dec acc a).bind fun u => dec u b
  | [], b, acc => rfl
  | c :: a, b, acc => by
    simp only [List.cons_append, dec]
    split
    · exact dec_append a b _
    · rfl
theorem dec_one (acc d : Nat) (h : d < 10) : dec acc [UInt8.ofNat (48 + d)] = some (acc * 10 + d) := by
  have e : (UInt8.ofNat (48 + d)).toNat = 48 + d := by rw [UInt8.toNat_ofNat']; omega
  simp only [dec, e]
  rw [if_pos (by omega)]
  congr 1
  omega
theorem decDigits_big {u : Nat} (h : ¬ u < 10) : decDigits u = decDigits (u / 10) ++ [UInt8.ofNat (48 + u % 10)] := by rw [decDigits, dif_neg h]
theorem decDigits_small {u : Nat} (h : u < 10) : decDigits u = [UInt8.ofNat (48 + u)] := by rw [decDigits, dif_pos h]

theorem dec_digits (u : Nat) : dec 0 (decDigits u) = some u := by
  induction u using Nat.strongRecOn with
  | _ u ih =>
    by_cases h : u < 10
    · rw [decDigits_small h, dec_one 0 u h]; simp
    · rw [decDigits_big h, dec_append, ih (u / 10) (by omega)]
      show dec (u / 10) _ = _
      rw [dec_one _ _ (by omega)]
      congr 1
      omega
theorem digits_ne (u : Nat) : decDigits u ≠ [] := by
  by_cases h : u < 10
  · rw [decDigits_small h]; simp
  · rw [decDigits_big h]; simp
/-- The first digit is no 0, but for 0 itself. -/
theorem digits_head (u : Nat) : ∀ r, decDigits u = 48 :: r → u = 0 ∧ r = [] := by
  induction u using Nat.strongRecOn with
  | _ u ih =>
    intro r hr
    by_cases h : u < 10
    · rw [decDigits_small h] at hr
      injection hr with h1 h2
      have := congrArg UInt8.toNat h1
      rw [UInt8.toNat_ofNat'] at this
      have e : (48 : UInt8).toNat = 48 := rfl
      exact ⟨by omega, h2.symm⟩
    · rw [decDigits_big h] at hr
      cases hd : decDigits (u / 10) with
      | nil => exact absurd hd (digits_ne _)
      | cons a q =>
        rw [hd, List.cons_append] at hr
        injection hr with h1 h2
        subst h1
        have := (ih (u / 10) (by omega) q hd).1
        omega
theorem dec_digit {c : UInt8} {acc u : Nat} (h : dec acc [c] = some u) : ∃ d, d < 10 ∧ c = UInt8.ofNat (48 + d) ∧ u = acc * 10 + d := by
  simp only [dec] at h
  split at h
  · rename_i hc
    refine ⟨c.toNat - 48, by omega, ?_, by have := Option.some.inj h; omega⟩
    rw [show 48 + (c.toNat - 48) = c.toNat by omega]
    simp
  · cases h
/-- Digits that say a number, the first no 0, or alone, are that number's. -/
theorem digits_unique : ∀ (n : Nat) (l : List UInt8) (u : Nat), l.length = n → l ≠ [] → dec 0 l = some u → (l.head? = some 48 → l.length = 1) → l = decDigits u
  | 0, l, u, hn, hne, _, _ => absurd (List.eq_nil_of_length_eq_zero hn) hne
  | n + 1, l, u, hn, hne, hd, hh => by
    have hl := List.dropLast_concat_getLast hne
    rw [← hl, dec_append] at hd
    cases h1 : dec 0 l.dropLast with
    | none => rw [h1] at hd; cases hd
    | some a =>
      rw [h1] at hd
      obtain ⟨d, hd10, hc, hu⟩ := dec_digit (show dec a [l.getLast hne] = some u from hd)
      by_cases hq : l.dropLast = []
      · rw [hq] at h1 hl
        simp only [dec, Option.some.injEq] at h1
        subst h1
        rw [decDigits_small (by omega), ← hl, List.nil_append, hc]
        congr 2
        omega
      · have hlen : l.dropLast.length = n := by rw [List.length_dropLast]; omega
        have hhd : l.dropLast.head? = l.head? := by
          conv => rhs; rw [← hl]
          cases hx : l.dropLast with
          | nil => exact absurd hx hq
          | cons a b => rfl
        have hn48 : l.head? ≠ some 48 := by
          intro e
          have := hh e
          have hq' : l.dropLast.length ≠ 0 := fun e => hq (List.eq_nil_of_length_eq_zero e)
          omega
        have ih := digits_unique n l.dropLast a hlen hq h1 (fun e => absurd (hhd ▸ e) hn48)
        have ha : 1 ≤ a := by
          rcases Nat.eq_zero_or_pos a with h0 | h0
          · subst h0
            rw [decDigits_small (by omega)] at ih
            rw [ih] at hhd
            exact absurd hhd.symm hn48
          · exact h0
        rw [decDigits_big (by omega), ← hl, hc, show u / 10 = a by omega, show u % 10 = d by omega, ← ih]

/-! ### the library's parse -/
theorem parse_dec : ∀ (l : List UInt8) (acc u : Nat), parseUint10 acc l = .ok u → dec acc l = some u
  | [], acc, u, h => by
    simp only [parseUint10] at h
    injection h with h
    subst h; rfl
  | c :: r, acc, u, h => by
    simp only [parseUint10] at h
    simp only [dec]
    split at h
    · rename_i hc
      split at h
      · cases h
      split at h
      · cases h
      rw [if_pos hc]
      exact parse_dec r _ u h
    · cases h
theorem dec_le : ∀ (l : List UInt8) (acc u : Nat), dec acc l = some u → acc ≤ u
  | [], acc, u, h => by simp only [dec, Option.some.injEq] at h; omega
  | c :: r, acc, u, h => by
    simp only [dec] at h
    split at h
    · have := dec_le r _ u h; omega
    · cases h
theorem dec_parse : ∀ (l : List UInt8) (acc u : Nat), dec acc l = some u → u < 18446744073709551616 → parseUint10 acc l = .ok u
  | [], acc, u, h, _ => by
    simp only [dec, Option.some.injEq] at h
    subst h; rfl
  | c :: r, acc, u, h, hu => by
    simp only [dec] at h
    simp only [parseUint10]
    split at h
    · rename_i hc
      have := dec_le r _ u h
      rw [if_pos hc, if_neg (by omega), if_neg (by omega)]
      exact dec_parse r _ u h hu
    · cases h

/-- A number within the bounds of 64 bits. -/
def In64 (v : Int) : Prop := -9223372036854775808 ≤ v ∧ v ≤ 9223372036854775807

/-- The number that digits of 10 say, as the program takes it. -/
def takeN (l : List UInt8) : Option Int := match parseIntB 64 l with
  | .ok v => if itoa v = l then some v else none
  | _ => none
theorem digits_first (u : Nat) : ∃ c r, decDigits u = c :: r ∧ 48 ≤ c.toNat ∧ c.toNat ≤ 57 := by
  cases h : decDigits u with
  | nil => exact absurd h (digits_ne u)
  | cons c r =>
    have hd := dec_digits u
    rw [h] at hd
    simp only [dec] at hd
    split at hd
    · rename_i hc; exact ⟨c, r, rfl, hc⟩
    · cases hd
theorem parse_itoa {v : Int} (h : In64 v) : parseIntB 64 (itoa v) = .ok v := by
  obtain ⟨h0, h1⟩ := h
  have hmag : ∀ u : Nat, u < 18446744073709551616 → parseUintB 64 (decDigits u) = .ok u := by
    intro u hu
    rw [parseUintB_64, parseMag, if_neg (digits_ne u)]
    exact dec_parse _ _ _ (dec_digits u) hu
  unfold itoa
  split
  · rename_i hn
    rw [parseIntB_minus, hmag _ (by omega)]
    unfold signedC
    simp only
    rw [if_neg (by omega)]
    congr 1
    omega
  · rename_i hn
    obtain ⟨c, r, hc, hc0, hc1⟩ := digits_first v.toNat
    rw [hc, parseIntB_plain 64 c r (by omega) (by omega), ← hc, hmag _ (by omega)]
    unfold signlessC
    simp only
    rw [if_neg (by omega)]
    congr 1
    omega
theorem parse_in {l : List UInt8} {v : Int} (h : parseIntB 64 l = .ok v) : In64 v := by
  unfold parseIntB at h
  cases l with
  | nil => cases h
  | cons c r =>
    simp only at h
    split at h
    · cases h
    · cases h
    · rename_i u hu
      split at h
      · cases h
      split at h
      · cases h
      · rename_i h1 h2
        injection h with h
        subst h
        simp only [show (2 : Nat) ^ (64 - 1) = 9223372036854775808 by rfl] at h1 h2
        unfold In64
        split
        · rename_i hc; constructor <;> omega
        · rename_i hc; constructor <;> omega
theorem takeN_itoa {v : Int} (h : In64 v) : takeN (itoa v) = some v := by
  unfold takeN
  rw [parse_itoa h]
  simp
theorem takeN_some {l : List UInt8} {v : Int} (h : takeN l = some v) : itoa v = l ∧ In64 v := by
  unfold takeN at h
  split at h
  · rename_i u hu
    split at h
    · rename_i he
      cases h
      exact ⟨he, parse_in hu⟩
    · cases h
  · cases h

/-- The number that digits of 10 say, as the reference takes it. -/
def takeR (l : List UInt8) : Option Int :=
  let minus := decide (l.head? = some 45)
  let d := if minus = true then l.tail else l
  if d = [] ∨ 19 < d.length ∨ (d.head? = some 48 ∧ (1 < d.length ∨ minus = true)) then none
  else match dec 0 d with
    | none => none
    | some v => if 9223372036854775808 < v ∨ (minus = false ∧ v = 9223372036854775808) then none else some (if minus = true then -(v : Int) else v)
theorem digits_len {u : Nat} (h : u ≤ 9223372036854775808) : (decDigits u).length ≤ 19 := by
  have key : ∀ (k u : Nat), u < 10 ^ (k + 1) → (decDigits u).length ≤ k + 1 := by
    intro k
    induction k with
    | zero => intro u hu; rw [decDigits_small (by omega)]; simp
    | succ k ih =>
      intro u hu
      by_cases h10 : u < 10
      · rw [decDigits_small h10]; simp
      · rw [decDigits_big h10, List.length_append]
        have := ih (u / 10) (by rw [Nat.pow_succ] at hu; omega)
        simp only [List.length_cons, List.length_nil]
        omega
  exact key 18 u (by omega)
theorem takeR_itoa {v : Int} (h : In64 v) : takeR (itoa v) = some v := by
  obtain ⟨h0, h1⟩ := h
  by_cases hn : v < 0
  · have e : itoa v = 45 :: decDigits v.natAbs := by unfold itoa; rw [if_pos hn]
    have hl := digits_len (u := v.natAbs) (by omega)
    have hne := digits_ne v.natAbs
    have hh : (decDigits v.natAbs).head? ≠ some 48 := by
      intro e2
      cases hd : decDigits v.natAbs with
      | nil => exact hne hd
      | cons a b =>
        rw [hd] at e2
        cases e2
        have := (digits_head _ _ hd).1
        omega
    rw [e]
    unfold takeR
    simp only [List.head?_cons, List.tail_cons, decide_true, if_true]
    rw [if_neg (by rintro (h | h | h); exact hne h; omega; exact hh h.1), dec_digits]
    simp only
    rw [if_neg (by simp; omega)]
    congr 1
    omega
  · have e : itoa v = decDigits v.toNat := by unfold itoa; rw [if_neg hn]
    have hl := digits_len (u := v.toNat) (by omega)
    have hne := digits_ne v.toNat
    obtain ⟨c, r, hc, hc0, hc1⟩ := digits_first v.toNat
    have h45 : (decDigits v.toNat).head? ≠ some 45 := by
      rw [hc]; intro e2; cases e2; simp at hc0
    have hh : (decDigits v.toNat).head? = some 48 → ¬ 1 < (decDigits v.toNat).length := by
      intro e2
      rw [hc] at e2
      cases e2
      have := digits_head _ _ hc
      rw [hc, this.2]; simp
    rw [e]
    unfold takeR
    simp only [h45, decide_false, Bool.false_eq_true, if_false, or_false]
    rw [if_neg (by rintro (h | h | h); exact hne h; omega; exact hh h.1 h.2), dec_digits]
    simp only
    rw [if_neg (by simp; omega)]
    congr 1
    omega
theorem takeR_minus {l : List UInt8} (hm : l.head? = some 45) : takeR l = if l.tail = [] ∨ 19 < l.tail.length ∨ l.tail.head? = some 48 then none
    else (dec 0 l.tail).bind fun v => if 9223372036854775808 < v then none else some (-(v : Int)) := by
  unfold takeR
  simp only [hm, decide_true, if_true, or_true, and_true, Bool.true_eq_false, false_and, or_false]
  split
  · rfl
  · cases dec 0 l.tail <;> rfl
theorem takeR_plain {l : List UInt8} (hm : l.head? ≠ some 45) : takeR l = if l = [] ∨ 19 < l.length ∨ (l.head? = some 48 ∧ 1 < l.length) then none
    else (dec 0 l).bind fun v => if 9223372036854775808 ≤ v then none else some (v : Int) := by
  unfold takeR
  simp only [hm, decide_false, Bool.false_eq_true, if_false, or_false, true_and]
  split
  · rfl
  · cases dec 0 l with
    | none => rfl
    | some v =>
      simp only [Option.bind_some]
      by_cases h : 9223372036854775808 ≤ v
      · rw [if_pos (by omega), if_pos h]
      · rw [if_neg (by omega), if_neg h]
theorem takeR_some {l : List UInt8} {v : Int} (h : takeR l = some v) : itoa v = l ∧ In64 v := by
  by_cases hm : l.head? = some 45
  · rw [takeR_minus hm] at h
    by_cases hc : l.tail = [] ∨ 19 < l.tail.length ∨ l.tail.head? = some 48
    · rw [if_pos hc] at h; cases h
    rw [if_neg hc] at h
    cases hu : dec 0 l.tail with
    | none => rw [hu] at h; cases h
    | some u =>
      rw [hu, Option.bind_some] at h
      by_cases hb : 9223372036854775808 < u
      · rw [if_pos hb] at h; cases h
      rw [if_neg hb] at h
      have h := Option.some.inj h
      have hl : l = 45 :: l.tail := by
        cases l with
        | nil => cases hm
        | cons a b => simp at hm; subst hm; rfl
      have hne : l.tail ≠ [] := fun e => hc (.inl e)
      have h48 : l.tail.head? ≠ some 48 := fun e => hc (.inr (.inr e))
      have hd := digits_unique _ _ u rfl hne hu (fun e => absurd e h48)
      have hu1 : 1 ≤ u := by
        rcases Nat.eq_zero_or_pos u with h0 | h0
        · subst h0
          rw [decDigits_small (by omega)] at hd
          rw [hd] at h48
          exact absurd rfl h48
        · exact h0
      subst h
      refine ⟨?_, by constructor <;> omega⟩
      rw [itoa_neg u hu1, ← hd, ← hl]
  · rw [takeR_plain hm] at h
    by_cases hc : l = [] ∨ 19 < l.length ∨ (l.head? = some 48 ∧ 1 < l.length)
    · rw [if_pos hc] at h; cases h
    rw [if_neg hc] at h
    cases hu : dec 0 l with
    | none => rw [hu] at h; cases h
    | some u =>
      rw [hu, Option.bind_some] at h
      by_cases hb : 9223372036854775808 ≤ u
      · rw [if_pos hb] at h; cases h
      rw [if_neg hb] at h
      have h := Option.some.inj h
      have hne : l ≠ [] := fun e => hc (.inl e)
      have hd := digits_unique _ l u rfl hne hu (fun e => by
        have h1 : ¬ 1 < l.length := fun h1 => hc (.inr (.inr ⟨e, h1⟩))
        have h2 : l.length ≠ 0 := fun e => hne (List.eq_nil_of_length_eq_zero e)
        omega)
      subst h
      refine ⟨?_, by constructor <;> omega⟩
      rw [itoa_nonneg u, ← hd]
/-- Program and reference take the same numbers. -/
theorem take_same (l : List UInt8) : takeR l = takeN l := by
  cases h : takeN l with
  | some v =>
    obtain ⟨h1, h2⟩ := takeN_some h
    rw [← h1]; exact takeR_itoa h2
  | none =>
    cases h2 : takeR l with
    | none => rfl
    | some v =>
      obtain ⟨h3, h4⟩ := takeR_some h2
      rw [← h3, takeN_itoa h4] at h
      cases h

end Go.Proofs.YtemojhcbhljemaaGreatDoor.Pure

/- A text cut at the first of a byte. Plain: no program in sight. -/
namespace Go.Proofs.YtemojhcbhljemaaGreatDoor.Pure

/-- What stands ahead of the first c, and behind it. -/
def cutC (c : UInt8) : List UInt8 → Option (List UInt8 × List UInt8)
  | [] => none
  | b :: r => if b = c then some ([], r) else (cutC c r).map fun x => (b :: x.1, x.2)
theorem cutC_none (c : UInt8) : ∀ (l : List UInt8), cutC c l = none ↔ ∀ b ∈ l, b ≠ c
  | [] => by simp [cutC]
  | b :: r => by
    unfold cutC
    by_cases h : b = c
    · rw [if_pos h]; simp [h]
    · rw [if_neg h, Option.map_eq_none_iff, cutC_none c r]; simp [h]
theorem cutC_some (c : UInt8) : ∀ (l a b : List UInt8), cutC c l = some (a, b) ↔ l = a ++ c :: b ∧ ∀ d ∈ a, d ≠ c
  | [], a, b => by simp [cutC]
  | x :: r, a, b => by
    unfold cutC
    by_cases h : x = c
    · rw [if_pos h]
      subst h
      constructor
      · intro e; cases e; exact ⟨rfl, by simp⟩
      · rintro ⟨e, hn⟩
        cases a with
        | nil => simp at e; rw [e]
        | cons y a => simp at e; exact absurd e.1.symm (hn y (by simp))
    · rw [if_neg h, Option.map_eq_some_iff]
      constructor
      · rintro ⟨⟨y, z⟩, hyz, e⟩
        obtain ⟨h1, h2⟩ := (cutC_some c r y z).1 hyz
        simp only [Prod.mk.injEq] at e
        obtain ⟨rfl, rfl⟩ := e
        exact ⟨by rw [h1]; rfl, by simp only [List.mem_cons, forall_eq_or_imp]; exact ⟨h, h2⟩⟩
      · rintro ⟨e, hn⟩
        cases a with
        | nil => simp at e; exact absurd e.1 h
        | cons y a =>
          simp at e
          exact ⟨(a, b), (cutC_some c r a b).2 ⟨e.2, fun d hd => hn d (by simp [hd])⟩, by simp [e.1]⟩
theorem cutC_app (c : UInt8) (a b : List UInt8) (h : ∀ d ∈ a, d ≠ c) : cutC c (a ++ c :: b) = some (a, b) := (cutC_some c _ _ _).2 ⟨rfl, h⟩
theorem cutC_len {c : UInt8} {l a b : List UInt8} (h : cutC c l = some (a, b)) : a.length + b.length + 1 = l.length := by
  rw [((cutC_some c l a b).1 h).1]; simp; omega

theorem cut_one (l : List UInt8) (c : UInt8) : Lib.cut l [c] = match cutC c l with | some (a, b) => (a, b, true) | none => (l, [], false) := by
  unfold Lib.cut
  rw [Lib.index_one]
  by_cases h0 : 0 ≤ Lib.indexByte l c
  · obtain ⟨i, hi⟩ := Int.eq_ofNat_of_zero_le h0
    obtain ⟨h1, h2⟩ := Lib.indexByte_some hi
    have hlt : i < l.length := (List.getElem?_eq_some_iff.1 h1).1
    have hd : l.drop i = c :: l.drop (i + 1) := by rw [List.drop_eq_getElem_cons hlt, (List.getElem?_eq_some_iff.1 h1).2]
    have hcut : cutC c l = some (l.take i, l.drop (i + 1)) := by
      rw [cutC_some]
      refine ⟨by conv => lhs; rw [← List.take_append_drop i l, hd], ?_⟩
      intro d hdm e
      subst e
      obtain ⟨j, hj⟩ := List.mem_iff_getElem?.1 hdm
      rw [List.getElem?_take] at hj
      split at hj
      · rename_i hji; exact h2 j hji hj
      · cases hj
    rw [if_pos h0, hcut, hi]
    rfl
  · have hcut : cutC c l = none := by
      rw [cutC_none]
      intro d hd e
      subst e
      have h1 : -1 ≤ Lib.indexByte l d := by rw [← Lib.index_one]; exact Lib.index_ge _ _
      obtain ⟨j, hj⟩ := List.mem_iff_getElem?.1 hd
      exact Lib.indexByte_none (show Lib.indexByte l d = -1 by omega) j hj
    rw [if_neg h0, hcut]

end Go.Proofs.YtemojhcbhljemaaGreatDoor.Pure

/- Plain functions for layer 11 (names of refs): which bytes may not stand in a name, its parts, which texts are names; no Go and no memory. -/
namespace Go.Proofs.YtemojhcbhljemaaGreatDoor.Pure
set_option linter.unusedVariables false
set_option linter.unusedSimpArgs false
open Go.Lib

/-- A byte that may not stand in a name. -/
def badB (c : UInt8) : Bool := decide (c.toNat ≤ 32) || c.toNat == 127 || ([126, 94, 58, 63, 42, 91, 92] : List UInt8).contains c
/-- A name cut at each /. -/
def splitS : List UInt8 → List (List UInt8)
  | [] => [[]]
  | c :: r => if c = 47 then [] :: splitS r else (c :: (splitS r).headD []) :: (splitS r).tail
/-- A part that may be. -/
def partP (p : List UInt8) : Bool := !p.isEmpty && !hasPrefix p [46] && !hasSuffix p [46, 108, 111, 99, 107]
/-- A ref's name that may be. -/
def right (s : List UInt8) : Bool :=
  decide (s.length ≤ 200) && validD s && !contains s [46, 46] && !contains s [64, 123] && !hasSuffix s [46] && s.all (fun c => !badB c) && (splitS s).all partP && decide (2 ≤ (splitS s).length)
def headsL : List UInt8 := [114, 101, 102, 115, 47, 104, 101, 97, 100, 115, 47]
/-- A branch's name that may be. -/
def branch (s : List UInt8) : Bool := !hasPrefix s [45] && right (headsL ++ s)

theorem splitS_ne (l : List UInt8) : splitS l ≠ [] := by
  cases l with
  | nil => simp [splitS]
  | cons c r => unfold splitS; split <;> simp
theorem splitS_eq (l : List UInt8) : splitS l = (splitS l).headD [] :: (splitS l).tail := by
  cases h : splitS l with
  | nil => exact absurd h (splitS_ne l)
  | cons a b => rfl

theorem splitS_cons {c : UInt8} (h : c ≠ 47) (r : List UInt8) : splitS (c :: r) = (c :: (splitS r).headD []) :: (splitS r).tail := by simp [splitS, h]
theorem splitS_slash (r : List UInt8) : splitS (47 :: r) = [] :: splitS r := by simp [splitS]

/-- Cut at the first /. -/
theorem splitS_hit : ∀ (a b : List UInt8), (∀ c ∈ a, c ≠ 47) → splitS (a ++ 47 :: b) = a :: splitS b
  | [], b, _ => by simp [splitS]
  | c :: a, b, h => by
    have hc : c ≠ 47 := h c (by simp)
    rw [List.cons_append, splitS_cons hc, splitS_hit a b (fun x hx => h x (by simp [hx]))]
    rfl
theorem splitS_none : ∀ (a : List UInt8), (∀ c ∈ a, c ≠ 47) → splitS a = [a]
  | [], _ => rfl
  | c :: a, h => by
    have hc : c ≠ 47 := h c (by simp)
    rw [splitS_cons hc, splitS_none a (fun x hx => h x (by simp [hx]))]
    rfl

theorem splitS_len : ∀ (l : List UInt8), ∀ p ∈ splitS l, p.length ≤ l.length
  | [], p, h => by simp [splitS] at h; subst h; simp
  | c :: r, p, h => by
    have ih := splitS_len r
    by_cases hc : c = 47
    · subst hc
      rw [splitS_slash, List.mem_cons] at h
      rcases h with rfl | h
      · simp
      · have := ih p h; simp; omega
    · rw [splitS_cons hc, List.mem_cons] at h
      rcases h with rfl | h
      · have := ih ((splitS r).headD []) (by rw [splitS_eq r]; simp)
        simp only [List.length_cons]; omega
      · have := ih p (List.mem_of_mem_tail h)
        simp only [List.length_cons]; omega

theorem splitK_eq : ∀ (k : Nat) (l : List UInt8), l.count 47 = k → splitK [47] 0 k l = splitS l
  | 0, l, h => by
    rw [List.count_eq_zero] at h
    exact (splitS_none l (fun c hc e => h (e ▸ hc))).symm
  | k + 1, l, h => by
    have hm : (47 : UInt8) ∈ l := by
      apply Classical.byContradiction
      intro hn
      have := List.count_eq_zero.2 hn
      omega
    have hix : ∃ i : Nat, indexByte l 47 = i := by
      cases hq : indexByte l 47 with
      | ofNat i => exact ⟨i, rfl⟩
      | negSucc i =>
        exfalso
        have h1 : -1 ≤ indexByte l 47 := by rw [← index_one]; exact index_ge _ _
        have h2 : indexByte l 47 = -1 := by omega
        obtain ⟨j, hj⟩ := List.mem_iff_getElem?.1 hm
        exact indexByte_none h2 j hj
    obtain ⟨i, hi⟩ := hix
    obtain ⟨h1, h2⟩ := indexByte_some hi
    have hlt : i < l.length := (List.getElem?_eq_some_iff.1 h1).1
    have hd : l.drop i = 47 :: l.drop (i + 1) := by
      rw [List.drop_eq_getElem_cons hlt, (List.getElem?_eq_some_iff.1 h1).2]
    have hl : l = l.take i ++ 47 :: l.drop (i + 1) := by
      conv => lhs; rw [← List.take_append_drop i l, hd]
    have ha : ∀ c ∈ l.take i, c ≠ 47 := by
      intro c hc e
      subst e
      obtain ⟨j, hj⟩ := List.mem_iff_getElem?.1 hc
      rw [List.getElem?_take] at hj
      split at hj
      · rename_i hji; exact h2 j hji hj
      · cases hj
    have hc : (l.drop (i + 1)).count 47 = k := by
      rw [hl, List.count_append, List.count_cons_self, List.count_eq_zero.2 (fun hm => ha _ hm rfl)] at h
      omega
    rw [splitK, index_one, hi, if_neg (by simp)]
    have e1 : ((i : Int)).toNat = i := by omega
    simp only [e1, Nat.add_zero, List.length_cons, List.length_nil, Nat.zero_add]
    rw [splitK_eq k _ hc]
    conv => rhs; rw [hl]
    rw [splitS_hit _ _ ha]

/-- strings.Split at /. -/
theorem splitB_eq (s : ByteArray) : (splitB ⟨#[47]⟩ 0 (countB s ⟨#[47]⟩) s).map (·.data.toList) = splitS s.data.toList := by
  rw [splitB_data]
  apply splitK_eq
  show List.count 47 s.data.toList = count s.data.toList [47]
  rw [count_one]

/-- What the reference does, byte by byte: the part at hand, and how many stand ahead of it. -/
def scan (cur : List UInt8) (n : Nat) : List UInt8 → Bool
  | [] => partP cur && decide (2 ≤ n + 1)
  | c :: r => if c = 47 then partP cur && scan [] (n + 1) r else !badB c && scan (cur ++ [c]) n r

theorem scan_slash (cur : List UInt8) (n : Nat) (r : List UInt8) : scan cur n (47 :: r) = (partP cur && scan [] (n + 1) r) := by simp [scan]
theorem scan_other (cur : List UInt8) (n : Nat) {c : UInt8} (h : c ≠ 47) (r : List UInt8) : scan cur n (c :: r) = (!badB c && scan (cur ++ [c]) n r) := by simp [scan, h]
theorem scan_end (cur : List UInt8) (n : Nat) : scan cur n [] = (partP cur && decide (2 ≤ n + 1)) := rfl
theorem piece_next (l : List UInt8) (f i : Nat) (hf : f ≤ i) (hi : i < l.length) : (l.take (i + 1)).drop f = (l.take i).drop f ++ [l[i]] := by
  rw [List.take_succ_eq_append_getElem hi, List.drop_append_of_le_length (by rw [List.length_take]; omega)]

theorem bad47 : badB 47 = false := by decide
theorem scan_eq : ∀ (l cur : List UInt8) (n : Nat), scan cur n l = (l.all (fun c => !badB c) && (partP (cur ++ (splitS l).headD []) && (splitS l).tail.all partP && decide (2 ≤ n + (splitS l).length)))
  | [], cur, n => by simp [scan, splitS]
  | c :: r, cur, n => by
    unfold scan
    by_cases h : c = 47
    · subst h
      have e : splitS (47 :: r) = [] :: splitS r := by simp [splitS]
      rw [if_pos rfl, scan_eq r, e]
      have e2 : (splitS r).all partP = (partP ((splitS r).headD []) && (splitS r).tail.all partP) := by
        conv => lhs; rw [splitS_eq r]
        simp
      simp only [List.all_cons, bad47, Bool.not_false, Bool.true_and, List.headD_cons, List.tail_cons, List.append_nil, List.length_cons, e2, List.nil_append]
      rw [show n + 1 + (splitS r).length = n + ((splitS r).length + 1) by omega]
      cases r.all (fun c => !badB c) <;> cases partP cur <;> simp
    · have e : splitS (c :: r) = (c :: (splitS r).headD []) :: (splitS r).tail := by simp [splitS, h]
      rw [if_neg h, scan_eq r, e]
      have e3 : (splitS r).length = (splitS r).tail.length + 1 := by rw [splitS_eq r]; rfl
      simp only [List.all_cons, List.headD_cons, List.tail_cons, List.append_assoc, List.singleton_append, List.length_cons, e3, Bool.and_assoc]

theorem scan_right (l : List UInt8) : scan [] 0 l = (l.all (fun c => !badB c) && (splitS l).all partP && decide (2 ≤ (splitS l).length)) := by
  have e2 : (splitS l).all partP = (partP ((splitS l).headD []) && (splitS l).tail.all partP) := by
    conv => lhs; rw [splitS_eq l]
    simp
  rw [scan_eq, e2, List.nil_append, Nat.zero_add]
  simp only [Bool.and_assoc]

theorem right_nil : right [] = false := by decide
/-- Which texts are names, as the reference asks it. -/
theorem right_scan (s : List UInt8) : right s = (decide (s.length ≤ 200) && validD s && !contains s [46, 46] && !contains s [64, 123] && !hasSuffix s [46] && scan [] 0 s) := by
  rw [scan_right]
  unfold right
  cases decide (s.length ≤ 200) && validD s && !contains s [46, 46] && !contains s [64, 123] && !hasSuffix s [46] <;> simp [Bool.and_assoc]

/-! ### runes and bytes -/
theorem decodeN_high (n b0 b1 b2 b3 : Nat) (h : 128 ≤ b0) : (decodeN n b0 b1 b2 b3).2 = 1 ∨ ((decodeN n b0 b1 b2 b3).2 = 2 ∧ 1 < n ∧ b1 / 64 = 2) ∨ ((decodeN n b0 b1 b2 b3).2 = 3 ∧ 2 < n ∧ b1 / 64 = 2 ∧ b2 / 64 = 2) ∨ ((decodeN n b0 b1 b2 b3).2 = 4 ∧ 3 < n ∧ b1 / 64 = 2 ∧ b2 / 64 = 2 ∧ b3 / 64 = 2) := by
  unfold decodeN
  rw [if_neg (by omega)]
  repeat' split
  all_goals simp_all

theorem get_bang (s : ByteArray) (k : Nat) : (s.get! k).toNat = ((s.data.toList).getD k 0).toNat := by
  rw [getD_get!']

/-- The bytes of a rune that is not ASCII are all from 128 on. -/
theorem decode_bytes (s : ByteArray) (pos : Nat) (hp : pos < s.size) (h : 128 ≤ (s[pos]'hp).toNat) : ∀ c ∈ (s.data.toList.drop pos).take (Utf8.decode s pos).2, 128 ≤ c.toNat := by
  have hg0 : (s.get! pos).toNat = (s[pos]'hp).toNat := by
    have e : s.get! pos = s[pos]'hp := by simp [ByteArray.get!, getElem!_pos, hp]; rfl
    rw [e]
  have key := decodeN_high (s.size - pos) (s.get! pos).toNat (s.get! (pos + 1)).toNat (s.get! (pos + 2)).toNat (s.get! (pos + 3)).toNat (by omega)
  rw [← decode_at] at key
  intro c hc
  obtain ⟨j, hj⟩ := List.mem_iff_getElem?.1 hc
  rw [List.getElem?_take] at hj
  split at hj
  · rename_i hlt
    rw [List.getElem?_drop] at hj
    have hcj : (s.get! (pos + j)).toNat = c.toNat := by rw [get_bang, List.getD_eq_getElem?_getD, hj]; rfl
    rcases key with k | ⟨k, -, k1⟩ | ⟨k, -, k1, k2⟩ | ⟨k, -, k1, k2, k3⟩
    · have : j = 0 := by omega
      subst this; rw [Nat.add_zero] at hcj; omega
    · have : j = 0 ∨ j = 1 := by omega
      rcases this with rfl | rfl <;> (try rw [Nat.add_zero] at hcj) <;> omega
    · have : j = 0 ∨ j = 1 ∨ j = 2 := by omega
      rcases this with rfl | rfl | rfl <;> (try rw [Nat.add_zero] at hcj) <;> omega
    · have : j = 0 ∨ j = 1 ∨ j = 2 ∨ j = 3 := by omega
      rcases this with rfl | rfl | rfl | rfl <;> (try rw [Nat.add_zero] at hcj) <;> omega
  · cases hj

theorem bad_high {c : UInt8} (h : 128 ≤ c.toNat) : badB c = false := by
  have key : ∀ n : Fin 256, 128 ≤ n.val → badB (UInt8.ofNat n.val) = false := by decide +kernel
  have := key ⟨c.toNat, c.toNat_lt⟩ h
  simpa using this

theorem all_skip (s : ByteArray) (pos : Nat) (hp : pos < s.size) (h : 128 ≤ (s[pos]'hp).toNat) :
    (s.data.toList.drop pos).all (fun c => !badB c) = (s.data.toList.drop (pos + (Utf8.decode s pos).2)).all (fun c => !badB c) := by
  have hb := decode_bytes s pos hp h
  conv => lhs; rw [← List.take_append_drop (Utf8.decode s pos).2 (s.data.toList.drop pos), List.all_append, List.drop_drop]
  have : ((s.data.toList.drop pos).take (Utf8.decode s pos).2).all (fun c => !badB c) = true := by
    rw [List.all_eq_true]
    intro c hc
    rw [bad_high (hb c hc)]; rfl
  rw [this, Bool.true_and]

end Go.Proofs.YtemojhcbhljemaaGreatDoor.Pure

/- Idents as texts: plain laws. No program in sight. -/
namespace Go.Proofs.YtemojhcbhljemaaGreatDoor.Pure

/-- A number's two digits; a zone's text. -/
def two (n : Nat) : List UInt8 := [UInt8.ofNat (48 + n / 10), UInt8.ofNat (48 + n % 10)]
def zoneT (neg : Bool) (n : Nat) : List UInt8 := (if neg then [45] else [43]) ++ two (n / 60) ++ two (n % 60)
def zoneS (z : Int) : List UInt8 := zoneT (decide (z < 0)) z.natAbs
def zoneIn (z : Int) : Prop := -840 ≤ z ∧ z ≤ 840
instance (z : Int) : Decidable (zoneIn z) := inferInstanceAs (Decidable (_ ∧ _))
def digit (c : UInt8) : Bool := decide (48 ≤ c.toNat) && decide (c.toNat ≤ 57)
def dv (c : UInt8) : Nat := c.toNat - 48
/-- The zone that five bytes are. -/
def zoneF : List UInt8 → Option Int
  | [s, a, b, c, d] => if digit a && digit b && digit c && digit d then
      let n : Int := (((dv a * 10 + dv b) * 6 + dv c) * 10 + dv d : Nat)
      let z := if s = 45 then -n else n
      if zoneIn z ∧ zoneS z = [s, a, b, c, d] then some z else none
    else none
  | _ => none

theorem two_nat {k : Nat} (h : k < 10) : (UInt8.ofNat (48 + k)).toNat = 48 + k := by rw [UInt8.toNat_ofNat']; omega
theorem zoneT_len (neg : Bool) (n : Nat) : (zoneT neg n).length = 5 := by cases neg <;> rfl
theorem zoneS_len (z : Int) : (zoneS z).length = 5 := zoneT_len _ _
theorem zoneF_S {z : Int} (h : zoneIn z) : zoneF (zoneS z) = some z := by
  obtain ⟨h1, h2⟩ := h
  have ha := @two_nat (z.natAbs / 60 / 10) (by omega)
  have hb := @two_nat (z.natAbs / 60 % 10) (by omega)
  have hc := @two_nat (z.natAbs % 60 / 10) (by omega)
  have hd := @two_nat (z.natAbs % 60 % 10) (by omega)
  have hs : zoneS z = [if decide (z < 0) then 45 else 43, UInt8.ofNat (48 + z.natAbs / 60 / 10), UInt8.ofNat (48 + z.natAbs / 60 % 10), UInt8.ofNat (48 + z.natAbs % 60 / 10), UInt8.ofNat (48 + z.natAbs % 60 % 10)] := by
    unfold zoneS zoneT two
    cases decide (z < 0) <;> rfl
  rw [hs]
  generalize UInt8.ofNat (48 + z.natAbs / 60 / 10) = a at *
  generalize UInt8.ofNat (48 + z.natAbs / 60 % 10) = b at *
  generalize UInt8.ofNat (48 + z.natAbs % 60 / 10) = c at *
  generalize UInt8.ofNat (48 + z.natAbs % 60 % 10) = d at *
  have da : digit a = true := by unfold digit; simp; omega
  have db : digit b = true := by unfold digit; simp; omega
  have dc : digit c = true := by unfold digit; simp; omega
  have dd : digit d = true := by unfold digit; simp; omega
  have hn : (((dv a * 10 + dv b) * 6 + dv c) * 10 + dv d) = z.natAbs := by unfold dv; rw [ha, hb, hc, hd]; omega
  unfold zoneF
  simp only [da, db, dc, dd, Bool.and_self, if_true, hn]
  by_cases hz : z < 0
  · have e : (-(z.natAbs : Int)) = z := by omega
    have e1 : decide (z < 0) = true := decide_eq_true hz
    simp only [e1, if_true] at hs ⊢
    rw [e, if_pos ⟨⟨h1, h2⟩, hs⟩]
  · have e : ((z.natAbs : Int)) = z := by omega
    have e1 : decide (z < 0) = false := decide_eq_false hz
    have e2 : ¬ ((43 : UInt8) = 45) := by decide
    simp only [e1, Bool.false_eq_true, if_false, if_neg e2] at hs ⊢
    rw [e, if_pos ⟨⟨h1, h2⟩, hs⟩]
theorem zoneF_some {l : List UInt8} {z : Int} (h : zoneF l = some z) : zoneIn z ∧ zoneS z = l := by
  unfold zoneF at h
  split at h
  · rename_i s a b c d
    have key : ∀ (q : Bool) (y : Int), (if q then (if zoneIn y ∧ zoneS y = [s, a, b, c, d] then some y else none) else none) = some z → zoneIn z ∧ zoneS z = [s, a, b, c, d] := by
      intro q y hq
      cases q with
      | false => cases hq
      | true =>
        simp only [if_true] at hq
        split at hq
        · rename_i hh; simp only [Option.some.injEq] at hq; subst hq; exact hh
        · cases hq
    exact key _ _ h
  · cases h
theorem zoneF_none {l : List UInt8} (h : zoneF l = none) : ∀ z, zoneIn z → zoneS z ≠ l := by
  intro z hz e
  rw [← e, zoneF_S hz] at h
  cases h
theorem zoneF_eq {l : List UInt8} {z : Int} (h : zoneIn z) (e : zoneS z = l) : zoneF l = some z := by rw [← e]; exact zoneF_S h
theorem zoneF_len {l : List UInt8} (h : l.length ≠ 5) : zoneF l = none := by
  unfold zoneF
  split
  · simp at h
  · rfl
/-- What the reference looks at. -/
theorem zoneF_ref (s a b c d : UInt8) (ha : digit a = true) (hb : digit b = true) (hc : digit c = true) (hd : digit d = true) (hs : s = 43 ∨ s = 45) :
    zoneF [s, a, b, c, d] = if 59 < dv c * 10 + dv d ∨ 840 < (dv a * 10 + dv b) * 60 + (dv c * 10 + dv d) ∨ (s = 45 ∧ (dv a * 10 + dv b) * 60 + (dv c * 10 + dv d) = 0) then none else some (if s = 45 then -(((dv a * 10 + dv b) * 60 + (dv c * 10 + dv d) : Nat) : Int) else (((dv a * 10 + dv b) * 60 + (dv c * 10 + dv d) : Nat) : Int)) := by
  unfold digit at ha hb hc hd
  simp at ha hb hc hd
  have ea : a = UInt8.ofNat (48 + dv a) := by apply UInt8.toNat_inj.1; rw [UInt8.toNat_ofNat']; unfold dv; omega
  have eb : b = UInt8.ofNat (48 + dv b) := by apply UInt8.toNat_inj.1; rw [UInt8.toNat_ofNat']; unfold dv; omega
  have ec : c = UInt8.ofNat (48 + dv c) := by apply UInt8.toNat_inj.1; rw [UInt8.toNat_ofNat']; unfold dv; omega
  have ed : d = UInt8.ofNat (48 + dv d) := by apply UInt8.toNat_inj.1; rw [UInt8.toNat_ofNat']; unfold dv; omega
  have la : dv a < 10 := by unfold dv; omega
  have lb : dv b < 10 := by unfold dv; omega
  have lc : dv c < 10 := by unfold dv; omega
  have ld : dv d < 10 := by unfold dv; omega
  by_cases h : 59 < dv c * 10 + dv d ∨ 840 < (dv a * 10 + dv b) * 60 + (dv c * 10 + dv d) ∨ (s = 45 ∧ (dv a * 10 + dv b) * 60 + (dv c * 10 + dv d) = 0)
  · rw [if_pos h]
    cases hz : zoneF [s, a, b, c, d] with
    | none => rfl
    | some z =>
      exfalso
      obtain ⟨⟨z1, z2⟩, hS⟩ := zoneF_some hz
      unfold zoneS zoneT two at hS
      have hS' : [if decide (z < 0) then (45 : UInt8) else 43, UInt8.ofNat (48 + z.natAbs / 60 / 10), UInt8.ofNat (48 + z.natAbs / 60 % 10), UInt8.ofNat (48 + z.natAbs % 60 / 10), UInt8.ofNat (48 + z.natAbs % 60 % 10)] = [s, a, b, c, d] := by
        rw [← hS]; cases decide (z < 0) <;> rfl
      simp only [List.cons.injEq, and_true] at hS'
      obtain ⟨e0, e1, e2, e3, e4⟩ := hS'
      have n1 := two_nat (k := z.natAbs / 60 / 10) (by omega)
      have n2 := two_nat (k := z.natAbs / 60 % 10) (by omega)
      have n3 := two_nat (k := z.natAbs % 60 / 10) (by omega)
      have n4 := two_nat (k := z.natAbs % 60 % 10) (by omega)
      rw [e1] at n1
      rw [e2] at n2
      rw [e3] at n3
      rw [e4] at n4
      have m1 : dv a = z.natAbs / 60 / 10 := by unfold dv; omega
      have m2 : dv b = z.natAbs / 60 % 10 := by unfold dv; omega
      have m3 : dv c = z.natAbs % 60 / 10 := by unfold dv; omega
      have m4 : dv d = z.natAbs % 60 % 10 := by unfold dv; omega
      rcases h with h | h | ⟨h, h'⟩
      · omega
      · omega
      · have : z = 0 := by omega
        subst this
        rw [← e0] at h
        revert h
        decide
  · rw [if_neg h]
    have h1 : ¬ 59 < dv c * 10 + dv d := fun x => h (.inl x)
    have h2 : ¬ 840 < (dv a * 10 + dv b) * 60 + (dv c * 10 + dv d) := fun x => h (.inr (.inl x))
    have h3 : s = 45 → ¬ ((dv a * 10 + dv b) * 60 + (dv c * 10 + dv d) = 0) := fun x y => h (.inr (.inr ⟨x, y⟩))
    obtain ⟨n, hn⟩ : ∃ n, (dv a * 10 + dv b) * 60 + (dv c * 10 + dv d) = n := ⟨_, rfl⟩
    rw [hn] at h2 h3 ⊢
    have k1 : n / 60 / 10 = dv a := by omega
    have k2 : n / 60 % 10 = dv b := by omega
    have k3 : n % 60 / 10 = dv c := by omega
    have k4 : n % 60 % 10 = dv d := by omega
    rcases hs with rfl | rfl
    · rw [if_neg (by decide)]
      refine zoneF_eq ⟨by omega, by omega⟩ ?_
      unfold zoneS zoneT two
      have : decide ((n : Int) < 0) = false := decide_eq_false (by omega)
      rw [this, show ((n : Int)).natAbs = n by omega, k1, k2, k3, k4, ← ea, ← eb, ← ec, ← ed]
      rfl
    · rw [if_pos rfl]
      have := h3 rfl
      refine zoneF_eq ⟨by omega, by omega⟩ ?_
      unfold zoneS zoneT two
      have : decide (-(n : Int) < 0) = true := decide_eq_true (by omega)
      rw [this, show (-(n : Int)).natAbs = n by omega, k1, k2, k3, k4, ← ea, ← eb, ← ec, ← ed]
      rfl

/-- An ident's text. -/
def printL (n e : List UInt8) (w z : Int) : List UInt8 := (if n = [] then [] else n ++ [32]) ++ (60 :: (e ++ (62 :: 32 :: (Lib.itoa w ++ (32 :: zoneS z)))))

theorem cut_two (a b : List UInt8) (c d : UInt8) (h : ∀ x ∈ a, x ≠ c) : Lib.cut (a ++ c :: d :: b) [c, d] = (a, b, true) := by
  have hi : Lib.index (a ++ c :: d :: b) [c, d] = (a.length : Int) := by
    refine Lib.index_first (by simp) ?_ ?_
    · simp [Lib.occAt, List.isPrefixOf]
    · intro j hj
      unfold Lib.occAt
      rw [List.drop_append_of_le_length (by omega), List.drop_eq_getElem_cons hj, List.cons_append]
      have := h _ (List.getElem_mem hj)
      simp [List.isPrefixOf]
      intro e
      exact absurd e.symm this
  unfold Lib.cut
  rw [if_pos (by omega), hi]
  simp

theorem itoa_noblank {v : Int} (h : 0 ≤ v) : ∀ x ∈ Lib.itoa v, 48 ≤ x.toNat ∧ x.toNat ≤ 57 := by
  have key : ∀ (k u : Nat), u < k → ∀ x ∈ Lib.decDigits u, 48 ≤ x.toNat ∧ x.toNat ≤ 57 := by
    intro k
    induction k with
    | zero => intro u hu; omega
    | succ k ih =>
      intro u hu x hx
      by_cases hs : u < 10
      · rw [decDigits_small hs] at hx
        simp at hx
        subst hx
        have := @two_nat u hs
        have e : (48 + UInt8.ofNat u) = UInt8.ofNat (48 + u) := by apply UInt8.toNat_inj.1; simp
        first
          | omega
          | (rw [e]; omega)
      · rw [decDigits_big hs, List.mem_append] at hx
        rcases hx with hx | hx
        · exact ih (u / 10) (by omega) x hx
        · simp only [List.mem_singleton] at hx
          subst hx
          have := @two_nat (u % 10) (by omega)
          omega
  unfold Lib.itoa
  rw [if_neg (by omega)]
  exact key _ _ (Nat.lt_succ_self _)

/-- What the program's parse cuts out of a text that was printed. -/
theorem cuts_print (n e : List UInt8) (w z : Int) (hn : ∀ x ∈ n, x ≠ 60) (he : ∀ x ∈ e, x ≠ 62) (hw : 0 ≤ w) :
    cutC 60 (printL n e w z) = some (if n = [] then [] else n ++ [32], e ++ (62 :: 32 :: (Lib.itoa w ++ (32 :: zoneS z)))) ∧
    Lib.cut (e ++ (62 :: 32 :: (Lib.itoa w ++ (32 :: zoneS z)))) [62, 32] = (e, Lib.itoa w ++ (32 :: zoneS z), true) ∧
    cutC 32 (Lib.itoa w ++ (32 :: zoneS z)) = some (Lib.itoa w, zoneS z) := by
  refine ⟨?_, cut_two _ _ _ _ he, cutC_app _ _ _ ?_⟩
  · unfold printL
    refine cutC_app _ _ _ ?_
    intro x hx
    split at hx
    · simp at hx
    · simp only [List.mem_append, List.mem_singleton] at hx
      rcases hx with hx | rfl
      · exact hn x hx
      · decide
  · intro x hx e
    subst e
    have := itoa_noblank hw _ hx
    revert this
    decide

end Go.Proofs.YtemojhcbhljemaaGreatDoor.Pure

/- Where the first of a byte stands, and the pieces of an ident's text by their places: plain laws. No program in sight. -/
namespace Go.Proofs.YtemojhcbhljemaaGreatDoor.Pure
set_option linter.unusedVariables false
set_option linter.unusedSimpArgs false

/-- The place of the first c among the first k bytes, or -1. -/
def FI (l : List UInt8) (c : UInt8) (k : Nat) (o : Int) : Prop :=
  (o = -1 ∧ ∀ j, j < k → l[j]? ≠ some c) ∨ (∃ n : Nat, o = (n : Int) ∧ n < k ∧ l[n]? = some c ∧ ∀ j, j < n → l[j]? ≠ some c)
theorem FI.start (l : List UInt8) (c : UInt8) : FI l c 0 (-1) := .inl ⟨rfl, fun j hj => by omega⟩
theorem FI.ge {l : List UInt8} {c : UInt8} {k : Nat} {o : Int} (h : FI l c k o) : -1 ≤ o ∧ o < (k : Int) ∨ o = -1 := by
  rcases h with ⟨h, -⟩ | ⟨n, h, h2, -⟩
  · exact .inr h
  · exact .inl ⟨by omega, by omega⟩
theorem FI.skip {l : List UInt8} {c : UInt8} {k : Nat} {o : Int} (h : FI l c k o) (hc : l[k]? ≠ some c) : FI l c (k + 1) o := by
  rcases h with ⟨h, h1⟩ | ⟨n, h, h2, h3, h4⟩
  · refine .inl ⟨h, fun j hj => ?_⟩
    by_cases e : j = k
    · rw [e]; exact hc
    · exact h1 j (by omega)
  · exact .inr ⟨n, h, by omega, h3, h4⟩
theorem FI.stay {l : List UInt8} {c : UInt8} {k : Nat} {o : Int} (h : FI l c k o) (ho : ¬ o < 0) : FI l c (k + 1) o := by
  rcases h with ⟨h, h1⟩ | ⟨n, h, h2, h3, h4⟩
  · omega
  · exact .inr ⟨n, h, by omega, h3, h4⟩
theorem FI.hit {l : List UInt8} {c : UInt8} {k : Nat} {o : Int} (h : FI l c k o) (ho : o < 0) (hc : l[k]? = some c) : FI l c (k + 1) (k : Int) := by
  rcases h with ⟨h, h1⟩ | ⟨n, h, h2, h3, h4⟩
  · exact .inr ⟨k, rfl, by omega, hc, h1⟩
  · omega
theorem FI.is {l : List UInt8} {c : UInt8} {k : Nat} {o : Int} (h : FI l c k o) {n : Nat} (hn : n < k) (hc : l[n]? = some c) (h0 : ∀ j, j < n → l[j]? ≠ some c) : o = (n : Int) := by
  rcases h with ⟨h, h1⟩ | ⟨m, h, h2, h3, h4⟩
  · exact absurd hc (h1 n hn)
  · have : ¬ m < n := fun hh => h0 m hh h3
    have : ¬ n < m := fun hh => h4 n hh hc
    omega
theorem FI.at {l : List UInt8} {c : UInt8} {k n : Nat} (h : FI l c k (n : Int)) : n < k ∧ l[n]? = some c := by
  rcases h with ⟨h, h1⟩ | ⟨m, h, h2, h3, h4⟩
  · omega
  · obtain rfl : n = m := by omega
    exact ⟨h2, h3⟩

/-- The pieces by their places. -/
theorem places (n e : List UInt8) (w z : Int) (hn : ∀ x ∈ n, x ≠ 60) (hn2 : ∀ x ∈ n, x ≠ 62) (he : ∀ x ∈ e, x ≠ 62) (hw : 0 ≤ w) :
    ∃ a b : Nat, (a = 0 ∧ n = [] ∨ 2 ≤ a ∧ n = (printL n e w z).take (a - 1) ∧ (printL n e w z)[a - 1]? = some 32) ∧
      a < b ∧ b < (printL n e w z).length ∧ (printL n e w z)[a]? = some 60 ∧ (∀ j, j < a → (printL n e w z)[j]? ≠ some 60) ∧ (printL n e w z)[b]? = some 62 ∧ (∀ j, j < b → (printL n e w z)[j]? ≠ some 62) ∧
      ((printL n e w z).drop (a + 1)).take (b - (a + 1)) = e ∧ (printL n e w z).drop (b + 1) = 32 :: (Lib.itoa w ++ (32 :: zoneS z)) := by
  obtain ⟨p, hp⟩ : ∃ p, (if n = [] then [] else n ++ [32]) = p := ⟨_, rfl⟩
  have hp1 : ∀ x ∈ p, x ≠ 60 ∧ x ≠ 62 := by
    intro x hx
    rw [← hp] at hx
    split at hx
    · simp at hx
    · simp only [List.mem_append, List.mem_singleton] at hx
      rcases hx with hx | rfl
      · exact ⟨hn x hx, hn2 x hx⟩
      · decide
  have hL : printL n e w z = p ++ (60 :: (e ++ (62 :: (32 :: (Lib.itoa w ++ (32 :: zoneS z)))))) := by rw [← hp]; rfl
  generalize hT : (32 :: (Lib.itoa w ++ (32 :: zoneS z))) = T at *
  rw [hL]
  refine ⟨p.length, p.length + 1 + e.length, ?_, by omega, by simp; omega, ?_, ?_, ?_, ?_, ?_, ?_⟩
  · by_cases h : n = []
    · rw [if_pos h] at hp
      exact .inl ⟨by rw [← hp]; rfl, h⟩
    · right
      rw [if_neg h] at hp
      have : 0 < n.length := List.length_pos_iff.2 h
      rw [← hp]
      refine ⟨by simp; omega, ?_, ?_⟩
      · simp
      · rw [List.length_append, List.length_singleton, Nat.add_sub_cancel, List.append_assoc, List.getElem?_append_right (Nat.le_refl _)]
        simp
  · rw [List.getElem?_append_right (Nat.le_refl _)]; simp
  · intro j hj e'
    rw [List.getElem?_append_left hj] at e'
    exact (hp1 _ (List.mem_of_getElem? e')).1 rfl
  · rw [List.getElem?_append_right (by omega), show p.length + 1 + e.length - p.length = e.length + 1 by omega, List.getElem?_cons_succ, List.getElem?_append_right (Nat.le_refl _)]
    simp
  · intro j hj e'
    by_cases h1 : j < p.length
    · rw [List.getElem?_append_left h1] at e'
      exact (hp1 _ (List.mem_of_getElem? e')).2 rfl
    · rw [List.getElem?_append_right (by omega)] at e'
      obtain ⟨m, hm⟩ : ∃ m, j - p.length = m := ⟨_, rfl⟩
      rw [hm] at e'
      cases m with
      | zero => simp at e'
      | succ m =>
        rw [List.getElem?_cons_succ, List.getElem?_append_left (by omega)] at e'
        exact he _ (List.mem_of_getElem? e') rfl
  · rw [List.drop_append, List.drop_of_length_le (by omega), show p.length + 1 - p.length = 1 by omega, show p.length + 1 + e.length - (p.length + 1) = e.length by omega]
    simp
  · rw [List.drop_append, List.drop_of_length_le (by omega), show p.length + 1 + e.length + 1 - p.length = e.length + 2 by omega]
    simp

/-- The rest, by its places. -/
theorem rest_places (w z : Int) (R : List UInt8) (hR : R = 32 :: (Lib.itoa w ++ (32 :: zoneS z))) (hw : 0 ≤ w) :
    8 ≤ R.length ∧ R[0]? = some 32 ∧ R[R.length - 6]? = some 32 ∧ (R.drop 1).take (R.length - 6 - 1) = Lib.itoa w ∧ R.drop (R.length - 5) = zoneS z := by
  have hz := zoneS_len z
  have hi : 1 ≤ (Lib.itoa w).length := by
    unfold Lib.itoa
    rw [if_neg (by omega)]
    exact List.length_pos_iff.2 (digits_ne _)
  have hl : R.length = (Lib.itoa w).length + 7 := by rw [hR]; simp [hz]
  rw [hl]
  refine ⟨by omega, by rw [hR]; rfl, ?_, ?_, ?_⟩
  · rw [hR, show (Lib.itoa w).length + 7 - 6 = (Lib.itoa w).length + 1 by omega, List.getElem?_cons_succ, List.getElem?_append_right (Nat.le_refl _)]
    simp
  · rw [hR, show (Lib.itoa w).length + 7 - 6 - 1 = (Lib.itoa w).length by omega]
    simp
  · rw [hR, show (Lib.itoa w).length + 7 - 5 = (Lib.itoa w).length + 1 + 1 by omega]
    simp

end Go.Proofs.YtemojhcbhljemaaGreatDoor.Pure

/- Texts made clean: plain laws on runes, blanks and lengths. No program in sight. -/
namespace Go.Proofs.YtemojhcbhljemaaGreatDoor.Pure
set_option linter.unusedVariables false
set_option linter.unusedSimpArgs false
open Go.Lib

/-- A byte, or a rune, that may not stand in a name. -/
def barI (c : UInt8) : Bool := c.toNat == 0 || c.toNat == 10 || c.toNat == 60 || c.toNat == 62
def barR (x : Nat) : Bool := x == 0 || x == 10 || x == 60 || x == 62
/-- A rune's bytes, whatever stands behind. -/
def UOk (u : List UInt8) : Prop := u ≠ [] ∧ (∀ m, decodeL (u ++ m) = decodeL u) ∧ (decodeL u).2 = u.length ∧ ¬ ((decodeL u).1 = 65533 ∧ (decodeL u).2 = 1)

theorem decodeL_shape (l : List UInt8) (hne : l ≠ []) : ((l.getD 0 0).toNat < 128 ∧ decodeL l = ((l.getD 0 0).toNat, 1)) ∨ (2 ≤ (decodeL l).2 ∧ 128 ≤ (decodeL l).1 ∧ 128 ≤ (l.getD 0 0).toNat ∧ (∀ j, j < (decodeL l).2 → 128 ≤ (l.getD j 0).toNat) ∧ ((decodeL l).1 = 65533 → (decodeL l).2 = 3) ∧ ∀ m, decodeL (l.take (decodeL l).2 ++ m) = decodeL l) ∨ (128 ≤ (l.getD 0 0).toNat ∧ decodeL l = (65533, 1)) := by
  have hl : 0 < l.length := List.length_pos_iff.2 hne
  have k0 := (l.getD 0 0).toNat_lt
  have k1 := (l.getD 1 0).toNat_lt
  have k2 := (l.getD 2 0).toNat_lt
  have k3 := (l.getD 3 0).toNat_lt
  have key : ∀ (k : Nat) (m : List UInt8) (j : Nat), j < k → k ≤ l.length → (l.take k ++ m).getD j 0 = l.getD j 0 := by
    intro k m j hj hk
    rw [List.getD_eq_getElem?_getD, List.getD_eq_getElem?_getD, List.getElem?_append_left (by rw [List.length_take]; omega), List.getElem?_take, if_pos hj]
  have hN := decodeL_N l
  rcases decodeN_shape l.length (l.getD 0 0).toNat (l.getD 1 0).toNat (l.getD 2 0).toNat (l.getD 3 0).toNat with ⟨c, e⟩ | ⟨c1, c2, c3, cv, e⟩ | ⟨c1, c2, c3, c4, cv, cs, e⟩ | ⟨c1, c2, c3, c4, c5, cv, cw, e⟩ | e
  · exact .inl ⟨c, by rw [hN, e]⟩
  · refine .inr (.inl ?_)
    have h2 : decodeL l = ((l.getD 0 0).toNat % 32 * 64 + (l.getD 1 0).toNat % 64, 2) := by rw [hN, e]
    rw [h2]
    refine ⟨Nat.le_refl _, cv, by omega, ?_, by omega, ?_⟩
    · intro j hj
      have : j = 0 ∨ j = 1 := by simp only at hj; omega
      rcases this with rfl | rfl <;> omega
    · intro m
      simp only
      rw [decodeL_N, key 2 m 0 (by omega) (by omega), key 2 m 1 (by omega) (by omega)]
      have hm : 1 < (l.take 2 ++ m).length := by rw [List.length_append, List.length_take]; omega
      unfold decodeN
      rw [if_neg (by omega), if_pos ⟨c1, hm, c3⟩, if_pos cv]
  · refine .inr (.inl ?_)
    have h2 : decodeL l = ((l.getD 0 0).toNat % 16 * 4096 + (l.getD 1 0).toNat % 64 * 64 + (l.getD 2 0).toNat % 64, 3) := by rw [hN, e]
    rw [h2]
    refine ⟨by simp only; omega, by simp only; omega, by omega, ?_, fun _ => rfl, ?_⟩
    · intro j hj
      have : j = 0 ∨ j = 1 ∨ j = 2 := by simp only at hj; omega
      rcases this with rfl | rfl | rfl <;> omega
    · intro m
      simp only
      rw [decodeL_N, key 3 m 0 (by omega) (by omega), key 3 m 1 (by omega) (by omega), key 3 m 2 (by omega) (by omega)]
      have hm : 2 < (l.take 3 ++ m).length := by rw [List.length_append, List.length_take]; omega
      unfold decodeN
      rw [if_neg (by omega), if_neg (by omega), if_pos ⟨c1, ⟨by omega, c3⟩, hm, c4⟩, if_pos ⟨cv, by omega⟩]
  · refine .inr (.inl ?_)
    have h2 : decodeL l = ((l.getD 0 0).toNat % 8 * 262144 + (l.getD 1 0).toNat % 64 * 4096 + (l.getD 2 0).toNat % 64 * 64 + (l.getD 3 0).toNat % 64, 4) := by rw [hN, e]
    rw [h2]
    refine ⟨by simp only; omega, by simp only; omega, by omega, ?_, fun h => by simp only at h; omega, ?_⟩
    · intro j hj
      have : j = 0 ∨ j = 1 ∨ j = 2 ∨ j = 3 := by simp only at hj; omega
      rcases this with rfl | rfl | rfl | rfl <;> omega
    · intro m
      simp only
      rw [decodeL_N, key 4 m 0 (by omega) (by omega), key 4 m 1 (by omega) (by omega), key 4 m 2 (by omega) (by omega), key 4 m 3 (by omega) (by omega)]
      have hm : 3 < (l.take 4 ++ m).length := by rw [List.length_append, List.length_take]; omega
      unfold decodeN
      rw [if_neg (by omega), if_neg (by omega), if_neg (by omega), if_pos ⟨c1, ⟨by omega, c3⟩, ⟨by omega, c4⟩, hm, c5⟩, if_pos ⟨cv, by omega⟩]
  · by_cases h : (l.getD 0 0).toNat < 128
    · exact .inl ⟨h, by rw [hN]; unfold decodeN; rw [if_pos h]⟩
    · exact .inr (.inr ⟨by omega, by rw [hN, e]⟩)

/-- What a rune that can be read leaves. -/
theorem unit_take (l : List UInt8) (hne : l ≠ []) (hv : ¬ ((decodeL l).1 = 65533 ∧ (decodeL l).2 = 1)) : UOk (l.take (decodeL l).2) ∧ decodeL (l.take (decodeL l).2) = decodeL l := by
  have hle := decodeL_le l hne
  have hw := decodeL_width l
  have hlen : (l.take (decodeL l).2).length = (decodeL l).2 := by rw [List.length_take]; omega
  have key : ∀ m, decodeL (l.take (decodeL l).2 ++ m) = decodeL l := by
    rcases decodeL_shape l hne with ⟨h, e⟩ | ⟨-, -, -, -, -, h⟩ | ⟨-, e⟩
    · intro m
      cases l with
      | nil => exact absurd rfl hne
      | cons c t =>
        rw [e]
        simp only [List.take_succ_cons, List.take_zero, List.cons_append, List.nil_append]
        rw [decodeL_ascii c _ h]
        rfl
    · exact h
    · exact absurd (by rw [e]; exact ⟨rfl, rfl⟩) hv
  have k0 := key []
  rw [List.append_nil] at k0
  refine ⟨⟨?_, ?_, ?_, ?_⟩, k0⟩
  · intro e; rw [e] at hlen; simp at hlen; omega
  · intro m; rw [key m, k0]
  · rw [k0, hlen]
  · rw [k0]; exact hv

/-- A rune's bytes: one below 128, or all from 128 on. -/
theorem UOk.bytes {u : List UInt8} (h : UOk u) : (∃ c : UInt8, u = [c] ∧ c.toNat < 128 ∧ decodeL u = (c.toNat, 1)) ∨ ((∀ c ∈ u, 128 ≤ c.toNat) ∧ 128 ≤ (decodeL u).1 ∧ 2 ≤ u.length) := by
  obtain ⟨hne, hm, hl, hv⟩ := h
  rcases decodeL_shape u hne with ⟨h, e⟩ | ⟨h2, h1, h0, hj, -, -⟩ | ⟨-, e⟩
  · rw [e] at hl
    simp only at hl
    obtain ⟨c, rfl⟩ := List.length_eq_one_iff.1 hl.symm
    exact .inl ⟨c, rfl, h, e⟩
  · refine .inr ⟨?_, h1, by omega⟩
    intro c hc
    obtain ⟨j, hj', hcj⟩ := List.mem_iff_getElem.1 hc
    have := hj j (by omega)
    rw [List.getD_eq_getElem?_getD, List.getElem?_eq_getElem hj', hcj] at this
    exact this
  · exact absurd (by rw [e]; exact ⟨rfl, rfl⟩) hv

theorem UOk.len {u : List UInt8} (h : UOk u) : 1 ≤ u.length := List.length_pos_iff.2 h.1
theorem UOk.rune {u : List UInt8} (h : UOk u) : runeLen ((decodeL u).1 : Int) = (u.length : Int) := by
  by_cases h3 : (decodeL u).1 = 65533
  · have hl := h.2.2.1
    rcases decodeL_shape u h.1 with ⟨h', e⟩ | ⟨-, -, -, -, hj, -⟩ | ⟨-, e⟩
    · rw [e] at h3
      simp only at h3
      omega
    · rw [← hl, hj h3, h3]; rfl
    · exact absurd (by rw [e]; exact ⟨rfl, rfl⟩) h.2.2.2
  · rw [runeLen_decode u h3, h.2.2.1]
theorem UOk.decode {u : List UInt8} (h : UOk u) (m : List UInt8) : decodeL (u ++ m) = ((decodeL u).1, u.length) := by rw [h.2.1 m, ← h.2.2.1]

/-- Is what stands at the beginning kept? -/
def keepU (l : List UInt8) : Bool := !(barR (decodeL l).1) && !(decide ((decodeL l).1 = 65533 ∧ (decodeL l).2 = 1))
def filtN : Nat → List UInt8 → List UInt8
  | 0, _ => []
  | n + 1, l => if l = [] then [] else (if keepU l then l.take (decodeL l).2 else []) ++ filtN n (l.drop (decodeL l).2)
theorem filtN_fuel : ∀ (n m : Nat) (l : List UInt8), l.length ≤ n → l.length ≤ m → filtN n l = filtN m l
  | 0, m, l, hn, _ => by
    have : l = [] := List.eq_nil_of_length_eq_zero (by omega)
    subst this
    cases m <;> simp [filtN]
  | n + 1, 0, l, _, hm => by
    have : l = [] := List.eq_nil_of_length_eq_zero (by omega)
    subst this
    simp [filtN]
  | n + 1, m + 1, l, hn, hm => by
    unfold filtN
    by_cases hne : l = []
    · simp [hne]
    · have hw := decodeL_width l
      have hl : 0 < l.length := List.length_pos_iff.2 hne
      rw [if_neg hne, if_neg hne, filtN_fuel n m (l.drop (decodeL l).2) (by rw [List.length_drop]; omega) (by rw [List.length_drop]; omega)]
/-- A text without what may not be in it. -/
def filt (l : List UInt8) : List UInt8 := filtN l.length l
theorem filt_nil : filt [] = [] := rfl
theorem filt_step (l : List UInt8) (hne : l ≠ []) : filt l = (if keepU l then l.take (decodeL l).2 else []) ++ filt (l.drop (decodeL l).2) := by
  have hl : 0 < l.length := List.length_pos_iff.2 hne
  have hw := decodeL_width l
  obtain ⟨n, hn⟩ : ∃ n, l.length = n + 1 := ⟨l.length - 1, by omega⟩
  unfold filt
  rw [hn]
  show (if l = [] then [] else _) = _
  rw [if_neg hne, filtN_fuel n (l.drop (decodeL l).2).length _ (by rw [List.length_drop]; omega) (Nat.le_refl _)]

/-- A rune's bytes that may be in a name. -/
def GU (u : List UInt8) : Prop := UOk u ∧ barR (decodeL u).1 = false
theorem filt_units : ∀ (n : Nat) (l : List UInt8), l.length ≤ n → ∃ us : List (List UInt8), (∀ u ∈ us, GU u) ∧ filt l = us.flatten
  | 0, l, h => by
    have : l = [] := List.eq_nil_of_length_eq_zero (by omega)
    subst this
    exact ⟨[], by simp, rfl⟩
  | n + 1, l, h => by
    by_cases hne : l = []
    · subst hne; exact ⟨[], by simp, rfl⟩
    · have hw := decodeL_width l
      have hl : 0 < l.length := List.length_pos_iff.2 hne
      obtain ⟨us, h1, h2⟩ := filt_units n (l.drop (decodeL l).2) (by rw [List.length_drop]; omega)
      rw [filt_step l hne, h2]
      by_cases hk : keepU l = true
      · rw [if_pos hk]
        unfold keepU at hk
        simp only [Bool.and_eq_true, Bool.not_eq_true', decide_eq_false_iff_not] at hk
        obtain ⟨h3, h4⟩ := unit_take l hne hk.2
        refine ⟨l.take (decodeL l).2 :: us, ?_, rfl⟩
        intro u hu
        rcases List.mem_cons.1 hu with rfl | hu
        · exact ⟨h3, by rw [h4]; exact hk.1⟩
        · exact h1 u hu
      · rw [if_neg hk]; exact ⟨us, h1, rfl⟩
theorem filt_flat : ∀ (us : List (List UInt8)), (∀ u ∈ us, GU u) → filt us.flatten = us.flatten
  | [], _ => rfl
  | u :: us, h => by
    obtain ⟨hu, hb⟩ := h u (by simp)
    have ih := filt_flat us (fun v hv => h v (by simp [hv]))
    have hd := hu.decode us.flatten
    rw [List.flatten_cons, filt_step _ (by simp [hu.1]), hd]
    have hk : keepU (u ++ us.flatten) = true := by
      unfold keepU
      rw [hd, hb]
      have := hu.2.2.2
      rw [hu.2.2.1] at this
      simp only [Bool.not_false, Bool.true_and, Bool.not_eq_true', decide_eq_false_iff_not]
      exact this
    rw [if_pos hk]
    simp only
    rw [List.take_left, List.drop_left, ih]
theorem valid_flat : ∀ (us : List (List UInt8)), (∀ u ∈ us, UOk u) → validD us.flatten = true
  | [], _ => rfl
  | u :: us, h => by
    have hu := h u (by simp)
    have hd := hu.decode us.flatten
    rw [List.flatten_cons, validD_step _ (by simp [hu.1]), hd]
    have := hu.2.2.2
    rw [hu.2.2.1] at this
    rw [if_neg this]
    simp only
    rw [List.drop_left]
    exact valid_flat us (fun v hv => h v (by simp [hv]))
theorem valid_units : ∀ (n : Nat) (l : List UInt8), l.length ≤ n → validD l = true → ∃ us : List (List UInt8), (∀ u ∈ us, UOk u) ∧ l = us.flatten
  | 0, l, h, _ => by
    have : l = [] := List.eq_nil_of_length_eq_zero (by omega)
    subst this
    exact ⟨[], by simp, rfl⟩
  | n + 1, l, h, hv => by
    by_cases hne : l = []
    · subst hne; exact ⟨[], by simp, rfl⟩
    · have hw := decodeL_width l
      have hl : 0 < l.length := List.length_pos_iff.2 hne
      rw [validD_step l hne] at hv
      by_cases hb : (decodeL l).1 = 65533 ∧ (decodeL l).2 = 1
      · rw [if_pos hb] at hv; cases hv
      · rw [if_neg hb] at hv
        obtain ⟨us, h1, h2⟩ := valid_units n (l.drop (decodeL l).2) (by rw [List.length_drop]; omega) hv
        refine ⟨l.take (decodeL l).2 :: us, ?_, ?_⟩
        · intro u hu
          rcases List.mem_cons.1 hu with rfl | hu
          · exact (unit_take l hne hb).1
          · exact h1 u hu
        · rw [List.flatten_cons, ← h2, List.take_append_drop]
theorem GU.clean {u : List UInt8} (h : GU u) : u.any barI = false := by
  rcases h.1.bytes with ⟨c, rfl, hc, hd⟩ | ⟨hc, -, -⟩
  · have := h.2
    rw [hd] at this
    simpa [barI, barR] using this
  · rw [List.any_eq_false]
    intro c hm
    have := hc c hm
    unfold barI
    simp
    omega
theorem UOk.good {u : List UInt8} (h : UOk u) (hc : u.any barI = false) : GU u := by
  refine ⟨h, ?_⟩
  rcases h.bytes with ⟨c, rfl, hc', hd⟩ | ⟨-, hd, -⟩
  · rw [hd]
    simpa [barI, barR] using hc
  · unfold barR
    simp
    omega
theorem any_flat : ∀ (us : List (List UInt8)), (∀ u ∈ us, GU u) → us.flatten.any barI = false
  | [], _ => rfl
  | u :: us, h => by rw [List.flatten_cons, List.any_append, (h u (by simp)).clean, any_flat us (fun v hv => h v (by simp [hv]))]; rfl
theorem good_units {us : List (List UInt8)} (h : ∀ u ∈ us, UOk u) (hc : us.flatten.any barI = false) : ∀ u ∈ us, GU u := by
  intro u hu
  refine (h u hu).good ?_
  rw [List.any_eq_false] at hc ⊢
  intro c hm
  exact hc c (List.mem_flatten.2 ⟨u, hu, hm⟩)
/-- A text that may be a name has nothing to be taken out. -/
theorem filt_same {l : List UInt8} (hv : validD l = true) (hc : l.any barI = false) : filt l = l := by
  obtain ⟨us, h1, h2⟩ := valid_units l.length l (Nat.le_refl _) hv
  rw [h2] at hc ⊢
  exact filt_flat us (good_units h1 hc)

/-! ### blanks at the ends -/
def trimL (l : List UInt8) : List UInt8 := l.dropWhile (· == 32)
def trimR (l : List UInt8) : List UInt8 := (l.reverse.dropWhile (· == 32)).reverse
theorem trimR_append (a b : List UInt8) : trimR (a ++ b) = if trimR b = [] then trimR a else a ++ trimR b := by
  unfold trimR
  rw [List.reverse_append, List.dropWhile_append]
  cases h : List.dropWhile (· == 32) b.reverse with
  | nil => simp
  | cons x y => simp
theorem trimR_blanks (k : Nat) : trimR (List.replicate k 32) = [] := by
  unfold trimR
  rw [List.reverse_replicate]
  induction k with
  | zero => rfl
  | succ k ih => rw [List.replicate_succ, List.dropWhile_cons_of_pos (by rfl)]; exact ih
theorem UOk.last {u : List UInt8} (h : UOk u) : u = [32] ∨ trimR u = u := by
  rcases h.bytes with ⟨c, rfl, hc, hd⟩ | ⟨hc, -, -⟩
  · by_cases e : c = 32
    · exact .inl (by rw [e])
    · right
      unfold trimR
      rw [List.reverse_singleton, List.dropWhile_cons_of_neg (by simpa using e)]
      rfl
  · right
    unfold trimR
    cases hr : u.reverse with
    | nil => have := h.1; simp_all
    | cons c r =>
      have hm : c ∈ u := by rw [← List.mem_reverse, hr]; simp
      rw [List.dropWhile_cons_of_neg, ← hr, List.reverse_reverse]
      have := hc c hm
      simp
      intro e
      subst e
      revert this
      decide
theorem UOk.head {u : List UInt8} (h : UOk u) : u = [32] ∨ ∃ c r, u = c :: r ∧ c ≠ 32 := by
  rcases h.bytes with ⟨c, rfl, hc, hd⟩ | ⟨hc, -, -⟩
  · by_cases e : c = 32
    · exact .inl (by rw [e])
    · exact .inr ⟨c, [], rfl, e⟩
  · right
    cases hu : u with
    | nil => exact absurd hu h.1
    | cons c r =>
      refine ⟨c, r, rfl, ?_⟩
      have := hc c (by rw [hu]; simp)
      intro e
      subst e
      revert this
      decide
/-- To trim a text is to leave out runes. -/
theorem trimL_units : ∀ (us : List (List UInt8)), (∀ u ∈ us, UOk u) → ∃ vs : List (List UInt8), (∀ u ∈ vs, u ∈ us) ∧ trimL us.flatten = vs.flatten ∧ ∀ c r, vs.flatten = c :: r → c ≠ 32
  | [], _ => ⟨[], by simp, rfl, by simp⟩
  | u :: us, h => by
    rcases (h u (by simp)).head with rfl | ⟨c, r, rfl, hc⟩
    · obtain ⟨vs, h1, h2, h3⟩ := trimL_units us (fun v hv => h v (by simp [hv]))
      refine ⟨vs, fun u hu => by simp [h1 u hu], ?_, h3⟩
      rw [← h2]
      rfl
    · refine ⟨(c :: r) :: us, fun u hu => hu, ?_, ?_⟩
      · unfold trimL
        rw [List.flatten_cons, List.cons_append, List.dropWhile_cons_of_neg (by simpa using hc)]
      · intro c' r' e
        simp only [List.flatten_cons, List.cons_append, List.cons.injEq] at e
        rw [← e.1]; exact hc
theorem trimR_units (us : List (List UInt8)) (h : ∀ u ∈ us, UOk u) : ∃ (vs : List (List UInt8)) (k : Nat), us = vs ++ List.replicate k [32] ∧ trimR us.flatten = vs.flatten := by
  obtain ⟨n, hn⟩ : ∃ n, us.length = n := ⟨_, rfl⟩
  induction n generalizing us with
  | zero =>
    have : us = [] := List.eq_nil_of_length_eq_zero hn
    subst this
    exact ⟨[], 0, rfl, rfl⟩
  | succ n ih =>
    obtain ⟨ws, u, rfl⟩ : ∃ ws u, us = ws ++ [u] := ⟨us.dropLast, us.getLast (by intro e; rw [e] at hn; simp at hn), (List.dropLast_concat_getLast _).symm⟩
    have hu := h u (by simp)
    rcases hu.last with rfl | hl
    · obtain ⟨vs, k, h1, h2⟩ := ih ws (fun v hv => h v (by simp [hv])) (by simpa using hn)
      refine ⟨vs, k + 1, ?_, ?_⟩
      · rw [h1, List.replicate_succ', List.append_assoc]
      · rw [List.flatten_append, trimR_append, if_pos (by rfl), h2]
    · refine ⟨ws ++ [u], 0, by simp, ?_⟩
      rw [List.flatten_append, trimR_append]
      simp only [List.flatten_cons, List.flatten_nil, List.append_nil, hl]
      rw [if_neg hu.1]

/-! ### no longer than may be -/
def prefN : Nat → Nat → List UInt8 → List UInt8
  | 0, _, _ => []
  | n + 1, k, l => if l = [] then [] else if (decodeL l).2 ≤ k then l.take (decodeL l).2 ++ prefN n (k - (decodeL l).2) (l.drop (decodeL l).2) else []
def pref (k : Nat) (l : List UInt8) : List UInt8 := prefN l.length k l
def takeU : Nat → List (List UInt8) → List (List UInt8)
  | _, [] => []
  | k, u :: us => if u.length ≤ k then u :: takeU (k - u.length) us else []
theorem prefN_flat : ∀ (n k : Nat) (us : List (List UInt8)), (∀ u ∈ us, UOk u) → us.flatten.length ≤ n → prefN n k us.flatten = (takeU k us).flatten
  | 0, k, us, h, hn => by
    cases us with
    | nil => rfl
    | cons u us =>
      exfalso
      have := (h u (by simp)).len
      simp at hn
      have := (h u (by simp)).1
      exact this hn.1
  | n + 1, k, [], h, hn => by simp [prefN, takeU]
  | n + 1, k, u :: us, h, hn => by
    have hu := h u (by simp)
    have hd := hu.decode us.flatten
    have hl := hu.len
    unfold prefN takeU
    rw [List.flatten_cons, if_neg (by simp [hu.1]), hd]
    simp only
    by_cases hk : u.length ≤ k
    · rw [if_pos hk, if_pos hk, List.take_left, List.drop_left, prefN_flat n (k - u.length) us (fun v hv => h v (by simp [hv])) (by rw [List.flatten_cons, List.length_append] at hn; omega)]
      rfl
    · rw [if_neg hk, if_neg hk]; rfl
theorem pref_flat (k : Nat) (us : List (List UInt8)) (h : ∀ u ∈ us, UOk u) : pref k us.flatten = (takeU k us).flatten := prefN_flat _ _ _ h (Nat.le_refl _)
theorem takeU_mem : ∀ (k : Nat) (us : List (List UInt8)) (u : List UInt8), u ∈ takeU k us → u ∈ us
  | _, [], _, h => by simp [takeU] at h
  | k, v :: us, u, h => by
    unfold takeU at h
    split at h
    · rcases List.mem_cons.1 h with rfl | h
      · simp
      · simp [takeU_mem _ us u h]
    · simp at h
theorem takeU_len : ∀ (k : Nat) (us : List (List UInt8)), (takeU k us).flatten.length ≤ k
  | _, [] => by simp [takeU]
  | k, v :: us => by
    unfold takeU
    split
    · have := takeU_len (k - v.length) us
      rw [List.flatten_cons, List.length_append]
      omega
    · simp
theorem takeU_all : ∀ (k : Nat) (us : List (List UInt8)), us.flatten.length ≤ k → takeU k us = us
  | _, [], _ => rfl
  | k, v :: us, h => by
    rw [List.flatten_cons, List.length_append] at h
    unfold takeU
    rw [if_pos (by omega), takeU_all _ us (by omega)]
theorem takeU_blanks : ∀ (k j : Nat), ∃ i, takeU k (List.replicate j [32]) = List.replicate i [32]
  | k, 0 => ⟨0, rfl⟩
  | k, j + 1 => by
    rw [List.replicate_succ]
    unfold takeU
    split
    · obtain ⟨i, hi⟩ := takeU_blanks (k - 1) j
      exact ⟨i + 1, by rw [List.length_singleton, hi, List.replicate_succ]⟩
    · exact ⟨0, rfl⟩
theorem flat_blanks (i : Nat) : (List.replicate i [(32 : UInt8)]).flatten = List.replicate i 32 := by
  induction i with
  | zero => rfl
  | succ i ih => rw [List.replicate_succ, List.flatten_cons, ih, List.replicate_succ]; rfl
/-- Blanks at the end are left out, before the rest is cut or behind that. -/
theorem takeU_trim : ∀ (k : Nat) (ws : List (List UInt8)) (j : Nat), trimR (takeU k (ws ++ List.replicate j [32])).flatten = trimR (takeU k ws).flatten
  | k, [], j => by
    obtain ⟨i, hi⟩ := takeU_blanks k j
    rw [List.nil_append, hi, flat_blanks, trimR_blanks]
    rfl
  | k, w :: ws, j => by
    rw [List.cons_append]
    unfold takeU
    split
    · rw [List.flatten_cons, List.flatten_cons, trimR_append, trimR_append, takeU_trim _ ws j]
    · rfl

/-- A text made clean. -/
def clean (l : List UInt8) : List UInt8 := trimR (pref 200 (trimL (filt l)))
/-- The program cuts blanks off at both ends first. -/
theorem clean_both (l : List UInt8) : ∃ us : List (List UInt8), (∀ u ∈ us, UOk u) ∧ trimR (trimL (filt l)) = us.flatten ∧ clean l = trimR (takeU 200 us).flatten := by
  obtain ⟨us, h1, h2⟩ := filt_units l.length l (Nat.le_refl _)
  obtain ⟨vs, h3, h4, -⟩ := trimL_units us (fun u hu => (h1 u hu).1)
  have h5 : ∀ u ∈ vs, UOk u := fun u hu => (h1 u (h3 u hu)).1
  obtain ⟨ws, k, h6, h7⟩ := trimR_units vs h5
  refine ⟨ws, fun u hu => h5 u (by rw [h6]; simp [hu]), ?_, ?_⟩
  · rw [h2, h4, h7]
  · unfold clean
    rw [h2, h4, pref_flat 200 vs h5, h6, takeU_trim]
theorem trimR_same {l : List UInt8} (h : ∀ a, l ≠ a ++ [32]) : trimR l = l := by
  unfold trimR
  cases hr : l.reverse with
  | nil => have : l = [] := by simpa using hr
           rw [this]; rfl
  | cons c r =>
    rw [List.dropWhile_cons_of_neg, ← hr, List.reverse_reverse]
    simp
    intro e
    subst e
    exact h r.reverse (by rw [← List.reverse_reverse l, hr, List.reverse_cons])
theorem trimL_same {l : List UInt8} (h : ∀ a, l ≠ 32 :: a) : trimL l = l := by
  unfold trimL
  cases l with
  | nil => rfl
  | cons c r => rw [List.dropWhile_cons_of_neg]; simp; intro e; subst e; exact h r rfl
/-- What may be a name stays. -/
theorem clean_same {l : List UInt8} (hv : validD l = true) (hc : l.any barI = false) (hl : l.length ≤ 200) (h0 : ∀ a, l ≠ 32 :: a) (h1 : ∀ a, l ≠ a ++ [32]) : clean l = l := by
  obtain ⟨us, h2, h3⟩ := valid_units l.length l (Nat.le_refl _) hv
  unfold clean
  rw [filt_same hv hc, trimL_same h0]
  have : pref 200 l = l := by rw [h3, pref_flat 200 us h2, takeU_all 200 us (by rw [← h3]; exact hl)]
  rw [this, trimR_same h1]
theorem trimR_end (l a : List UInt8) : trimR l ≠ a ++ [32] := by
  intro e
  unfold trimR at e
  have e2 : List.dropWhile (· == 32) l.reverse = 32 :: a.reverse := by rw [← List.reverse_reverse (List.dropWhile _ _), e]; simp
  have := List.head?_dropWhile_not (fun x : UInt8 => x == 32) l.reverse
  rw [e2] at this
  simp at this
/-- What is made clean may be a name. -/
theorem clean_called (l : List UInt8) : validD (clean l) = true ∧ (clean l).any barI = false ∧ (clean l).length ≤ 200 ∧ (∀ a, clean l ≠ 32 :: a) ∧ ∀ a, clean l ≠ a ++ [32] := by
  obtain ⟨us, h1, h2⟩ := filt_units l.length l (Nat.le_refl _)
  obtain ⟨vs, h3, h4, h4'⟩ := trimL_units us (fun u hu => (h1 u hu).1)
  have h5 : ∀ u ∈ vs, GU u := fun u hu => h1 u (h3 u hu)
  have h6 : ∀ u ∈ takeU 200 vs, GU u := fun u hu => h5 u (takeU_mem _ _ _ hu)
  obtain ⟨ws, k, h7, h8⟩ := trimR_units (takeU 200 vs) (fun u hu => (h6 u hu).1)
  have h9 : ∀ u ∈ ws, GU u := fun u hu => h6 u (by rw [h7]; simp [hu])
  have hcl : clean l = ws.flatten := by
    unfold clean
    rw [h2, h4, pref_flat 200 vs (fun u hu => (h5 u hu).1), h8]
  rw [hcl]
  refine ⟨valid_flat _ (fun u hu => (h9 u hu).1), any_flat _ h9, ?_, ?_, ?_⟩
  · have := takeU_len 200 vs
    rw [h7, List.flatten_append, List.length_append] at this
    omega
  · intro a e
    -- the first rune of ws is the first one of vs
    cases ws with
    | nil => cases e
    | cons w ws =>
      have hw : ∃ vs', vs = w :: vs' := by
        cases vs with
        | nil => simp [takeU] at h7
        | cons v vs =>
          unfold takeU at h7
          split at h7
          · rw [List.cons_append, List.cons.injEq] at h7
            exact ⟨vs, by rw [h7.1]⟩
          · simp at h7
      obtain ⟨vs', rfl⟩ := hw
      have hwne := (h9 w (by simp)).1.1
      cases w with
      | nil => exact hwne rfl
      | cons c r =>
        rw [List.flatten_cons, List.cons_append, List.cons.injEq] at e
        exact h4' c _ (by rw [List.flatten_cons, List.cons_append]) e.1
  · intro a
    rw [← h8]
    exact trimR_end _ a

end Go.Proofs.YtemojhcbhljemaaGreatDoor.Pure

/- Texts made clean, step by step: plain laws for the loops. No program in sight. -/
namespace Go.Proofs.YtemojhcbhljemaaGreatDoor.Pure
set_option linter.unusedVariables false
set_option linter.unusedSimpArgs false
open Go.Lib

theorem trimR_cons (c : UInt8) (r : List UInt8) : trimR (c :: r) = if trimR r = [] then trimR [c] else c :: trimR r := trimR_append [c] r
theorem trim_comm : ∀ l : List UInt8, trimL (trimR l) = trimR (trimL l)
  | [] => rfl
  | c :: r => by
    have ih := trim_comm r
    by_cases h : c = 32
    · subst h
      have e1 : trimL (32 :: r) = trimL r := by unfold trimL; rw [List.dropWhile_cons_of_pos (by rfl)]
      rw [e1, ← ih, trimR_cons]
      split
      · rename_i h0; rw [h0]; rfl
      · unfold trimL; rw [List.dropWhile_cons_of_pos (by rfl)]
    · have e1 : ∀ r', trimL (c :: r') = c :: r' := fun r' => by unfold trimL; rw [List.dropWhile_cons_of_neg (by simpa using h)]
      have e2 : trimR [c] = [c] := by unfold trimR; rw [List.reverse_singleton, List.dropWhile_cons_of_neg (by simpa using h)]; rfl
      rw [e1, trimR_cons]
      split
      · rw [e2, e1]
      · rw [e1]
theorem trimB_eq (l : List UInt8) : Lib.trimB l 32 = trimR (trimL l) := by rw [← trim_comm]; rfl
theorem trimRightB_eq (l : List UInt8) : Lib.trimRightB l 32 = trimR l := rfl
theorem trimR_le (l : List UInt8) : (trimR l).length ≤ l.length := by
  unfold trimR
  rw [List.length_reverse, ← @List.length_reverse _ l]
  exact List.Sublist.length_le (List.dropWhile_sublist _)
theorem trimL_le (l : List UInt8) : (trimL l).length ≤ l.length := List.Sublist.length_le (List.dropWhile_sublist _)

theorem takeU_prefix : ∀ (k : Nat) (us : List (List UInt8)), ∃ ws, us = takeU k us ++ ws
  | k, [] => ⟨[], rfl⟩
  | k, u :: us => by
    unfold takeU
    split
    · obtain ⟨ws, h⟩ := takeU_prefix (k - u.length) us
      exact ⟨ws, by rw [List.cons_append, ← h]⟩
    · exact ⟨u :: us, rfl⟩
/-- How far the loop over the runes has come. -/
def Upto (us1 us2 : List (List UInt8)) (e : Nat) : Prop :=
  (us1.flatten.length ≤ 200 → e = us1.flatten.length ∧ takeU 200 (us1 ++ us2) = us1 ++ takeU (200 - us1.flatten.length) us2) ∧ (200 < us1.flatten.length → e = (takeU 200 (us1 ++ us2)).flatten.length)
theorem Upto.start (us : List (List UInt8)) : Upto [] us 0 := ⟨fun _ => ⟨rfl, rfl⟩, fun h => by simp at h⟩
theorem Upto.step_in {us1 us2 : List (List UInt8)} {u : List UInt8} {e : Nat} (h : Upto us1 (u :: us2) e) (hn : us1.flatten.length + u.length ≤ 200) : Upto (us1 ++ [u]) us2 (us1.flatten.length + u.length) := by
  have hl : (us1 ++ [u]).flatten.length = us1.flatten.length + u.length := by simp
  obtain ⟨h1, h2⟩ := h.1 (by omega)
  refine ⟨fun _ => ⟨hl.symm, ?_⟩, fun hh => by omega⟩
  rw [List.append_assoc, List.singleton_append, h2, hl]
  conv => lhs; unfold takeU
  rw [if_pos (by omega), List.append_assoc, List.singleton_append, Nat.sub_sub]
theorem Upto.step_out {us1 us2 : List (List UInt8)} {u : List UInt8} {e : Nat} (h : Upto us1 (u :: us2) e) (hn : ¬ us1.flatten.length + u.length ≤ 200) : Upto (us1 ++ [u]) us2 e := by
  have hl : (us1 ++ [u]).flatten.length = us1.flatten.length + u.length := by simp
  refine ⟨fun hh => by omega, fun _ => ?_⟩
  rw [List.append_assoc, List.singleton_append]
  by_cases h0 : us1.flatten.length ≤ 200
  · obtain ⟨h1, h2⟩ := h.1 h0
    rw [h2, h1]
    conv => rhs; unfold takeU
    rw [if_neg (by omega), List.append_nil]
  · exact h.2 (by omega)
theorem Upto.last {us1 : List (List UInt8)} {e : Nat} (h : Upto us1 [] e) : us1.flatten.take e = (takeU 200 us1).flatten := by
  have key : e = (takeU 200 us1).flatten.length := by
    by_cases h0 : us1.flatten.length ≤ 200
    · obtain ⟨h1, h2⟩ := h.1 h0
      rw [List.append_nil] at h2
      rw [h1, h2]
      simp [takeU]
    · have := h.2 (by omega)
      rwa [List.append_nil] at this
  obtain ⟨ws, hw⟩ := takeU_prefix 200 us1
  rw [key]
  have e2 : us1.flatten = (takeU 200 us1).flatten ++ ws.flatten := by rw [← List.flatten_append, ← hw]
  rw [e2, List.take_left]
theorem Upto.le {us1 us2 : List (List UInt8)} {e : Nat} (h : Upto us1 us2 e) : e ≤ (us1 ++ us2).flatten.length := by
  by_cases h0 : us1.flatten.length ≤ 200
  · have := (h.1 h0).1
    rw [List.flatten_append, List.length_append]
    omega
  · have h1 := h.2 (by omega)
    obtain ⟨ws, hw⟩ := takeU_prefix 200 (us1 ++ us2)
    rw [h1]
    conv => rhs; rw [hw, List.flatten_append, List.length_append]
    omega

end Go.Proofs.YtemojhcbhljemaaGreatDoor.Pure

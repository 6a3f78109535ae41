/- Several texts in one: Words, Words2, Tabs0, Range, Frozen, Buf, Gen, Gen2, Pure01, Pure01b, PureCut, KTwo, Step, Still. -/
import Derived.Test.YtkdmhflcpfekfaaDoorProg
import Derived.WalkKit
import Derived.WalkSpells
import Derived.WalkLawsBesides
import Derived.Lib.SlBytesRow
import Derived.Lib.SlFresh
import Derived.KernelRfl
import Derived.Laws.MakeOwn
import Derived.Lib.OthersKept
import Derived.Lib.Hide
import Derived.Deep.MidRow
import Derived.Laws.ResultCell
import Derived.Lib.AppendIntMem
import Derived.Lib.LaidTab
import Derived.Laws.Tables
import Derived.Lib.ConvBytes
import Derived.Lib.FrozenHead2
import Derived.Laws.AppendOwn
import Derived.Great.BuildSlice
import Derived.Deep.RegionHeldLaw
import Derived.Lib.IndexMore
import Derived.Lib.IndexBytes
import Derived.Lib.IndexLaws
import Derived.Laws.StructEq
import Derived.Maps.AppendAt
import Derived.StillTailTactics
import Derived.BigQuiet

/- Words for bytes in memory and small facts on worlds that the walks of this seat share: plain, of no function of the program. -/
namespace Go.Proofs.YtkdmhflcpfekfaaDoor
set_option linter.unusedVariables false
set_option linter.unusedSimpArgs false
open Go.RowKit

/-- The bytes l lie at p (an address, or nil where there is none). -/
def Rd (w : World) (p : Option Addr) (l : List UInt8) : Prop :=
  l = [] ∨ ∃ b o, p = some ⟨b, o, none⟩ ∧ b < w.heap.size ∧ ∀ i, i < l.length → w.cell? ⟨b, o + i, none⟩ = some (.int .u8 ((l.getD i 0).toNat : Int))

theorem Rd.nil (w : World) (p : Option Addr) : Rd w p [] := .inl rfl

theorem Rd.below {w w' : World} {p : Option Addr} {l : List UInt8} (h : Rd w p l) {B : Nat} (hb : Below B w w') (hB : w.heap.size ≤ B) : Rd w' p l := by
  rcases h with h | ⟨b, o, rfl, hlt, hc⟩
  · exact .inl h
  · exact .inr ⟨b, o, rfl, Nat.lt_of_lt_of_le hlt hb.size, fun i hi => (hb.cell (p := ⟨b, o + i, none⟩) (by show b < B; omega)).trans (hc i hi)⟩

/-- Below, said from the heap's size on. -/
abbrev Grew (w w' : World) : Prop := Below w.heap.size w w'

theorem Grew.trans' {a b c : World} (h : Grew a b) (k : Grew b c) : Grew a c := h.trans (k.mono h.size)

theorem byte_lt (x : UInt8) : (x.toNat : Int) < 256 := by have := x.toNat_lt; omega

/-- Two strings of the same bytes are one value. -/
theorem str_eq {a b : ByteArray} (h : a.data.toList = b.data.toList) : Value.string a = Value.string b := by
  cases a with | mk a => cases b with | mk b =>
  simp only at h
  rw [Array.toList_inj.1 h]

theorem ret_eq {a b : ByteArray} (h : a.data.toList = b.data.toList) : Ending.returned (Value.string a) = Ending.returned (Value.string b) := by rw [str_eq h]

theorem Grew.drewN {B : Nat} {w w' : World} (h : Below B w w') (n : Nat) : Below B w (w'.drewN n) := by
  induction n with
  | zero => exact h
  | succ n ih => exact ih.drew

theorem ret_int {k : IntKind} {a b : Int} (h : a = b) : Ending.returned (.int k a) = .returned (.int k b) := by rw [h]
theorem val_int {k : IntKind} {a b : Int} (h : a = b) : Value.int k a = .int k b := by rw [h]

/-- A slice of bytes that the call has made itself reads as its bytes. -/
theorem rd_of_owns {w : World} {B : Nat} {e : TypeId} {v : Value} {n : Nat} {l : List UInt8} (h : w.ownsRow B e 1 v n (Lib.byteCells l)) :
    n = l.length ∧ ∃ p cap, v = .slice p l.length cap ∧ l.length ≤ cap ∧ cap ≤ maxLen ∧ Rd w p l := by
  have hn : n = l.length := by have := h.1; rw [Lib.byteCells_length] at this; omega
  subst hn
  refine ⟨rfl, ?_⟩
  rcases h.2 with ⟨rfl, h0⟩ | ⟨g, cap, cur, rfl, hb, hg, hnc, hcm, hcs, ht⟩
  · have : l = [] := List.eq_nil_of_length_eq_zero h0
    subst this
    exact ⟨none, 0, rfl, Nat.le_refl _, by decide, .inl rfl⟩
  · refine ⟨_, cap, rfl, hnc, hcm, .inr ⟨g, 0, rfl, (Array.getElem?_eq_some_iff.1 hg).1, fun i hi => ?_⟩⟩
    have hc := World.ownsRow.cells (w := w) (base := B) (e := e) (size := 1) (v := .slice (some ⟨g, 0, none⟩) l.length cap) (n := l.length) (xs := Lib.byteCells l) h (g := g) rfl i
      (.int .u8 ((l.getD i 0).toNat : Int)) (by simp [Lib.byteCells, List.getElem?_eq_getElem hi, List.getD_eq_getElem?_getD])
    have hadd : (⟨g, 0, none⟩ : Addr).add i = ⟨g, 0 + i, none⟩ := by unfold Addr.add; split <;> simp_all
    rw [← hadd]
    exact hc

theorem infoU8' : (Tryd.prog.info? 5).map (fun i => (i.zero, i.size, i.bytes)) = some (some (.int .u8 0), 1, 1) := by kernel_rfl

/-- make([]byte, 0, n). -/
theorem make_bytes (n : Nat) (hn : n ≤ 140737488355328) (w : World) : ∃ C : Array Value, C.size = n ∧
    (Instr.makeSlice 48 (.int .i64 0) (.int .i64 (n : Int))).run Tryd.prog w = .ok (.slice (some ⟨w.heap.size, 0, none⟩) 0 n) (w.alloc (.cells C 5)) := by
  obtain ⟨i0, hi, hz0, hz1, hz2⟩ := info_parts infoU8'
  have h := run_make (P := Tryd.prog) w 48 5 i0 (.int .u8 0) Tryd.underlying48 hi hz0 .i64 .i64 0 (n : Int) (by omega) (by omega) (by rw [hz2]; omega) (by omega)
  exact ⟨_, by simp [madeCells, hz1], h⟩

/-- A string's iterator stands where it stood while a row of the call's own grows. -/
theorem iter_grown {w w' : World} {B : Nat} {e : TypeId} {v : Value} {n : Nat} {xs : List Value} {k pos : Nat} {s : ByteArray} (ho : w.ownsRow B e 1 v n xs) (hk : w.heap[k]? = some (.stringIter s pos)) (hg : w.grownBy w' v.ownBlock) :
    w'.heap[k]? = some (.stringIter s pos) := by
  rw [hg.block k (Array.getElem?_eq_some_iff.1 hk).1 ?_]
  · exact hk
  · intro e1
    rcases ho.2 with ⟨rfl, _⟩ | ⟨g, cap, cur, rfl, _, hgg, _⟩
    · simp [Value.ownBlock] at e1
    · simp only [Value.ownBlock, Option.some.injEq] at e1
      subst e1
      rw [hgg] at hk
      cases hk

/-- A row of the call's own stays its own while an iterator moves on. -/
theorem own_iterAt {w : World} {B : Nat} {e : TypeId} {v : Value} {n : Nat} {xs : List Value} {k pos : Nat} {s : ByteArray} (h : w.ownsRow B e 1 v n xs) (hk : w.heap[k]? = some (.stringIter s pos)) (p : Nat) :
    (w.iterAt k s p).ownsRow B e 1 v n xs := by
  refine ⟨h.1, ?_⟩
  rcases h.2 with h2 | ⟨g, cap, cur, rfl, hb, hg, r⟩
  · exact .inl h2
  · have hkg : g ≠ k := by
      intro e1
      rw [e1, hk] at hg
      cases hg
    exact .inr ⟨g, cap, cur, rfl, hb, (Lib.iterAt_other w k g s p hkg).trans hg, r⟩

/-- s[k] of a string. -/
theorem index_str (s : ByteArray) (k : Nat) (c : UInt8) (h : s.data.toList[k]? = some c) (w : World) :
    (Instr.index 9 (.string s) (.int .i64 (k : Int))).run Tryd.prog w = .ok (.int .u8 (c.toNat : Int)) w := by
  have hk : k < s.size := by
    have := (List.getElem?_eq_some_iff.1 h).1
    simpa using this
  have hc : s[k]? = some c := by
    rw [getElem?_pos s k hk]
    have := (List.getElem?_eq_some_iff.1 h).2
    rw [← this]; rfl
  simp [Instr.index, Sem.run, go_sem, hc]

/-- An id as a value. -/
def idV (l : List UInt8) : Value := .agg (Lib.byteCells l).toArray
def zeros20 : List UInt8 := List.replicate 20 0

theorem infoId : (Tryd.prog.info? 75).map (·.size) = some 20 := by kernel_rfl
theorem infoId' {l : List UInt8} (h : l.length = 20) : (Tryd.prog.info? 75).map (·.size) = some (Lib.byteCells l).length := by rw [Lib.byteCells_length, h]; exact infoId
theorem infoId'' {l : List UInt8} (h : l.length = 20) : (Tryd.prog.info? 75).map (·.size) = some (Lib.byteCells l).toArray.size := by simpa using infoId' h
theorem arrayAt20 (p : Option Addr) (cap : Nat) (w : World) : (Instr.arrayAt 75 (.slice p 20 cap)).run Tryd.prog w = .ok (.pointer p) w := by simp [Instr.arrayAt, go_sem]
theorem one_bytes (l : List UInt8) : (Lib.byteCells l).toArray.all (·.oneCell') = true :=
  Array.all_eq_true_iff_forall_mem.2 fun v hv => by
    simp [Lib.byteCells] at hv
    obtain ⟨x, _, rfl⟩ := hv
    rfl
theorem idV_zero : idV zeros20 = .agg #[.int .u8 0, .int .u8 0, .int .u8 0, .int .u8 0, .int .u8 0, .int .u8 0, .int .u8 0, .int .u8 0, .int .u8 0, .int .u8 0, .int .u8 0, .int .u8 0, .int .u8 0, .int .u8 0, .int .u8 0, .int .u8 0, .int .u8 0, .int .u8 0, .int .u8 0, .int .u8 0] := by rfl

/-- A row of bytes that the call owns, block, offset and all. -/
theorem owns_at {w : World} {B : Nat} {e : TypeId} {v : Value} {n : Nat} {l : List UInt8} (h : w.ownsRow B e 1 v n (Lib.byteCells l)) (h0 : 0 < l.length) :
    ∃ g cap, v = .slice (some ⟨g, 0, none⟩) l.length cap ∧ B ≤ g ∧ g < w.heap.size ∧ l.length ≤ cap ∧ cap ≤ maxLen ∧ w.rangeAt g 0 (Lib.byteCells l) := by
  have hn : n = l.length := by have := h.1; rw [Lib.byteCells_length] at this; omega
  subst hn
  rcases h.2 with ⟨rfl, h1⟩ | ⟨g, cap, cur, rfl, hb, hg, hnc, hcm, hcs, ht⟩
  · omega
  · refine ⟨g, cap, rfl, hb, (Array.getElem?_eq_some_iff.1 hg).1, hnc, hcm, fun j v hv => ?_⟩
    rw [cell_of_row w g _ cur e (0, 0) hg]
    rw [← ht, List.getElem?_take] at hv
    split at hv
    · simpa using hv
    · cases hv

theorem bit_or_16 : ∀ u : Nat, u < 16 → ∀ v : Nat, v < 16 → Go.bits .or .u8 (16 * (u : Int)) (v : Int) = 16 * (u : Int) + v := by decide

end Go.Proofs.YtkdmhflcpfekfaaDoor

/- More words for memory that the walks of this seat share (variables of several cells, results that lie in memory): plain, of no function of the program. -/
namespace Go.Proofs.YtkdmhflcpfekfaaDoor
set_option linter.unusedVariables false
set_option linter.unusedSimpArgs false
open Go.RowKit

theorem results_cell_tmp_mid {P : Program} {fn : Func} {p u : Tmp} {ty : TypeId} (h : fn.results = #[.cell p ty, .tmp u]) (tmps : Array Value) (w : World) (b o : Nat) (cs : List Value) (d : TypeDesc)
    (hp : tmps.getD p undef = .pointer (some ⟨b, o, none⟩)) (hc : w.rangeAt b o cs) (hu : P.underlying ty = some d) (hd : d.isRow = true) (hi : (P.info? ty).map (·.size) = some cs.length) :
    (results fn tmps).run P w = .ok (.tuple #[.agg cs.toArray, tmps.getD u undef]) w := by
  rw [results_cell_tmp h, hp]
  simp only [asAddr, Sem.run_pure, Result.andThen_ok, run_loadVar_mid w b o ty cs d hc hu hd hi]

theorem results_cell_mid {P : Program} {fn : Func} {p : Tmp} {ty : TypeId} (h : fn.results = #[.cell p ty]) (tmps : Array Value) (w : World) (b o : Nat) (cs : List Value) (d : TypeDesc)
    (hp : tmps.getD p undef = .pointer (some ⟨b, o, none⟩)) (hc : w.rangeAt b o cs) (hu : P.underlying ty = some d) (hd : d.isRow = true) (hi : (P.info? ty).map (·.size) = some cs.length) :
    (results fn tmps).run P w = .ok (.agg cs.toArray) w := by
  have hp' : tmps[p]?.getD undef = .pointer (some ⟨b, o, none⟩) := by simpa using hp
  simp [results, h, hp', asAddr, run_loadVar_mid w b o ty cs d hc hu hd hi]

theorem below_setRow {B : Nat} {a w : World} (h : Below B a w) {g : Nat} (hg : B ≤ g) (cs : Array Value) : Below B a (w.setRow g cs) :=
  h.trans ⟨rfl, rfl, rfl, by simp, fun k hk => setRow_other w g k cs (by omega)⟩

theorem range_row {w : World} {g : Nat} {cs : Array Value} {t : TypeId} {fz : Nat × Nat} (hg : w.heap[g]? = some (.cells cs t fz)) : w.rangeAt g 0 cs.toList := fun j v hv => by
  rw [cell_of_row w g _ cs t fz hg]
  simpa using hv

theorem range_setRow {w : World} {g : Nat} {old : Array Value} {t : TypeId} {fz : Nat × Nat} (hg : w.heap[g]? = some (.cells old t fz)) (cs : List Value) : (w.setRow g cs.toArray).rangeAt g 0 cs := by
  have := range_row (setRow_heap w g old cs.toArray t fz hg)
  simpa using this

/-- A range below B is as it was. -/
theorem range_below {B : Nat} {w w' : World} (h : Below B w w') {b o : Nat} {cs : List Value} (hr : w.rangeAt b o cs) (hb : b < B) : w'.rangeAt b o cs := fun j v hv => (h.cell (p := ⟨b, o + j, none⟩) hb).trans (hr j v hv)

theorem byteCells_getElem? (l : List UInt8) (i : Nat) : (Lib.byteCells l)[i]? = (l[i]?).map fun b => Value.int .u8 (b.toNat : Int) := by simp [Lib.byteCells]

/-- Rd, cell by cell, as append asks it. -/
theorem Rd.cells {w : World} {a : Addr} {l : List UInt8} (h : Rd w (some a) l) : ∀ j u, (Lib.byteCells l)[j]? = some u → w.cell? (a.add j) = some u := by
  intro j u hu
  rcases h with rfl | ⟨b, o, e, _, hc⟩
  · simp [Lib.byteCells] at hu
  · cases e
    have hj : j < l.length := by have := (List.getElem?_eq_some_iff.1 hu).1; rwa [Lib.byteCells_length] at this
    rw [byteCells_getElem?, List.getElem?_eq_getElem hj] at hu
    rw [Addr.add_mid, hc j hj, List.getD_eq_getElem?_getD, List.getElem?_eq_getElem hj]
    exact hu

theorem one_bytes' (l : List UInt8) : ∀ u ∈ Lib.byteCells l, u.oneCell' = true := by
  intro v hv
  simp [Lib.byteCells] at hv
  obtain ⟨x, _, rfl⟩ := hv
  rfl

/-- append(s, l...) where s has room: the block g holds s from its head on. -/
theorem append_room (t ty e : TypeId) {P : Program} (i : TypeInfo) (ht : P.underlying t = some (.slice e)) (hi : P.info? e = some i) (h1 : i.size = 1) (w : World) (g sLen sCap : Nat) (cur : Array Value) (hg : w.heap[g]? = some (.cells cur e (0, 0)))
    (p : Option Addr) (l : List UInt8) (c : Nat) (h : Rd w p l) (hroom : sLen + l.length ≤ sCap) (hcur : cur.size = sCap) :
    ∃ w', (Builtin.append_ #[t, t] ty #[.slice (some ⟨g, 0, none⟩) sLen sCap, .slice p l.length c]).run P w = .ok (.slice (some ⟨g, 0, none⟩) (sLen + l.length) sCap) w' ∧
      w'.heap[g]? = some (.cells (cur.toList.take sLen ++ Lib.byteCells l ++ cur.toList.drop (sLen + l.length)).toArray e (0, 0)) ∧ w.grownBy w' (some g) ∧ w'.heap.size = w.heap.size := by
  cases p with
  | none =>
    have hl : l = [] := by
      rcases h with h | ⟨b, o, e, _⟩
      · exact h
      · cases e
    subst hl
    refine ⟨w, ?_, ?_, ⟨rfl, rfl, rfl, Nat.le_refl _, fun _ _ _ => rfl⟩, rfl⟩
    · have hs : sLen ≤ sCap := by simpa using hroom
      simp [Builtin.append_, run_underlying ht, sizeOf, typeInfo, hi, Builtin.lenOf, Builtin.firstCells, hs, storeCells]
    · rw [hg]; simp [Lib.byteCells]
  | some a =>
    refine ⟨_, run_append_room (P := P) w t ty e i ht hi g sLen sCap cur hg a l.length c (Lib.byteCells l) (by rw [h1, Lib.byteCells_length, Nat.mul_one]) h.cells (one_bytes' l) hroom (by rw [h1, Lib.byteCells_length]; omega), ?_, ⟨rfl, rfl, rfl, by simp, fun k _ hk => setRow_other w g k _ (fun e => hk (by simp [e]))⟩, by simp⟩
    rw [setRow_heap w g cur _ e _ hg, h1, Nat.mul_one, Lib.byteCells_length]

/-- string(b). -/
theorem conv_string {w : World} {p : Option Addr} {l : List UInt8} (c : Nat) (h : Rd w p l) : (convert 48 9 (.slice p l.length c)).run Tryd.prog w = .ok (.string ⟨l.toArray⟩) w := by
  rcases h with rfl | ⟨b, o, rfl, _, hc⟩
  · cases p with
    | none => simp [convert, go_sem, Conv.bytesToString]; rfl
    | some a => simp [convert, go_sem, Conv.bytesToString]; rfl
  · have hb : Lib.Bytes w b o ⟨l.toArray⟩ := by
      intro i hi
      have hi' : i < l.length := by simpa [ByteArray.size] using hi
      rw [hc i hi', List.getD_eq_getElem?_getD, List.getElem?_eq_getElem hi']
      rfl
    have := Lib.run_convert_whole (P := Tryd.prog) w 48 5 9 Tryd.underlying48 Tryd.underlying5 Tryd.underlying9 b o ⟨l.toArray⟩ hb c
    simpa [ByteArray.size] using this

/-- int(uint(x) % n), as the walk writes it. -/
theorem pick_wrap (x : Int) (n : Nat) (m : Int) (hm : (n : Int) = m) (hn : 0 < n) (hn2 : n ≤ 2147483648) : ∃ K : Nat, wrap64 ((IntKind.u64.wrap x).tmod m) = (K : Int) ∧ K < n := by
  subst hm
  have h0 : 0 ≤ IntKind.u64.wrap x := by simp [IntKind.wrap, IntKind.bits, IntKind.signed]; omega
  rw [Int.tmod_eq_emod_of_nonneg h0]
  have h1 := Int.emod_nonneg (IntKind.u64.wrap x) (show (n : Int) ≠ 0 by omega)
  have h2 := Int.emod_lt_of_pos (IntKind.u64.wrap x) (show (0 : Int) < n by omega)
  refine ⟨(IntKind.u64.wrap x % (n : Int)).toNat, ?_, by omega⟩
  unfold wrap64
  omega

/-- A load of several cells that stands behind a guard that is met. -/
theorem wpList_load_g {P : Program} {ops : Array Oper} {rest : List Oper} {op : Oper} {a : Act} {w : World} {Q : Exit → Act → World → Prop} (hw : Region.wanted op (yielded ops a.tmps) = true) (ty : TypeId) (x : Operand) (ho : op.op = .load ty x)
    (b o : Nat) (hx : a.eval x = .pointer (some ⟨b, o, none⟩)) (cs : List Value) (d : TypeDesc) (hc : w.rangeAt b o cs)
    (hu : P.underlying ty = some d) (hd : d.isRow = true) (hi : (P.info? ty).map (·.size) = some cs.length)
    (h : wpList P ops Q rest (a.put op.dst (.agg cs.toArray)) w) : wpList P ops Q (op :: rest) a w :=
  wpList_step fun K hK => by rw [if_pos hw]; exact wp_load_mid ty x ho b o hx cs d hc hu hd hi (hK _ _ h)

/-- What a package-level variable holds stays, whatever the call makes. -/
theorem var_grew {P : Program} {W W' : World} {n : String} {cs : Array Value} (hb : Grew W W') (hv : W.var? P n = some cs) : W'.var? P n = some cs := by
  unfold World.var? at hv ⊢
  cases hg : P.globalNamed n with
  | none => simp [hg] at hv
  | some g =>
    simp only [hg, Option.bind_some] at hv ⊢
    have hlt : g < W.heap.size := by
      rcases Nat.lt_or_ge g W.heap.size with h | h
      · exact h
      · simp [Array.getElem?_eq_none h] at hv
    rw [hb.block g hlt]
    exact hv

end Go.Proofs.YtkdmhflcpfekfaaDoor

/- A cell that stands, stands behind what only makes new blocks. No function of the program. -/
namespace Go.Proofs.YtkdmhflcpfekfaaDoor
set_option linter.unusedVariables false
set_option linter.unusedSimpArgs false
open Go.RowKit

theorem cell_lt {w : World} {p : Addr} {v : Value} (h : w.cell? p = some v) : p.block < w.heap.size := World.block_lt_of_cell? _ _ h
theorem cell_grew {w w' : World} {p : Addr} {v : Value} (h : w.cell? p = some v) (hb : Grew w w') : w'.cell? p = some v := (hb.cell (cell_lt h)).trans h

end Go.Proofs.YtkdmhflcpfekfaaDoor

/- Rows of cells in memory (structs, arrays, slices of them): read, laid anew. No function of the program. -/
namespace Go.Proofs.YtkdmhflcpfekfaaDoor
set_option linter.unusedVariables false
set_option linter.unusedSimpArgs false
open Go.RowKit

theorem range_grew {w w' : World} {b o : Nat} {cs : List Value} (h : w.rangeAt b o cs) (g : Grew w w') : w'.rangeAt b o cs := fun j v hv => cell_grew (h j v hv) g
theorem range_lt {w : World} {b o : Nat} {cs : List Value} (h : w.rangeAt b o cs) (h0 : 0 < cs.length) : b < w.heap.size :=
  cell_lt (h 0 _ (List.getElem?_eq_getElem h0))
theorem range_drop {w : World} {b o : Nat} {cs : List Value} (h : w.rangeAt b o cs) (k : Nat) : w.rangeAt b (o + k) (cs.drop k) := by
  intro j v hv
  rw [List.getElem?_drop] at hv
  rw [Nat.add_assoc]
  exact h _ v hv
theorem range_pre {w : World} {b o : Nat} {cs ds : List Value} (h : w.rangeAt b o (cs ++ ds)) : w.rangeAt b o cs := by
  intro j v hv
  refine h j v ?_
  rw [List.getElem?_append_left (List.getElem?_eq_some_iff.1 hv).1]
  exact hv
theorem range_suf {w : World} {b o : Nat} {cs ds : List Value} (h : w.rangeAt b o (cs ++ ds)) : w.rangeAt b (o + cs.length) ds := by
  have := range_drop h cs.length
  rwa [List.drop_left'] at this
  rfl
theorem range_app {w : World} {b o : Nat} {cs ds : List Value} (h : w.rangeAt b o cs) (k : w.rangeAt b (o + cs.length) ds) : w.rangeAt b o (cs ++ ds) := by
  intro j v hv
  by_cases hj : j < cs.length
  · rw [List.getElem?_append_left hj] at hv
    exact h j v hv
  · rw [List.getElem?_append_right (by omega)] at hv
    have := k _ v hv
    rwa [Nat.add_assoc, Nat.add_sub_cancel' (by omega)] at this

/-- A fresh variable of several cells gets its value: what is known behind it. -/
theorem wpList_store_new {P : Program} {ops : Array Oper} {rest : List Oper} {op : Oper} {a : Act} {w : World} {Q : Exit → Act → World → Prop} (hgd : op.guard = none) (ty : TypeId) (x y : Operand) (ho : op.op = .store ty x y) (w0 : World) (zs : Array Value) (hw : w = w0.alloc (.cells zs ty)) (cells : List Value)
    (hx : a.eval x = .pointer (some ⟨w0.heap.size, 0, none⟩)) (hy : a.eval y = .agg cells.toArray) (hsz : zs.size = cells.length) (hi : (P.info? ty).map (·.size) = some cells.length) (h1 : ∀ v ∈ cells, v.oneCell' = true)
    (h : ∀ W', Grew w0 W' → Grew W' W' → (∀ W, Grew W' W → W.rangeAt w0.heap.size 0 cells) → (∀ W, Grew W' W → ∀ j, W.frozen? ⟨w0.heap.size, j, none⟩ = false) → w0.heap.size < W'.heap.size → wpList P ops Q rest (a.put op.dst undef) W') : wpList P ops Q (op :: rest) a w := by
  subst hw
  refine wpList_store_row hgd ty x y ho w0.heap.size cells.toArray hx hy ty zs (heap_alloc_new w0 _) (by simpa using hi) (by simpa using hsz) (all_oneCell_toArray h1) ?_
  have hb := setRow_heap (w0.alloc (.cells zs ty)) w0.heap.size zs cells.toArray ty (0, 0) (heap_alloc_new w0 _)
  refine h _ (below_setRow ((Below.refl _ _).alloc (Nat.le_refl _) _) (Nat.le_refl _) _) (Below.refl _ _) (fun W g => range_grew ?_ g) (fun W g j => ?_) (by simp)
  · have := range_row hb
    simpa using this
  · have h2 := (g.block w0.heap.size (Array.getElem?_eq_some_iff.1 hb).1).trans hb
    simp [World.frozen?, h2]

/-- What is written to another block, and new blocks, leave a row. -/
theorem range_grown {w w' : World} {b o : Nat} {cs : List Value} {row : Option Nat} (h : w.rangeAt b o cs) (hg : w.grownBy w' row) (hne : row ≠ some b) : w'.rangeAt b o cs := by
  intro j v hv
  have h1 := h j v hv
  have hb := cell_lt h1
  unfold World.cell? at h1 ⊢
  rw [hg.block b hb (fun e => hne e.symm)]
  exact h1
theorem cell_grown {w w' : World} {p : Addr} {v : Value} {row : Option Nat} (h : w.cell? p = some v) (hg : w.grownBy w' row) (hne : row ≠ some p.block) : w'.cell? p = some v := by
  have hb := cell_lt h
  unfold World.cell? at h ⊢
  rw [hg.block p.block hb (fun e => hne e.symm)]
  exact h
/-- Bytes of a row, read as bytes. -/
theorem rd_range {w : World} {b o : Nat} {l : List UInt8} (h : w.rangeAt b o (Lib.byteCells l)) : Rd w (some ⟨b, o, none⟩) l := by
  by_cases h0 : l = []
  · exact .inl h0
  · refine .inr ⟨b, o, rfl, range_lt h (by rw [Lib.byteCells_length]; exact List.length_pos_iff.2 h0), fun i hi => h i _ ?_⟩
    rw [byteCells_getElem?, List.getElem?_eq_getElem hi, List.getD_eq_getElem?_getD, List.getElem?_eq_getElem hi]
    rfl

/-- A variable of several cells gets its value, in a region that draws. -/
theorem step_store_at {P : Program} {ops : Array Oper} {op : Oper} {a : Act} {w : World} {K : Act → World → Prop} {Q : Exit → Act → World → Prop} {E : Prop} (hgd : op.guard = none) (ty : TypeId) (x y : Operand) (ho : op.op = .store ty x y) (g : Nat) (old : Array Value) (t : TypeId) (cells : List Value)
    (hx : a.eval x = .pointer (some ⟨g, 0, none⟩)) (hy : a.eval y = .agg cells.toArray) (hg : w.heap[g]? = some (.cells old t (0, 0))) (hsz : old.size = cells.length) (hi : (P.info? ty).map (·.size) = some cells.length) (h1 : ∀ v ∈ cells, v.oneCell' = true)
    (h : ∀ w', w'.heap[g]? = some (.cells cells.toArray t (0, 0)) → w.grownBy w' (some g) → w'.heap.size = w.heap.size → K (a.put op.dst undef) w') : if Region.wanted op (yielded ops a.tmps) = true then Oper.wp P op a w K Q else E := by
  have hw : Region.wanted op (yielded ops a.tmps) = true := by simp [Region.wanted, hgd]
  rw [if_pos hw]
  exact wp_store_row ty x y ho g cells.toArray hx hy t old hg (by simpa using hi) (by simpa using hsz) (all_oneCell_toArray h1) (h _ (setRow_heap w g old cells.toArray t (0, 0) hg) ⟨rfl, rfl, rfl, by simp, fun k _ hk => setRow_other w g k _ (fun e => hk (by simp [e]))⟩ (by simp))

end Go.Proofs.YtkdmhflcpfekfaaDoor

/- A row whose last place behind its bytes is frozen (what []byte(s) makes): its cells may be set, and it reads as its bytes. No function of the program. -/
namespace Go.Proofs.YtkdmhflcpfekfaaDoor
set_option linter.unusedVariables false
set_option linter.unusedSimpArgs false
open Go.RowKit

theorem set_cell_any (w : World) (g i : Nat) (cs : Array Value) (t : TypeId) (fz : Nat × Nat) (v : Value) (hg : w.heap[g]? = some (.cells cs t fz)) :
    (w.setCell ⟨g, i, none⟩ v).heap[g]? = some (.cells (cs.setIfInBounds i v) t fz) := by
  rw [setCell_eq_setRow w g i cs t fz v hg]
  exact setRow_heap w g cs _ t _ hg
theorem frozen_any (w : World) (g j : Nat) (cs : Array Value) (t : TypeId) (lo hi : Nat) (hg : w.heap[g]? = some (.cells cs t (lo, hi))) (hj : j < lo) : w.frozen? ⟨g, j, none⟩ = false := by
  simp [World.frozen?, hg]
  omega
/-- The cells hold the bytes l, from the head on. -/
def Holds8 (cs : Array Value) (l : List UInt8) : Prop := ∀ i, i < l.length → cs[i]? = some (.int .u8 ((l.getD i 0).toNat : Int))
theorem holds_bytes (w : World) (t : TypeId) (s : ByteArray) : Holds8 (Lib.bytesCells w t s) s.data.toList := by
  intro i hi
  have hs : s.data.toList.length = s.data.size := Array.length_toList
  unfold Lib.bytesCells
  rw [Array.getElem?_append_left (by rw [Array.size_map]; omega), Array.getElem?_map, ← Array.getElem?_toList, List.getElem?_eq_getElem hi, List.getD_eq_getElem?_getD, List.getElem?_eq_getElem hi]
  rfl
theorem holds_size {cs : Array Value} {l : List UInt8} (h : Holds8 cs l) : l.length ≤ cs.size := by
  apply Classical.byContradiction
  intro hn
  have := h cs.size (by omega)
  simp at this
theorem holds_set {cs : Array Value} {l : List UInt8} (h : Holds8 cs l) (k : Nat) (c : UInt8) : Holds8 (cs.setIfInBounds k (.int .u8 (c.toNat : Int))) (l.set k c) := by
  intro i hi
  rw [List.length_set] at hi
  have hsz := holds_size h
  rw [Array.getElem?_setIfInBounds, List.getD_eq_getElem?_getD, List.getElem?_set]
  by_cases e : k = i
  · subst e
    rw [if_pos rfl, if_pos rfl, if_pos (by omega), if_pos hi]
    rfl
  · rw [if_neg e, if_neg e, h i hi, List.getD_eq_getElem?_getD]
theorem rd_holds {w : World} {g : Nat} {cs : Array Value} {t : TypeId} {fz : Nat × Nat} {l : List UInt8} (hg : w.heap[g]? = some (.cells cs t fz)) (h : Holds8 cs l) : Rd w (some ⟨g, 0, none⟩) l :=
  .inr ⟨g, 0, rfl, (Array.getElem?_eq_some_iff.1 hg).1, fun i hi => by
    rw [cell_of_row w g _ cs t fz hg, Nat.zero_add]
    exact h i hi⟩

end Go.Proofs.YtkdmhflcpfekfaaDoor

/- Bytes that a call has made itself, in a row whose head, or whose place behind the last cell, may be frozen: appended to, read, converted. No function of the program. -/
namespace Go.Proofs.YtkdmhflcpfekfaaDoor
set_option linter.unusedVariables false
set_option linter.unusedSimpArgs false
open Go.RowKit

/-- The slice v of bytes, made from base on, holds l. -/
def OwnB (w : World) (base : Nat) (v : Value) (l : List UInt8) : Prop :=
  (v = .slice none 0 0 ∧ l = []) ∨
  ∃ g cap cur fz, v = .slice (some ⟨g, 0, none⟩) l.length cap ∧ base ≤ g ∧ w.heap[g]? = some (.cells cur 5 fz) ∧ (fz.2 ≤ l.length ∨ cap ≤ fz.1) ∧ l.length ≤ cap ∧ cap ≤ maxLen ∧ cur.size = cap ∧ cur.toList.take l.length = Lib.byteCells l

theorem OwnB.nil (w : World) (base : Nat) : OwnB w base (.slice none 0 0) [] := .inl ⟨rfl, rfl⟩

theorem OwnB.lt {w : World} {base : Nat} {v : Value} {l : List UInt8} (h : OwnB w base v l) : ∀ k, v.ownBlock = some k → base ≤ k ∧ k < w.heap.size := by
  intro k hk
  rcases h with ⟨rfl, _⟩ | ⟨g, cap, cur, fz, rfl, hb, hg, _⟩
  · simp [Value.ownBlock] at hk
  · simp [Value.ownBlock] at hk
    subst hk
    exact ⟨hb, (Array.getElem?_eq_some_iff.1 hg).1⟩

theorem OwnB.kept {w w' : World} {base : Nat} {v : Value} {l : List UInt8} {row : Option Nat} (h : OwnB w base v l) (hg : w.grownBy w' row) (hne : v.ownBlock = none ∨ v.ownBlock ≠ row) : OwnB w' base v l := by
  rcases h with hn | ⟨g, cap, cur, fz, rfl, hb, hgg, rest⟩
  · exact .inl hn
  · refine .inr ⟨g, cap, cur, fz, rfl, hb, ?_, rest⟩
    rw [hg.block g (Array.getElem?_eq_some_iff.1 hgg).1 (by simpa [Value.ownBlock] using hne)]
    exact hgg

/-- What only makes new blocks leaves it. -/
theorem OwnB.below {w w' : World} {base : Nat} {v : Value} {l : List UInt8} (h : OwnB w base v l) (hb : Grew w w') : OwnB w' base v l := by
  rcases h with hn | ⟨g, cap, cur, fz, rfl, hbs, hgg, rest⟩
  · exact .inl hn
  · exact .inr ⟨g, cap, cur, fz, rfl, hbs, (hb.block g (Array.getElem?_eq_some_iff.1 hgg).1).trans hgg, rest⟩
theorem OwnB.base {w : World} {B C : Nat} {v : Value} {l : List UInt8} (h : OwnB w C v l) (hBC : B ≤ C) : OwnB w B v l := by
  rcases h with hn | ⟨g, cap, cur, fz, rfl, hbs, rest⟩
  · exact .inl hn
  · exact .inr ⟨g, cap, cur, fz, rfl, by omega, rest⟩

theorem OwnB.val {w : World} {base : Nat} {v : Value} {l : List UInt8} (h : OwnB w base v l) : ∃ p cap, v = .slice p l.length cap ∧ Rd w p l ∧ l.length ≤ cap ∧ (∀ a, p = some a → base ≤ a.block ∧ a.block < w.heap.size) := by
  rcases h with ⟨rfl, rfl⟩ | ⟨g, cap, cur, fz, rfl, hb, hg, hfz, hlc, hcm, hcs, ht⟩
  · exact ⟨none, 0, rfl, .inl rfl, Nat.le_refl _, fun a h => by cases h⟩
  · have hlt := (Array.getElem?_eq_some_iff.1 hg).1
    refine ⟨_, cap, rfl, .inr ⟨g, 0, rfl, hlt, fun i hi => ?_⟩, hlc, fun a h => by cases h; exact ⟨hb, hlt⟩⟩
    rw [cell_of_row w g _ cur _ fz hg, Nat.zero_add]
    have h1 : (Lib.byteCells l)[i]? = some (.int .u8 ((l.getD i 0).toNat : Int)) := by simp [Lib.byteCells, List.getElem?_eq_getElem hi, List.getD_eq_getElem?_getD]
    rw [← ht, List.getElem?_take, if_pos hi] at h1
    simpa using h1

theorem OwnB.of_ownsRow {w : World} {base : Nat} {v : Value} {n : Nat} {l : List UInt8} (h : w.ownsRow base 5 1 v n (Lib.byteCells l)) : OwnB w base v l := by
  have hn : n = l.length := by have := h.1; rw [Lib.byteCells_length] at this; omega
  subst hn
  rcases h.2 with ⟨rfl, h0⟩ | ⟨g, cap, cur, rfl, hb, hg, hnc, hcm, hcs, ht⟩
  · exact .inl ⟨rfl, List.eq_nil_of_length_eq_zero h0⟩
  · exact .inr ⟨g, cap, cur, (0, 0), rfl, hb, hg, .inl (Nat.zero_le _), hnc, hcm, by omega, by simpa using ht⟩

/-- '[]byte(s)'. -/
theorem OwnB.conv {w : World} {base : Nat} (s : ByteArray) (hb : base ≤ w.heap.size) (hs : s.size ≤ 9223372036854775807) : OwnB (Lib.bytesWorld w 5 s) base (.slice (some ⟨w.heap.size, 0, none⟩) s.data.toList.length (grownCap w s.size 0 5)) s.data.toList := by
  have hl : s.data.toList.length = s.size := Array.length_toList
  have hge := grownCap_ge w s.size 0 5
  have hcm := grownCap_le_maxLen w s.size 0 5 (by unfold maxLen; exact hs)
  have hsz : (Lib.bytesCells w 5 s).size = grownCap w s.size 0 5 := by
    unfold Lib.bytesCells
    have : s.data.size = s.size := rfl
    rw [Array.size_append, Array.size_map, Array.size_replicate]
    omega
  refine .inr ⟨_, _, _, _, rfl, hb, Lib.bytesWorld_at_new w 5 s, .inr (by rw [hsz]; exact Nat.le_refl _), by omega, hcm, hsz, ?_⟩
  unfold Lib.bytesCells
  rw [Array.toList_append, List.take_append_of_le_length (by simp), List.take_of_length_le (by simp)]
  simp [Lib.byteCells]
theorem OwnB.conv' {w : World} {base : Nat} (s : ByteArray) (hb : base ≤ w.heap.size) (hs : s.size ≤ 9223372036854775807) : OwnB (Lib.bytesWorld w 5 s) base (.slice (some ⟨w.heap.size, 0, none⟩) s.size (grownCap w s.size 0 5)) s.data.toList := by
  have h := OwnB.conv s hb hs
  rwa [show s.data.toList.length = s.size from Array.length_toList] at h
/-- Two texts, one behind the other. -/
theorem str_add (a b c : ByteArray) (h : a.size + b.size < 9223372036854775808) (hc : a ++ b = c) (w : World) : (binOp .add 9 (.string a) (.string b)).run Tryd.prog w = .ok (.string c) w := by
  subst hc
  simp [binOp_string_add, Op.stringOp, go_sem, ByteArray.size_append]
  omega
theorem bytesWorld_grew (w : World) (s : ByteArray) : Grew w (Lib.bytesWorld w 5 s) :=
  ⟨rfl, rfl, rfl, by rw [Lib.bytesWorld_size]; omega, fun k hk => Lib.bytesWorld_at_old w _ s k hk⟩
theorem run_conv_bytes (w : World) (s : ByteArray) : (convert 9 48 (.string s)).run Tryd.prog w = .ok (.slice (some ⟨w.heap.size, 0, none⟩) s.data.toList.length (grownCap w s.size 0 5)) (Lib.bytesWorld w 5 s) := by
  have hl : s.data.toList.length = s.size := Array.length_toList
  rw [hl]
  exact Lib.run_convert_string_bytes w _ _ _ s Tryd.underlying9 Tryd.underlying48 Tryd.underlying5

theorem run_storeCells_atT (P : Program) (g o : Nat) (t : TypeId) (fz : Nat × Nat) : ∀ (vs : List Value) (i : Nat) (cur : Array Value) (w : World), w.heap[g]? = some (.cells cur t fz) → (fz.2 ≤ o + i ∨ o + i + vs.length ≤ fz.1) → o + i + vs.length ≤ cur.size → (∀ v ∈ vs, v.oneCell' = true) →
    (storeCells ⟨g, o, none⟩ vs i).run P w = .ok () (w.setRow g (cur.toList.take (o + i) ++ vs ++ cur.toList.drop (o + i + vs.length)).toArray)
  | [], i, cur, w, hg, _, _, _ => by
    simp only [storeCells, List.append_nil, List.length_nil, Nat.add_zero, List.take_append_drop, Array.toArray_toList]
    rw [setRow_self w g cur t fz hg]
    rfl
  | v :: rest, i, cur, w, hg, hfz, hl, h1 => by
    have hi : o + i < cur.size := by simp at hl; omega
    have hadd : (⟨g, o, none⟩ : Addr).add i = ⟨g, o + i, none⟩ := by unfold Addr.add; split <;> simp_all
    have hcell : w.cell? ⟨g, o + i, none⟩ = some cur[o + i] := by simp [World.cell?, hg, hi]
    have hfro : w.frozen? ⟨g, o + i, none⟩ = false := by
      obtain ⟨lo, hi'⟩ := fz
      simp only [World.frozen?, hg, Bool.and_eq_false_iff, decide_eq_false_iff_not]
      simp only [List.length_cons] at hfz
      omega
    have hst : (store ((⟨g, o, none⟩ : Addr).add i) v).run P w = .ok () (w.setRow g (cur.setIfInBounds (o + i) v)) := by
      rw [hadd, run_store P w _ v _ (h1 v (by simp)), hcell]
      simp [hfro, setCell_eq_setRow w g (o + i) cur t fz v hg]
    have ih := run_storeCells_atT P g o t fz rest (i + 1) (cur.setIfInBounds (o + i) v) (w.setRow g (cur.setIfInBounds (o + i) v)) (setRow_heap w g cur _ t _ hg) (by simp only [List.length_cons] at hfz; omega) (by simp at hl ⊢; omega) (fun x hx => h1 x (by simp [hx]))
    simp only [storeCells, Sem.run_bind, hst, Result.andThen_ok, ih, setRow_setRow]
    congr 3
    have e := list_seg_step cur.toList (o + i) v rest (by simp at hl ⊢; omega)
    simpa [Array.toList_setIfInBounds, Nat.add_assoc] using e

/-- What both sources of an append come to. -/
theorem append_core (v : Value) (l m : List UInt8) (w : World) (base : Nat) (hown : OwnB w base v l) (hbase : base ≤ w.heap.size) (h63 : l.length + m.length ≤ 140737488355328) (x : Value) (t2 : TypeId) (ty : TypeId) (i0 : TypeInfo) (hi : Tryd.prog.info? 5 = some i0) (hz0 : i0.zero = some (.int .u8 0)) (hz1 : i0.size = 1) (hz2 : i0.bytes = 1)
    (hnil : v = .slice none 0 0 → ∃ v' w', (Builtin.append_ #[48, t2] ty #[v, x]).run Tryd.prog w = .ok v' w' ∧ w'.ownsRow base 5 1 v' (0 + m.length) ([] ++ Lib.byteCells m) ∧ w.grownBy w' none)
    (hroom : ∀ g cap cur fz, v = .slice (some ⟨g, 0, none⟩) l.length cap → w.heap[g]? = some (.cells cur 5 fz) → (fz.2 ≤ l.length ∨ l.length + m.length ≤ fz.1) → l.length + m.length ≤ cap → l.length + m.length ≤ cur.size →
      (Builtin.append_ #[48, t2] ty #[v, x]).run Tryd.prog w = .ok (.slice (some ⟨g, 0, none⟩) (l.length + m.length) cap) (w.setRow g (cur.toList.take l.length ++ Lib.byteCells m ++ cur.toList.drop (l.length + m.length)).toArray))
    (hgrow : ∀ g cap, v = .slice (some ⟨g, 0, none⟩) l.length cap → (∀ j u, (Lib.byteCells l)[j]? = some u → w.cell? ((⟨g, 0, none⟩ : Addr).add j) = some u) → cap < l.length + m.length →
      (Builtin.append_ #[48, t2] ty #[v, x]).run Tryd.prog w = .ok (.slice (some ⟨w.heap.size, 0, none⟩) (l.length + m.length) (grownCap w (l.length + m.length) cap 5)) (w.drew.alloc (.cells ((Lib.byteCells l).toArray ++ (Lib.byteCells m).toArray ++ Builtin.zeroCells (Value.int .u8 0).cells (grownCap w (l.length + m.length) cap 5 - (l.length + m.length))) 5))) :
    ∃ v' w', (Builtin.append_ #[48, t2] ty #[v, x]).run Tryd.prog w = .ok v' w' ∧ OwnB w' base v' (l ++ m) ∧ Below base w w' ∧ w.grownBy w' v.ownBlock := by
  have hl0 := hown.lt
  rcases hown with ⟨rfl, rfl⟩ | ⟨g, cap, cur, fz, rfl, hbg, hg, hfz, hnc, hcm, hcs, htake⟩
  · obtain ⟨v', w', h1, h2, h3⟩ := hnil rfl
    exact ⟨v', w', h1, OwnB.of_ownsRow h2, (Below.refl _ _).grown h3 hbase (fun k hk => by cases hk), h3⟩
  · have hlen : (Lib.byteCells (l ++ m)).length = l.length + m.length := by rw [Lib.byteCells_length, List.length_append]
    have hlen2 : (l ++ m).length = l.length + m.length := List.length_append
    by_cases hr : l.length + m.length ≤ cap
    · have hrun := hroom g cap cur fz rfl hg (by omega) hr (by omega)
      have hgb : w.grownBy (w.setRow g (cur.toList.take l.length ++ Lib.byteCells m ++ cur.toList.drop (l.length + m.length)).toArray) (Value.slice (some ⟨g, 0, none⟩) l.length cap).ownBlock :=
        ⟨rfl, rfl, rfl, by simp, fun k _ hk => setRow_other w g k _ (fun e => hk (by simp [Value.ownBlock, e]))⟩
      refine ⟨_, _, hrun, .inr ⟨g, cap, _, fz, by rw [hlen2], hbg, setRow_heap w g cur _ _ _ hg, by omega, by omega, hcm, ?_, ?_⟩, (Below.refl _ _).grown hgb hbase (fun k hk => (hl0 k hk).1), hgb⟩
      · simp only [List.size_toArray, List.length_append, List.length_take, List.length_drop, Array.length_toList, Lib.byteCells_length]
        omega
      · rw [htake, ← Lib.byteCells_append, hlen2, ← hlen]
        exact List.take_left
    · have hcells : ∀ j u, (Lib.byteCells l)[j]? = some u → w.cell? ((⟨g, 0, none⟩ : Addr).add j) = some u := by
        intro j u hu
        rw [Addr.add_mid, Nat.zero_add, cell_of_row w g j cur _ fz hg]
        rw [← htake, List.getElem?_take] at hu
        split at hu
        · simpa using hu
        · cases hu
      have hrun := hgrow g cap rfl hcells (by omega)
      have hge := grownCap_ge w (l.length + m.length) cap 5
      have hcm2 : grownCap w (l.length + m.length) cap 5 ≤ maxLen := grownCap_le_maxLen w (l.length + m.length) cap 5 (by unfold maxLen; omega)
      have hgb : w.grownBy (w.drew.alloc (.cells ((Lib.byteCells l).toArray ++ (Lib.byteCells m).toArray ++ Builtin.zeroCells (Value.int .u8 0).cells (grownCap w (l.length + m.length) cap 5 - (l.length + m.length))) 5)) (Value.slice (some ⟨g, 0, none⟩) l.length cap).ownBlock :=
        ⟨rfl, rfl, rfl, by simp, fun k hk _ => heap_alloc_old w.drew _ hk⟩
      refine ⟨_, _, hrun, .inr ⟨w.heap.size, _, _, (0, 0), by rw [hlen2], hbase, heap_alloc_new w.drew _, .inl (Nat.zero_le _), by rw [hlen2]; exact hge, hcm2, ?_, ?_⟩, (Below.refl _ _).grown hgb hbase (fun k hk => (hl0 k hk).1), hgb⟩
      · have hz3 : (Value.int IntKind.u8 0).cells.size = 1 := rfl
        simp only [Array.size_append, List.size_toArray, size_zeroCells, hz3, Lib.byteCells_length]
        omega
      · simp only [Array.toList_append]
        rw [hlen2, ← hlen, Lib.byteCells_append]
        exact List.take_left

theorem infoB : ∃ i0, Tryd.prog.info? 5 = some i0 ∧ i0.zero = some (.int .u8 0) ∧ i0.size = 1 ∧ i0.bytes = 1 := info_parts infoU8'

/-- append(v, x...), x bytes in memory. -/
theorem own_append (v : Value) (l m : List UInt8) (p : Option Addr) (c : Nat) (w : World) (base : Nat) (ty : TypeId) (hown : OwnB w base v l) (hr : Rd w p m) (hbase : base ≤ w.heap.size) (h63 : l.length + m.length ≤ 140737488355328) :
    ∃ v' w', (Builtin.append_ #[48, 48] ty #[v, .slice p m.length c]).run Tryd.prog w = .ok v' w' ∧ OwnB w' base v' (l ++ m) ∧ Below base w w' ∧ w.grownBy w' v.ownBlock := by
  obtain ⟨i0, hi, hz0, hz1, hz2⟩ := infoB
  cases p with
  | none =>
    have hm : m = [] := by
      rcases hr with h | ⟨b, o, e, _⟩
      · exact h
      · cases e
    subst hm
    refine ⟨v, w, ?_, by rw [List.append_nil]; exact hown, Below.refl _ _, ⟨rfl, rfl, rfl, Nat.le_refl _, fun _ _ _ => rfl⟩⟩
    rcases hown with ⟨rfl, rfl⟩ | ⟨g, cap, cur, fz, rfl, hbg, hg, hfz, hnc, hcm, hcs, htake⟩
    · simp [Builtin.append_, run_underlying Tryd.underlying48, sizeOf, typeInfo, hi, Builtin.lenOf, Builtin.firstCells, storeCells]
    · simp [Builtin.append_, run_underlying Tryd.underlying48, sizeOf, typeInfo, hi, Builtin.lenOf, Builtin.firstCells, hnc, storeCells]
  | some a =>
    refine append_core v l m w base hown hbase h63 _ _ ty i0 hi hz0 hz1 hz2 ?_ ?_ ?_
    · intro hv
      subst hv
      have hl : l = [] := by
        rcases hown with ⟨_, h⟩ | ⟨g, cap, cur, fz, h, _⟩
        · exact h
        · cases h
      subst hl
      obtain ⟨v', w', r1, r2, r3, r4⟩ := run_append_own (P := Tryd.prog) w base 48 ty 5 i0 (.int .u8 0) 1 1 Tryd.underlying48 hi hz0 hz1 hz2 rfl (by decide) (.slice none 0 0) 0 [] ⟨by simp, .inl ⟨rfl, rfl⟩⟩ a m.length c (Lib.byteCells m) (by rw [Lib.byteCells_length, Nat.mul_one]) hr.cells (one_bytes' m) (by unfold maxLen; simp at h63; omega) (by simp at h63; omega) hbase
      exact ⟨v', w', r1, r2, r3⟩
    · intro g cap cur fz hv hg hfz hroom hfit
      subst hv
      have hf := run_firstCells_some (P := Tryd.prog) w 1 m.length a m.length c (Lib.byteCells m) (by rw [Lib.byteCells_length, Nat.mul_one]) hr.cells
      have hst := run_storeCells_atT Tryd.prog g l.length 5 fz (Lib.byteCells m) 0 cur w hg (by rw [Lib.byteCells_length]; simpa using hfz) (by rw [Lib.byteCells_length]; simpa using hfit) (one_bytes' m)
      simp only [Nat.add_zero, Lib.byteCells_length] at hst
      simp [Builtin.append_, run_underlying Tryd.underlying48, sizeOf, typeInfo, hi, hz1, Builtin.lenOf, hroom, hf, Addr.add_lit, hst]
    · intro g cap hv hc hcap
      subst hv
      have hlc : l.length ≤ cap := by
        rcases hown with ⟨h, _⟩ | ⟨g', cap', cur, fz, h, _, _, _, hn, _⟩
        · cases h
        · cases h; exact hn
      have hr := run_append_grow (P := Tryd.prog) w 48 ty 5 i0 (.int .u8 0) Tryd.underlying48 hi hz0 ⟨g, 0, none⟩ l.length cap (Lib.byteCells l) (by rw [Lib.byteCells_length, hz1, Nat.mul_one]) hc a m.length c (Lib.byteCells m) (by rw [Lib.byteCells_length, hz1, Nat.mul_one]) hr.cells (by omega) (by omega) (by rw [hz2]; exact growslice_fits (by omega) (by omega))
      exact hr

/-- append(v, s...), s a text. -/
theorem own_append_str (v : Value) (l : List UInt8) (s : ByteArray) (w : World) (base : Nat) (ty : TypeId) (hown : OwnB w base v l) (hbase : base ≤ w.heap.size) (h63 : l.length + s.size ≤ 140737488355328) :
    ∃ v' w', (Builtin.append_ #[48, 9] ty #[v, .string s]).run Tryd.prog w = .ok v' w' ∧ OwnB w' base v' (l ++ s.data.toList) ∧ Below base w w' ∧ w.grownBy w' v.ownBlock := by
  obtain ⟨i0, hi, hz0, hz1, hz2⟩ := infoB
  have hsl : s.data.toList.length = s.size := Array.length_toList
  have hsc : Lib.strCells s = Lib.byteCells s.data.toList := rfl
  refine append_core v l s.data.toList w base hown hbase (by omega) _ _ ty i0 hi hz0 hz1 hz2 ?_ ?_ ?_
  · intro hv
    subst hv
    have hl : l = [] := by
      rcases hown with ⟨_, h⟩ | ⟨g, cap, cur, fz, h, _⟩
      · exact h
      · cases h
    subst hl
    obtain ⟨v', w', r1, r2, r3, r4⟩ := Lib.run_append_own_string (P := Tryd.prog) w base 48 9 ty 5 i0 Tryd.underlying48 Tryd.underlying9 hi hz0 hz1 hz2 (.slice none 0 0) 0 [] ⟨by simp, .inl ⟨rfl, rfl⟩⟩ s (by unfold maxLen; simp at h63; omega) (by simp at h63; omega) hbase
    rw [hsl]
    exact ⟨v', w', r1, r2, r3⟩
  · intro g cap cur fz hv hg hfz hroom hfit
    subst hv
    rw [hsl] at hfz hroom hfit ⊢
    have hf := Lib.run_firstCells_string (P := Tryd.prog) w 1 s
    have hst := run_storeCells_atT Tryd.prog g l.length 5 fz (Lib.strCells s) 0 cur w hg (by rw [Lib.strCells_length]; simpa using hfz) (by rw [Lib.strCells_length]; simpa using hfit) (Lib.strCells_oneCell s)
    simp only [Nat.add_zero, Lib.strCells_length] at hst
    rw [← hsc]
    simp [Builtin.append_, run_underlying Tryd.underlying48, run_underlying Tryd.underlying9, sizeOf, typeInfo, hi, hz1, Builtin.lenOf, hroom, hf, Addr.add_lit, hst]
  · intro g cap hv hc hcap
    subst hv
    rw [hsl] at hcap ⊢
    have hlc : l.length ≤ cap := by
      rcases hown with ⟨h, _⟩ | ⟨g', cap', cur, fz, h, _, _, _, hn, _⟩
      · cases h
      · cases h; exact hn
    have hr := Lib.run_append_grow_string (P := Tryd.prog) w 48 9 ty 5 i0 (.int .u8 0) Tryd.underlying48 Tryd.underlying9 hi hz0 ⟨g, 0, none⟩ l.length cap (Lib.byteCells l) (by rw [Lib.byteCells_length, hz1, Nat.mul_one]) hc s (by omega) (by omega) (by rw [hz2]; exact growslice_fits (by omega) (by omega))
    exact hr

/-- The two, for a walk. -/
theorem wpList_append_B {ops : Array Oper} {rest : List Oper} {o : Oper} {a : Act} {w : World} {Q : Exit → Act → World → Prop} (hgd : o.guard = none) (s x : Operand)
    (ho : o.op = .call { callee := .builtin .append, args := #[s, x], argTypes := #[48, 48] }) (base : Nat) (v : Value) (l m : List UInt8) (p : Option Addr) (c : Nat) (hs : a.eval s = v) (hx : a.eval x = .slice p m.length c)
    (hown : OwnB w base v l) (hr : Rd w p m) (hbase : base ≤ w.heap.size) (h63 : l.length + m.length ≤ 140737488355328)
    (h : ∀ v' w', OwnB w' base v' (l ++ m) → Below base w w' → w.grownBy w' v.ownBlock → wpList Tryd.prog ops Q rest (a.put o.dst v') w') : wpList Tryd.prog ops Q (o :: rest) a w := by
  refine wpList_plain hgd fun K hK => ?_
  obtain ⟨v', w', hrun, h2, h3, h4⟩ := own_append v l m p c w base o.type hown hr hbase h63
  unfold Oper.wp execOp
  simp only [ho, resolve, invoke, builtin, Sem.run_bind, Sem.run_pure, Result.andThen_ok, List.map_toArray, List.map_cons, List.map_nil, hs, hx, hrun]
  exact hK _ _ (h v' w' h2 h3 h4)
theorem wpList_append_S {ops : Array Oper} {rest : List Oper} {o : Oper} {a : Act} {w : World} {Q : Exit → Act → World → Prop} (hgd : o.guard = none) (s x : Operand)
    (ho : o.op = .call { callee := .builtin .append, args := #[s, x], argTypes := #[48, 9] }) (base : Nat) (v : Value) (l : List UInt8) (t : ByteArray) (hs : a.eval s = v) (hx : a.eval x = .string t)
    (hown : OwnB w base v l) (hbase : base ≤ w.heap.size) (h63 : l.length + t.size ≤ 140737488355328)
    (h : ∀ v' w', OwnB w' base v' (l ++ t.data.toList) → Below base w w' → w.grownBy w' v.ownBlock → wpList Tryd.prog ops Q rest (a.put o.dst v') w') : wpList Tryd.prog ops Q (o :: rest) a w := by
  refine wpList_plain hgd fun K hK => ?_
  obtain ⟨v', w', hrun, h2, h3, h4⟩ := own_append_str v l t w base o.type hown hbase h63
  unfold Oper.wp execOp
  simp only [ho, resolve, invoke, builtin, Sem.run_bind, Sem.run_pure, Result.andThen_ok, List.map_toArray, List.map_cons, List.map_nil, hs, hx, hrun]
  exact hK _ _ (h v' w' h2 h3 h4)

/-- The two, as one step of a region that draws. -/
theorem step_append_B {ops : Array Oper} {o : Oper} {a : Act} {w : World} {K : Act → World → Prop} {Q : Exit → Act → World → Prop} {E : Prop} (hgd : o.guard = none) (s x : Operand)
    (ho : o.op = .call { callee := .builtin .append, args := #[s, x], argTypes := #[48, 48] }) (base : Nat) (v : Value) (l m : List UInt8) (p : Option Addr) (c : Nat) (hs : a.eval s = v) (hx : a.eval x = .slice p m.length c)
    (hown : OwnB w base v l) (hr : Rd w p m) (hbase : base ≤ w.heap.size) (h63 : l.length + m.length ≤ 140737488355328)
    (h : ∀ v' w', OwnB w' base v' (l ++ m) → Below base w w' → w.grownBy w' v.ownBlock → K (a.put o.dst v') w') : if Region.wanted o (yielded ops a.tmps) = true then Oper.wp Tryd.prog o a w K Q else E := by
  have hw : Region.wanted o (yielded ops a.tmps) = true := by simp [Region.wanted, hgd]
  rw [if_pos hw]
  obtain ⟨v', w', hrun, h2, h3, h4⟩ := own_append v l m p c w base o.type hown hr hbase h63
  unfold Oper.wp execOp
  simp only [ho, resolve, invoke, builtin, Sem.run_bind, Sem.run_pure, Result.andThen_ok, List.map_toArray, List.map_cons, List.map_nil, hs, hx, hrun]
  exact h v' w' h2 h3 h4
theorem step_append_S {ops : Array Oper} {o : Oper} {a : Act} {w : World} {K : Act → World → Prop} {Q : Exit → Act → World → Prop} {E : Prop} (hgd : o.guard = none) (s x : Operand)
    (ho : o.op = .call { callee := .builtin .append, args := #[s, x], argTypes := #[48, 9] }) (base : Nat) (v : Value) (l : List UInt8) (t : ByteArray) (hs : a.eval s = v) (hx : a.eval x = .string t)
    (hown : OwnB w base v l) (hbase : base ≤ w.heap.size) (h63 : l.length + t.size ≤ 140737488355328)
    (h : ∀ v' w', OwnB w' base v' (l ++ t.data.toList) → Below base w w' → w.grownBy w' v.ownBlock → K (a.put o.dst v') w') : if Region.wanted o (yielded ops a.tmps) = true then Oper.wp Tryd.prog o a w K Q else E := by
  have hw : Region.wanted o (yielded ops a.tmps) = true := by simp [Region.wanted, hgd]
  rw [if_pos hw]
  obtain ⟨v', w', hrun, h2, h3, h4⟩ := own_append_str v l t w base o.type hown hbase h63
  unfold Oper.wp execOp
  simp only [ho, resolve, invoke, builtin, Sem.run_bind, Sem.run_pure, Result.andThen_ok, List.map_toArray, List.map_cons, List.map_nil, hs, hx, hrun]
  exact h v' w' h2 h3 h4

/-- A block that a call lays ahead (an argument that is a struct): its cells stand in every later world. -/
theorem boxed (w : World) (cs : Array Value) (t : TypeId) : ∃ W0, w.alloc (.cells cs t) = W0 ∧ Grew w W0 ∧ Grew W0 W0 ∧ (∀ W, Grew W0 W → ∀ (j : Nat) v, cs[j]? = some v → W.cell? ⟨w.heap.size, j, none⟩ = some v) := by
  refine ⟨_, rfl, (Below.refl _ _).alloc (Nat.le_refl _) _, Below.refl _ _, fun W g j v hv => ?_⟩
  have h0 : (w.alloc (.cells cs t)).cell? ⟨w.heap.size, j, none⟩ = some v := by rw [cell_of_row _ _ _ _ _ (0, 0) (heap_alloc_new w _)]; exact hv
  exact (g.cell (World.block_lt_of_cell? _ _ h0)).trans h0
/-- Of such a block nothing is frozen. -/
theorem boxed_free {w W0 : World} {cs : Array Value} {t : TypeId} (h : w.alloc (.cells cs t) = W0) (W : World) (g : Grew W0 W) (j : Nat) : W.frozen? ⟨w.heap.size, j, none⟩ = false := by
  subst h
  have hb := heap_alloc_new w (.cells cs t)
  have hb2 := (g.block w.heap.size (Array.getElem?_eq_some_iff.1 hb).1).trans hb
  simp [World.frozen?, hb2]
/-- Bytes that lie in another block than the one that is written to. -/
theorem Rd.set {w : World} {q : Option Addr} {l : List UInt8} (h : Rd w q l) (p : Addr) (v : Value) (hne : ∀ a, q = some a → a.block ≠ p.block) : Rd (w.setCell p v) q l := by
  rcases h with h | ⟨b, o, rfl, hlt, hc⟩
  · exact .inl h
  · have hb := heap_setCell_other w p b v (hne _ rfl)
    refine .inr ⟨b, o, rfl, ?_, fun i hi => ?_⟩
    · have h1 : w.heap[b]? = some w.heap[b] := Array.getElem?_eq_getElem hlt
      rw [← hb] at h1
      exact (Array.getElem?_eq_some_iff.1 h1).1
    · rw [← hc i hi]
      simp only [World.cell?, hb]
theorem append_list (a b : ByteArray) : (a ++ b).data.toList = a.data.toList ++ b.data.toList := by
  rw [ByteArray.data_append]; simp

end Go.Proofs.YtkdmhflcpfekfaaDoor

/- Slices of values of several cells each, of whatever kind: read, made, appended to, written into. No function of the program. -/
namespace Go.Proofs.YtkdmhflcpfekfaaDoor
set_option linter.unusedVariables false
set_option linter.unusedSimpArgs false
open Go.RowKit
set_option maxRecDepth 100000

/-- A kind of values: their cells, as many of each; which are well made; the types' numbers, of an element and of a slice. -/
structure Kd (α : Type) where
  cells : α → List Value
  n : Nat
  ok : α → Prop
  E : TypeId
  T : TypeId
  zero : Value
  bytes : Nat
  hlen : ∀ x, ok x → (cells x).length = n
  hone : ∀ x, ∀ v ∈ cells x, v.oneCell' = true
  hn : 0 < n
  hn2 : n ≤ 1000
  hb : bytes ≤ 1024
  und : Tryd.prog.underlying T = some (.slice E)
  info : (Tryd.prog.info? E).map (fun i => (i.zero, i.size, i.bytes)) = some (some zero, n, bytes)
  hz : zero.cells.size = n

section
variable {α : Type} (K : Kd α)

theorem Kd.size (x : α) (h : K.ok x) : (Tryd.prog.info? K.E).map (·.size) = some (K.cells x).length := by
  obtain ⟨i0, hi, hz0, hz1, hz2⟩ := info_parts K.info
  rw [hi, K.hlen x h, Option.map_some, hz1]

/-- The cells of a list, in a row. -/
def Kd.row (l : List α) : List Value := l.flatMap K.cells
theorem row_len : ∀ (l : List α), (∀ x ∈ l, K.ok x) → (K.row l).length = l.length * K.n
  | [], _ => by simp [Kd.row]
  | x :: r, h => by
    have ih := row_len r (fun y hy => h y (by simp [hy]))
    unfold Kd.row at ih ⊢
    rw [List.flatMap_cons, List.length_append, K.hlen x (h x (by simp)), ih, List.length_cons, Nat.add_mul]
    omega
theorem row_get : ∀ (l : List α), (∀ x ∈ l, K.ok x) → ∀ (k : Nat) (x : α), l[k]? = some x → ∀ j, j < K.n → (K.row l)[k * K.n + j]? = (K.cells x)[j]?
  | [], _, k, x, h, _, _ => by simp at h
  | y :: r, h, k, x, hk, j, hj => by
    have hy := K.hlen y (h y (by simp))
    unfold Kd.row
    rw [List.flatMap_cons]
    cases k with
    | zero =>
      simp at hk
      subst hk
      rw [Nat.zero_mul, Nat.zero_add, List.getElem?_append_left (by omega)]
    | succ k =>
      rw [List.getElem?_cons_succ] at hk
      rw [List.getElem?_append_right (by rw [hy, Nat.add_mul]; omega), hy, show (k + 1) * K.n + j - K.n = k * K.n + j by rw [Nat.add_mul]; omega]
      exact row_get r (fun z hz => h z (by simp [hz])) k x hk j hj
theorem row_one (l : List α) : ∀ v ∈ K.row l, v.oneCell' = true := by
  intro v hv
  unfold Kd.row at hv
  rw [List.mem_flatMap] at hv
  obtain ⟨x, _, hx⟩ := hv
  exact K.hone x v hx
theorem row_app (l m : List α) : K.row (l ++ m) = K.row l ++ K.row m := by unfold Kd.row; rw [List.flatMap_append]
theorem row_snoc (l : List α) (x : α) : K.row (l ++ [x]) = K.row l ++ K.cells x := by rw [row_app]; simp [Kd.row]

/-- In memory: the slice at p holds l. -/
def RdG (w : World) (p : Option Addr) (l : List α) : Prop := l = [] ∨ ∃ b o, p = some ⟨b, o, none⟩ ∧ ∀ k x, l[k]? = some x → w.rangeAt b (o + k * K.n) (K.cells x)
variable {K}
theorem RdG.grew {w w' : World} {p : Option Addr} {l : List α} (h : RdG K w p l) (g : Grew w w') : RdG K w' p l := by
  rcases h with h | ⟨b, o, rfl, h⟩
  · exact .inl h
  · exact .inr ⟨b, o, rfl, fun k x hx => range_grew (h k x hx) g⟩
theorem RdG.pre {w : World} {p : Option Addr} {l m : List α} (h : RdG K w p (l ++ m)) : RdG K w p l := by
  rcases h with h | ⟨b, o, rfl, h⟩
  · exact .inl (List.append_eq_nil_iff.1 h).1
  · exact .inr ⟨b, o, rfl, fun k x hx => h k x (by rw [List.getElem?_append_left (List.getElem?_eq_some_iff.1 hx).1]; exact hx)⟩
theorem RdG.take {w : World} {p : Option Addr} {l : List α} (h : RdG K w p l) (k : Nat) : RdG K w p (l.take k) := by
  have := List.take_append_drop k l
  rw [← this] at h
  exact h.pre
theorem RdG.at {w : World} {p : Option Addr} {l : List α} (h : RdG K w p l) (h0 : 0 < l.length) : ∃ b o, p = some ⟨b, o, none⟩ ∧ ∀ k x, l[k]? = some x → w.rangeAt b (o + k * K.n) (K.cells x) := by
  rcases h with rfl | h
  · simp at h0
  · exact h
variable (K)
/-- A block that holds a list from its head on. -/
theorem rdG_block {w : World} {g : Nat} {cs : Array Value} {t : TypeId} {fz : Nat × Nat} {l : List α} (hg : w.heap[g]? = some (.cells cs t fz)) (hok : ∀ x ∈ l, K.ok x) (h : ∀ (i : Nat) (v : Value), (K.row l)[i]? = some v → cs[i]? = some v) : RdG K w (some ⟨g, 0, none⟩) l := by
  refine .inr ⟨g, 0, rfl, fun k x hx => fun j v hv => ?_⟩
  have hj : j < K.n := by have := (List.getElem?_eq_some_iff.1 hv).1; rw [K.hlen x (hok x (List.mem_of_getElem? hx))] at this; exact this
  have hg2 := row_get K l hok k x hx j hj
  rw [cell_of_row w g _ cs t fz hg, Nat.zero_add]
  exact h _ _ (hg2.trans hv)

/-- The slice v, made from base on, holds l. -/
def OwnG (w : World) (base : Nat) (v : Value) (l : List α) : Prop := (∀ x ∈ l, K.ok x) ∧ w.ownsRow base K.E K.n v l.length (K.row l)
theorem OwnG.nil (w : World) (base : Nat) : OwnG K w base (.slice none 0 0) [] := ⟨by simp, by simp [Kd.row], .inl ⟨rfl, rfl⟩⟩
variable {K}
theorem OwnG.lt {w : World} {base : Nat} {v : Value} {l : List α} (h : OwnG K w base v l) : ∀ k, v.ownBlock = some k → base ≤ k ∧ k < w.heap.size := by
  intro k hk
  rcases h.2.2 with ⟨rfl, _⟩ | ⟨g, cap, cur, rfl, hb, hg, _⟩
  · simp [Value.ownBlock] at hk
  · simp [Value.ownBlock] at hk
    subst hk
    exact ⟨hb, (Array.getElem?_eq_some_iff.1 hg).1⟩
theorem OwnG.below {w w' : World} {base : Nat} {v : Value} {l : List α} (h : OwnG K w base v l) (hb : Grew w w') : OwnG K w' base v l := by
  obtain ⟨h1, h2, h3⟩ := h
  refine ⟨h1, h2, ?_⟩
  rcases h3 with hn | ⟨g, cap, cur, rfl, hbs, hgg, rest⟩
  · exact .inl hn
  · exact .inr ⟨g, cap, cur, rfl, hbs, (hb.block g (Array.getElem?_eq_some_iff.1 hgg).1).trans hgg, rest⟩
theorem OwnG.base {w : World} {B C : Nat} {v : Value} {l : List α} (h : OwnG K w C v l) (hBC : B ≤ C) : OwnG K w B v l := by
  obtain ⟨h1, h2, h3⟩ := h
  refine ⟨h1, h2, ?_⟩
  rcases h3 with hn | ⟨g, cap, cur, rfl, hbs, rest⟩
  · exact .inl hn
  · exact .inr ⟨g, cap, cur, rfl, Nat.le_trans hBC hbs, rest⟩
theorem OwnG.set {w : World} {base : Nat} {v : Value} {l : List α} (h : OwnG K w base v l) (p : Addr) (u : Value) (hne : v.ownBlock ≠ some p.block) : OwnG K (w.setCell p u) base v l := by
  obtain ⟨h1, h2, h3⟩ := h
  refine ⟨h1, h2, ?_⟩
  rcases h3 with hn | ⟨g, cap, cur, rfl, hbs, hgg, rest⟩
  · exact .inl hn
  · exact .inr ⟨g, cap, cur, rfl, hbs, (heap_setCell_other w p g u (fun e => hne (by simp [Value.ownBlock, e]))).trans hgg, rest⟩
/-- Another block was turned. -/
theorem OwnG.kept {w w' : World} {base : Nat} {v : Value} {l : List α} {row : Option Nat} (h : OwnG K w base v l) (hg : w.grownBy w' row) (hne : v.ownBlock = none ∨ v.ownBlock ≠ row) : OwnG K w' base v l := by
  obtain ⟨h1, h2, h3⟩ := h
  refine ⟨h1, h2, ?_⟩
  rcases h3 with hn | ⟨g, cap, cur, rfl, hbs, hgg, rest⟩
  · exact .inl hn
  · refine .inr ⟨g, cap, cur, rfl, hbs, (hg.block g (Array.getElem?_eq_some_iff.1 hgg).1 (fun e => ?_)).trans hgg, rest⟩
    rcases hne with h | h
    · simp [Value.ownBlock] at h
    · exact h (by simpa [Value.ownBlock] using e)
theorem OwnG.val {w : World} {base : Nat} {v : Value} {l : List α} (h : OwnG K w base v l) : ∃ p cap, v = .slice p l.length cap ∧ RdG K w p l ∧ l.length ≤ cap ∧ (p = none → cap = 0) ∧ (∀ a, p = some a → base ≤ a.block ∧ a.block < w.heap.size) := by
  have hlt := h.lt
  obtain ⟨h1, h2, h3⟩ := h
  rcases h3 with ⟨rfl, h0⟩ | ⟨g, cap, cur, rfl, hb, hg, hnc, hcm, hcs, ht⟩
  · have : l = [] := List.eq_nil_of_length_eq_zero h0
    subst this
    exact ⟨none, 0, rfl, .inl rfl, Nat.le_refl _, fun _ => rfl, fun a ha => by cases ha⟩
  · refine ⟨_, cap, rfl, .inr ⟨g, 0, rfl, fun k x hx => fun j v hv => ?_⟩, hnc, (fun e => by cases e), fun a ha => by cases ha; exact hlt g rfl⟩
    have hj : j < K.n := by have := (List.getElem?_eq_some_iff.1 hv).1; rw [K.hlen x (h1 x (List.mem_of_getElem? hx))] at this; exact this
    have hg2 := row_get K l h1 k x hx j hj
    rw [hv, ← ht, List.getElem?_take] at hg2
    rw [cell_of_row w g _ cur _ (0, 0) hg, Nat.zero_add]
    split at hg2
    · simpa using hg2
    · cases hg2
variable (K)

theorem bytes_bound (n : Nat) (h : n ≤ 1073741824) : (n + 1) * K.bytes ≤ 140737488355328 := by
  have h1 := K.hb
  have h2 : (n + 1) * K.bytes ≤ 1073741825 * 1024 := Nat.mul_le_mul (by omega) h1
  omega

/-- append(v, x), its run. -/
theorem own_append_G (ty : TypeId) (w : World) (base : Nat) (v : Value) (l : List α) (x : α) (g : Nat) (hown : OwnG K w base v l) (hok : K.ok x) (hr : w.rangeAt g 0 (K.cells x)) (hbase : base ≤ w.heap.size) (h63 : l.length ≤ 1073741824) :
    ∃ v' w', (Builtin.append_ #[K.T, K.T] ty #[v, .slice (some ⟨g, 0, none⟩) 1 1]).run Tryd.prog w = .ok v' w' ∧ OwnG K w' base v' (l ++ [x]) ∧ Below base w w' ∧ w.grownBy w' v.ownBlock := by
  obtain ⟨i0, hi, hz0, hz1, hz2⟩ := info_parts K.info
  obtain ⟨v', w', h1, h2, h3, -⟩ := run_append_own (P := Tryd.prog) w base K.T ty K.E i0 K.zero K.n K.bytes K.und hi hz0 hz1 hz2 K.hz K.hn v l.length (K.row l) hown.2 ⟨g, 0, none⟩ 1 1 (K.cells x) (by rw [K.hlen x hok, Nat.one_mul])
    (fun j u hu => by rw [Addr.add_mid]; exact hr j u hu) (K.hone x) (by unfold maxLen; omega) (bytes_bound K _ h63) hbase
  refine ⟨v', w', h1, ⟨?_, ?_⟩, (Below.refl _ _).grown h3 hbase (fun k hk => (hown.lt k hk).1), h3⟩
  · intro y hy
    rw [List.mem_append] at hy
    rcases hy with hy | hy
    · exact hown.1 y hy
    · simp at hy; subst hy; exact hok
  · rw [show (l ++ [x]).length = l.length + 1 by simp, row_snoc]
    exact h2
theorem wpList_append_G {ops : Array Oper} {rest : List Oper} {o : Oper} {a : Act} {w : World} {Q : Exit → Act → World → Prop} (hgd : o.guard = none) (s x : Operand)
    (ho : o.op = .call { callee := .builtin .append, args := #[s, x], argTypes := #[K.T, K.T] }) (base : Nat) (v : Value) (l : List α) (i : α) (g : Nat) (hs : a.eval s = v) (hx : a.eval x = .slice (some ⟨g, 0, none⟩) 1 1)
    (hown : OwnG K w base v l) (hok : K.ok i) (hr : w.rangeAt g 0 (K.cells i)) (hbase : base ≤ w.heap.size) (h63 : l.length ≤ 1073741824)
    (h : ∀ v' w', OwnG K w' base v' (l ++ [i]) → Below base w w' → w.grownBy w' v.ownBlock → wpList Tryd.prog ops Q rest (a.put o.dst v') w') : wpList Tryd.prog ops Q (o :: rest) a w := by
  refine wpList_plain hgd fun L hL => ?_
  obtain ⟨v', w', hrun, h2, h3, h4⟩ := own_append_G K o.type w base v l i g hown hok hr hbase h63
  unfold Oper.wp execOp
  simp only [ho, resolve, invoke, builtin, Sem.run_bind, Sem.run_pure, Result.andThen_ok, List.map_toArray, List.map_cons, List.map_nil, hs, hx, hrun]
  exact hL _ _ (h v' w' h2 h3 h4)
theorem step_append_G {ops : Array Oper} {o : Oper} {a : Act} {w : World} {L : Act → World → Prop} {Q : Exit → Act → World → Prop} {E : Prop} (hgd : o.guard = none) (s x : Operand)
    (ho : o.op = .call { callee := .builtin .append, args := #[s, x], argTypes := #[K.T, K.T] }) (base : Nat) (v : Value) (l : List α) (i : α) (g : Nat) (hs : a.eval s = v) (hx : a.eval x = .slice (some ⟨g, 0, none⟩) 1 1)
    (hown : OwnG K w base v l) (hok : K.ok i) (hr : w.rangeAt g 0 (K.cells i)) (hbase : base ≤ w.heap.size) (h63 : l.length ≤ 1073741824)
    (h : ∀ v' w', OwnG K w' base v' (l ++ [i]) → Below base w w' → w.grownBy w' v.ownBlock → L (a.put o.dst v') w') : if Region.wanted o (yielded ops a.tmps) = true then Oper.wp Tryd.prog o a w L Q else E := by
  have hw : Region.wanted o (yielded ops a.tmps) = true := by simp [Region.wanted, hgd]
  rw [if_pos hw]
  obtain ⟨v', w', hrun, h2, h3, h4⟩ := own_append_G K o.type w base v l i g hown hok hr hbase h63
  unfold Oper.wp execOp
  simp only [ho, resolve, invoke, builtin, Sem.run_bind, Sem.run_pure, Result.andThen_ok, List.map_toArray, List.map_cons, List.map_nil, hs, hx, hrun]
  exact h v' w' h2 h3 h4

theorem fold_fill : ∀ (L : List Value) (k : Nat) (pre old : List Value), pre.length = k → old.length = L.length → ((L.zipIdx k).foldl (fun (cs : Array Value) (p : Value × Nat) => cs.setIfInBounds (0 + p.2) p.1) (pre ++ old).toArray) = (pre ++ L).toArray
  | [], k, pre, old, hk, hl => by
    have : old = [] := List.eq_nil_of_length_eq_zero hl
    subst this
    simp
  | x :: r, k, pre, old, hk, hl => by
    cases old with
    | nil => simp at hl
    | cons y q =>
      rw [List.zipIdx_cons, List.foldl_cons]
      have e : ((pre ++ y :: q).toArray.setIfInBounds (0 + k) x) = ((pre ++ [x]) ++ q).toArray := by
        apply Array.ext'
        rw [Array.toList_setIfInBounds, Nat.zero_add, List.set_append_right _ _ (by simp [hk]), hk, Nat.sub_self, List.set_cons_zero]
        simp
      show ((r.zipIdx (k + 1)).foldl _ ((pre ++ y :: q).toArray.setIfInBounds (0 + k) x)) = _
      rw [e, fold_fill r (k + 1) (pre ++ [x]) q (by simp [hk]) (by simpa using hl)]
      simp
/-- A slice that is written out, of one. -/
theorem run_slice_G (x : α) (hok : K.ok x) (w : World) : (Instr.buildSlice K.T 1 #[(0, .agg (K.cells x).toArray)]).run Tryd.prog w = .ok (.slice (some ⟨w.heap.size, 0, none⟩) 1 1) (w.alloc (.cells (K.cells x).toArray K.E)) := by
  obtain ⟨i0, hi, hz0, hz1, hz2⟩ := info_parts K.info
  have hl := K.hlen x hok
  have hp := K.hn
  have hp2 := K.hn2
  refine run_buildSlice w _ _ 1 _ _ i0 K.zero K.und hi hz0 (by rw [hz1]; omega) (by rw [hz1]; omega) ?_
  rw [hz1, Nat.one_mul]
  obtain ⟨C, hC⟩ : ∃ C : Array Value, (Array.range K.n).map (K.zero.cells[· % K.zero.cells.size]!) = C := ⟨_, rfl⟩
  have hCs : C.size = K.n := by rw [← hC]; simp
  rw [hC]
  simp only [Instr.fill, Nat.zero_mul, Value.cells]
  rw [if_neg (by simp [hl, hCs])]
  congr 1
  have h := fold_fill (K.cells x) 0 [] C.toList rfl (by rw [Array.length_toList, hCs, hl])
  simp only [List.nil_append, Array.toArray_toList] at h
  rw [← Array.foldl_toList]
  simpa using h

/-- A value in a block of its own. -/
theorem boxedG (w : World) (x : α) : ∃ W0, w.alloc (.cells (K.cells x).toArray K.E) = W0 ∧ Grew w W0 ∧ Grew W0 W0 ∧ (∀ W, Grew W0 W → W.rangeAt w.heap.size 0 (K.cells x)) := by
  obtain ⟨W0, hW0, g0, g00, hq⟩ := boxed w (K.cells x).toArray K.E
  refine ⟨W0, hW0, g0, g00, fun W g j v hv => ?_⟩
  rw [Nat.zero_add]
  exact hq W g j v (by simpa using hv)

/-- make([]T, 0, n). -/
theorem make_G (m : Nat) (hm : m ≤ 2147483648) (w : World) : ∃ C : Array Value, C.size = m * K.n ∧
    (Instr.makeSlice K.T (.int .i64 0) (.int .i64 (m : Int))).run Tryd.prog w = .ok (.slice (some ⟨w.heap.size, 0, none⟩) 0 m) (w.alloc (.cells C K.E)) := by
  obtain ⟨i0, hi, hz0, hz1, hz2⟩ := info_parts K.info
  have hb := K.hb
  have h := run_make (P := Tryd.prog) w K.T K.E i0 K.zero K.und hi hz0 .i64 .i64 0 (m : Int) (by omega) (by omega) (by
    rw [hz2]
    have h1 : K.bytes * m ≤ 1024 * 2147483648 := Nat.mul_le_mul hb hm
    omega) (by omega)
  exact ⟨_, by simp [madeCells, hz1], h⟩

/-- append(s, l...) where s has room. -/
theorem append_room_G (w : World) (g sCap : Nat) (cur : Array Value) (hg : w.heap[g]? = some (.cells cur K.E (0, 0))) (p : Option Addr) (l : List α) (c : Nat) (h : RdG K w p l) (hok : ∀ x ∈ l, K.ok x) (hroom : l.length ≤ sCap) (hcur : cur.size = sCap * K.n) :
    ∃ w', (Builtin.append_ #[K.T, K.T] K.T #[.slice (some ⟨g, 0, none⟩) 0 sCap, .slice p l.length c]).run Tryd.prog w = .ok (.slice (some ⟨g, 0, none⟩) l.length sCap) w' ∧
      w'.heap[g]? = some (.cells (K.row l ++ cur.toList.drop (l.length * K.n)).toArray K.E (0, 0)) ∧ w.grownBy w' (some g) ∧ w'.heap.size = w.heap.size := by
  obtain ⟨i0, hi, hz0, hz1, hz2⟩ := info_parts K.info
  have hlen := row_len K l hok
  have hpos := K.hn
  cases p with
  | none =>
    have hl : l = [] := by
      rcases h with h | ⟨b, o, e, _⟩
      · exact h
      · cases e
    subst hl
    refine ⟨w, ?_, ?_, ⟨rfl, rfl, rfl, Nat.le_refl _, fun _ _ _ => rfl⟩, rfl⟩
    · simp [Builtin.append_, run_underlying K.und, sizeOf, typeInfo, hi, Builtin.lenOf, Builtin.firstCells, storeCells]
    · rw [hg]; simp [Kd.row]
  | some ad =>
    have hnews : ∀ j u, (K.row l)[j]? = some u → w.cell? (ad.add j) = some u := by
      intro j u hu
      rcases h with rfl | ⟨b, o, e, hc⟩
      · simp [Kd.row] at hu
      cases e
      have hj := (List.getElem?_eq_some_iff.1 hu).1
      rw [hlen] at hj
      have hk : j / K.n < l.length := (Nat.div_lt_iff_lt_mul hpos).2 hj
      obtain ⟨x, hx⟩ : ∃ x, l[j / K.n]? = some x := ⟨_, List.getElem?_eq_getElem hk⟩
      have h1 := row_get K l hok (j / K.n) x hx (j % K.n) (Nat.mod_lt _ hpos)
      have hdm := Nat.div_add_mod' j K.n
      rw [hdm, hu] at h1
      have h2 := hc (j / K.n) x hx (j % K.n) u h1.symm
      rw [Addr.add_mid]
      rw [show o + j = o + j / K.n * K.n + j % K.n by omega]
      exact h2
    have hr := run_append_room (P := Tryd.prog) w K.T K.T K.E i0 K.und hi g 0 sCap cur hg ad l.length c (K.row l) (by rw [hz1, hlen]) hnews (row_one K l) (by omega) (by
      rw [hlen, hcur, Nat.zero_mul, Nat.zero_add]
      exact Nat.mul_le_mul_right _ hroom)
    simp only [Nat.zero_add, Nat.zero_mul, List.take_zero, List.nil_append] at hr
    refine ⟨_, hr, ?_, ⟨rfl, rfl, rfl, by simp, fun k _ hk => setRow_other w g k _ (fun e => hk (by simp [e]))⟩, by simp⟩
    rw [setRow_heap w g cur _ _ _ hg, hlen]

theorem run_storeVar_G {P : Program} (w : World) (g o : Nat) (ty t : TypeId) (old : Array Value) (cells : List Value) (hg : w.heap[g]? = some (.cells old t (0, 0))) (hfit : o + cells.length ≤ old.size) (hi : (P.info? ty).map (·.size) = some cells.length) (h1 : ∀ v ∈ cells, v.oneCell' = true) :
    (storeVar ty ⟨g, o, none⟩ (.agg cells.toArray)).run P w = .ok () (w.setRow g (old.toList.take o ++ cells ++ old.toList.drop (o + cells.length)).toArray) := by
  have hst := run_storeCells_at P g o t cells 0 old w hg (by simpa using hfit) h1
  simp only [Nat.add_zero] at hst
  cases hq : P.info? ty with
  | none => simp [hq] at hi
  | some i =>
    have hs : cells.length = i.size := by simp [hq] at hi; omega
    simp [storeVar, sizeOf, typeInfo, hq, Value.cells, hs.symm, hst]
/-- A row of several cells is written into a block. -/
theorem wpList_store_G {P : Program} {ops : Array Oper} {rest : List Oper} {op : Oper} {a : Act} {w : World} {Q : Exit → Act → World → Prop} (hgd : op.guard = none) (ty : TypeId) (x y : Operand) (ho : op.op = .store ty x y) (g o : Nat) (t : TypeId) (old : Array Value) (cells : List Value)
    (hx : a.eval x = .pointer (some ⟨g, o, none⟩)) (hy : a.eval y = .agg cells.toArray) (hg : w.heap[g]? = some (.cells old t (0, 0))) (hfit : o + cells.length ≤ old.size) (hi : (P.info? ty).map (·.size) = some cells.length) (h1 : ∀ v ∈ cells, v.oneCell' = true)
    (h : wpList P ops Q rest (a.put op.dst undef) (w.setRow g (old.toList.take o ++ cells ++ old.toList.drop (o + cells.length)).toArray)) : wpList P ops Q (op :: rest) a w := by
  refine wpList_plain hgd fun L hL => ?_
  unfold Oper.wp execOp
  simp only [ho, hx, hy, Instr.storeAt, Instr.sureAddr, Sem.run_bind, Sem.run_pure, Result.andThen_ok, run_storeVar_G w g o ty t old cells hg hfit hi h1]
  exact hL _ _ h

/-- The cells of a copy: the list, k times the filling, and what lay behind. -/
def ownG (l : List α) (f : α) (k : Nat) (z : List Value) : List Value := K.row l ++ (K.row (List.replicate k f) ++ z.drop (k * K.n))
theorem ownG_len (l : List α) (f : α) (k : Nat) (z : List Value) (hl : ∀ x ∈ l, K.ok x) (hf : K.ok f) (hz : z.length = 3 * K.n) (hk : k ≤ 3) : (ownG K l f k z).length = (l.length + 3) * K.n := by
  have h1 := row_len K l hl
  have h2 := row_len K (List.replicate k f) (fun x hx => by rw [List.eq_of_mem_replicate hx]; exact hf)
  rw [List.length_replicate] at h2
  unfold ownG
  have h3 : k * K.n ≤ 3 * K.n := Nat.mul_le_mul_right _ hk
  simp only [List.length_append, List.length_drop, h1, h2, hz, Nat.add_mul]
  omega
theorem ownG_next (l : List α) (f : α) {k : Nat} (z : List Value) (hl : ∀ x ∈ l, K.ok x) (hf : K.ok f) (hz : z.length = 3 * K.n) (hk : k < 3) :
    ((ownG K l f k z).toArray.toList.take ((l.length + k) * K.n) ++ K.cells f ++ (ownG K l f k z).toArray.toList.drop ((l.length + k) * K.n + (K.cells f).length)) = ownG K l f (k + 1) z := by
  have h1 := row_len K l hl
  have h2 := row_len K (List.replicate k f) (fun x hx => by rw [List.eq_of_mem_replicate hx]; exact hf)
  rw [List.length_replicate] at h2
  have hc := K.hlen f hf
  have e1 : ownG K l f k z = (K.row l ++ K.row (List.replicate k f)) ++ z.drop (k * K.n) := by unfold ownG; rw [List.append_assoc]
  have hlen : (K.row l ++ K.row (List.replicate k f)).length = (l.length + k) * K.n := by rw [List.length_append, h1, h2, Nat.add_mul]
  rw [List.toList_toArray, e1, List.take_append_of_le_length (by omega), List.take_of_length_le (by omega), List.drop_append, List.drop_of_length_le (by omega), List.nil_append, hlen, hc, show (l.length + k) * K.n + K.n - (l.length + k) * K.n = K.n by omega, List.drop_drop]
  unfold ownG
  rw [List.replicate_succ', row_snoc, show (k + 1) * K.n = k * K.n + K.n by rw [Nat.add_mul]; omega]
  simp [Nat.add_comm]

/-- How two of a kind are held against each other. -/
structure KdEq (K : Kd α) where
  eqv : α → α → Bool
  iff : ∀ a b, eqv a b = true ↔ a = b
  eql : ∀ a b, K.ok a → K.ok b → ∀ w, (binOp .eql K.E (.agg (K.cells a).toArray) (.agg (K.cells b).toArray)).run Tryd.prog w = .ok (.bool (eqv a b)) w
  neq : ∀ a b, K.ok a → K.ok b → ∀ w, (binOp .neq K.E (.agg (K.cells a).toArray) (.agg (K.cells b).toArray)).run Tryd.prog w = .ok (.bool (!(eqv a b))) w
  guard : ∀ (op : BinOp) (x y : Operand) a b w, (eqGuard op K.E x y (.agg (K.cells a).toArray) (.agg (K.cells b).toArray)).run Tryd.prog w = .ok () w
theorem KdEq.refl {K : Kd α} (Q : KdEq K) (a : α) : Q.eqv a a = true := (Q.iff a a).2 rfl

end
end Go.Proofs.YtkdmhflcpfekfaaDoor

/- A place of a slice that the call made itself is written anew. No function of the program. -/
namespace Go.Proofs.YtkdmhflcpfekfaaDoor
set_option linter.unusedVariables false
set_option linter.unusedSimpArgs false
open Go.RowKit

variable {α : Type} {K : Kd α}
theorem row_set (l : List α) (hl : ∀ x ∈ l, K.ok x) (k : Nat) (hk : k < l.length) (x : α) (hx : K.ok x) : (K.row l).take (k * K.n) ++ K.cells x ++ (K.row l).drop (k * K.n + (K.cells x).length) = K.row (l.set k x) := by
  have hc := K.hlen x hx
  obtain ⟨y, hy⟩ : ∃ y, l[k]? = some y := ⟨_, List.getElem?_eq_getElem hk⟩
  have hsp : l = l.take k ++ y :: l.drop (k + 1) := by
    conv => lhs; rw [← List.take_append_drop k l, List.drop_eq_getElem_cons hk]
    rw [(List.getElem?_eq_some_iff.1 hy).2]
  have h1 : (K.row (l.take k)).length = k * K.n := by
    rw [row_len K _ (fun z hz => hl z (List.mem_of_mem_take hz)), List.length_take]
    congr 1
    omega
  have hyc := K.hlen y (hl y (List.mem_of_getElem? hy))
  have h2 : K.row l = K.row (l.take k) ++ (K.cells y ++ K.row (l.drop (k + 1))) := by
    conv => lhs; rw [hsp]
    rw [row_app]
    rfl
  have h3 : l.set k x = l.take k ++ x :: l.drop (k + 1) := by
    rw [List.set_eq_take_append_cons_drop, if_pos hk]
  rw [h2, h3, row_app, hc, List.take_left' h1, List.drop_append, List.drop_of_length_le (by omega), List.nil_append, h1, show k * K.n + K.n - k * K.n = K.n by omega, List.drop_left' hyc, List.append_assoc]
  rfl
theorem OwnG.store {w : World} {base g cap : Nat} {l : List α} (h : OwnG K w base (.slice (some ⟨g, 0, none⟩) l.length cap) l) (k : Nat) (hk : k < l.length) (x : α) (hx : K.ok x) :
    ∃ cur, w.heap[g]? = some (.cells cur K.E (0, 0)) ∧ k * K.n + (K.cells x).length ≤ cur.size ∧ OwnG K (w.setRow g (cur.toList.take (k * K.n) ++ K.cells x ++ cur.toList.drop (k * K.n + (K.cells x).length)).toArray) base (.slice (some ⟨g, 0, none⟩) l.length cap) (l.set k x) := by
  obtain ⟨h1, h2, h3⟩ := h
  rcases h3 with ⟨hv, _⟩ | ⟨g', cap', cur, hv, hb, hg, hnc, hcm, hcs, ht⟩
  · cases hv
  simp only [Value.slice.injEq, Option.some.injEq, Addr.mk.injEq, and_true, true_and] at hv
  obtain ⟨rfl, rfl⟩ := hv
  have hc := K.hlen x hx
  have hle : k * K.n + K.n ≤ l.length * K.n := by
    have := Nat.mul_le_mul_right K.n (show k + 1 ≤ l.length from hk)
    rw [Nat.add_mul, Nat.one_mul] at this
    exact this
  have hle2 : l.length * K.n ≤ cap * K.n := Nat.mul_le_mul_right _ hnc
  have hsz : k * K.n + (K.cells x).length ≤ cur.size := by rw [hc, hcs]; omega
  refine ⟨cur, hg, hsz, fun y hy => ?_, ?_, .inr ⟨g, cap, _, by rw [List.length_set], hb, setRow_heap w g cur _ _ _ hg, by rw [List.length_set]; exact hnc, hcm, ?_, ?_⟩⟩
  · rcases List.mem_or_eq_of_mem_set hy with h | h
    · exact h1 y h
    · subst h; exact hx
  · rw [List.length_set, row_len K]
    · rw [List.length_set]
    · intro y hy
      rcases List.mem_or_eq_of_mem_set hy with h | h
      · exact h1 y h
      · subst h; exact hx
  · have hcl : cur.toList.length = cur.size := Array.length_toList
    rw [List.size_toArray, List.length_append, List.length_append, List.length_take, List.length_drop, hc, hcl, hcs]
    omega
  · rw [List.length_set, ← row_set l h1 k hk x hx, ← ht, hc]
    have hcl : cur.toList.length = cur.size := Array.length_toList
    rw [List.toList_toArray, List.take_take, Nat.min_eq_left (by omega), List.drop_take]
    have e1 : (cur.toList.take (k * K.n) ++ K.cells x).length = k * K.n + K.n := by rw [List.length_append, List.length_take, hc, hcl]; omega
    rw [List.take_append, List.take_of_length_le (by omega), e1]

theorem OwnG.form {w : World} {base : Nat} {v : Value} {l : List α} (h : OwnG K w base v l) (hn : 0 < l.length) : ∃ g cap, v = .slice (some ⟨g, 0, none⟩) l.length cap ∧ base ≤ g ∧ g < w.heap.size ∧ l.length ≤ cap := by
  have hlt := h.lt
  obtain ⟨h1, h2, h3⟩ := h
  rcases h3 with ⟨rfl, h0⟩ | ⟨g, cap, cur, rfl, hb, hg, hnc, hcm, hcs, ht⟩
  · omega
  · exact ⟨g, cap, rfl, hb, (hlt g rfl).2, hnc⟩
theorem OwnG.range {w : World} {base g cap : Nat} {l : List α} (h : OwnG K w base (.slice (some ⟨g, 0, none⟩) l.length cap) l) {k : Nat} {x : α} (hx : l[k]? = some x) : w.rangeAt g (k * K.n) (K.cells x) := by
  obtain ⟨p, c, hv, hr, hc, -⟩ := h.val
  cases hv
  rcases hr with rfl | ⟨b, o, e, hr⟩
  · simp at hx
  · cases e
    have := hr k x hx
    rwa [Nat.zero_add] at this

end Go.Proofs.YtkdmhflcpfekfaaDoor

/- Plain functions for layer 1 (hexa): digits of 16 and of 10, and how they are read back; no Go and no memory. -/
namespace Go.Proofs.YtkdmhflcpfekfaaDoor.Pure
set_option linter.unusedVariables false
set_option linter.unusedSimpArgs false

/-- A digit of 16. -/
def hexDigit (n : Nat) : UInt8 := if n < 10 then UInt8.ofNat (48 + n) else UInt8.ofNat (87 + n)

/-- Bytes as digits of 16. -/
def hex : List UInt8 → List UInt8
  | [] => []
  | c :: r => hexDigit (c.toNat / 16) :: hexDigit (c.toNat % 16) :: hex r

theorem hex_append (a b : List UInt8) : hex (a ++ b) = hex a ++ hex b := by
  induction a with
  | nil => rfl
  | cons c r ih => simp [hex, ih]

theorem hex_length (a : List UInt8) : (hex a).length = 2 * a.length := by
  induction a with
  | nil => rfl
  | cons c r ih => simp [hex, ih]; omega

/-- What a digit of 16 says. -/
def val (c : UInt8) : Option Nat :=
  if 48 ≤ c.toNat ∧ c.toNat ≤ 57 then some (c.toNat - 48) else if 97 ≤ c.toNat ∧ c.toNat ≤ 102 then some (c.toNat - 87) else none

/-- The bytes that digits say, the upper half of a byte at hand or not. -/
def unhexA : Option Nat → List UInt8 → Option (List UInt8)
  | none, [] => some []
  | some _, [] => none
  | none, c :: r => (val c).bind fun v => unhexA (some v) r
  | some u, c :: r => (val c).bind fun v => (unhexA none r).map (UInt8.ofNat (16 * u + v) :: ·)

/-- The bytes that digits of 16 say. -/
def unhex (l : List UInt8) : Option (List UInt8) := unhexA none l

theorem val_lt {c : UInt8} {v : Nat} (h : val c = some v) : v < 16 := by
  unfold val at h
  split at h
  · simp at h; omega
  · split at h
    · simp at h; omega
    · simp at h

theorem unhexA_length : ∀ (l : List UInt8) (u : Option Nat) (r : List UInt8), unhexA u l = some r → 2 * r.length = l.length + (if u.isSome then 1 else 0)
  | [], none, r, h => by simp [unhexA] at h; subst h; rfl
  | [], some _, r, h => by simp [unhexA] at h
  | c :: t, none, r, h => by
    simp only [unhexA, Option.bind_eq_some_iff] at h
    obtain ⟨v, _, h⟩ := h
    have := unhexA_length t (some v) r h
    simp at this ⊢
    omega
  | c :: t, some u, r, h => by
    simp only [unhexA, Option.bind_eq_some_iff, Option.map_eq_some_iff] at h
    obtain ⟨v, _, r', h, rfl⟩ := h
    have := unhexA_length t none r' h
    simp at this ⊢
    omega

theorem unhex_odd (l : List UInt8) (h : l.length % 2 = 1) : unhex l = none := by
  cases e : unhex l with
  | none => rfl
  | some r => have := unhexA_length l none r e; simp at this; omega

theorem unhex_length {l r : List UInt8} (h : unhex l = some r) : 2 * r.length = l.length := by
  have := unhexA_length l none r h
  simpa using this

end Go.Proofs.YtkdmhflcpfekfaaDoor.Pure

/- Plain laws of layer 1 (hexa): what is written is read, what is read is written so; no Go and no memory. -/
namespace Go.Proofs.YtkdmhflcpfekfaaDoor.Pure

theorem val_hexDigit : ∀ n : Nat, n < 16 → val (hexDigit n) = some n := by decide

theorem hexDigit_val {c : UInt8} {v : Nat} (h : val c = some v) : hexDigit v = c := by
  unfold val at h
  split at h
  · rename_i hc
    simp at h
    subst h
    unfold hexDigit
    rw [if_pos (by omega)]
    apply UInt8.toNat_inj.1
    rw [UInt8.toNat_ofNat']
    omega
  · split at h
    · rename_i hc
      simp at h
      subst h
      unfold hexDigit
      rw [if_neg (by omega)]
      apply UInt8.toNat_inj.1
      rw [UInt8.toNat_ofNat']
      omega
    · simp at h

theorem unhex_hex (l : List UInt8) : unhex (hex l) = some l := by
  induction l with
  | nil => rfl
  | cons c r ih =>
    have hc := c.toNat_lt
    have h1 := val_hexDigit (c.toNat / 16) (by omega)
    have h2 := val_hexDigit (c.toNat % 16) (by omega)
    unfold unhex at ih
    simp only [unhex, hex, unhexA, h1, h2, Option.bind_some, ih, Option.map_some]
    congr 2
    apply UInt8.toNat_inj.1
    rw [UInt8.toNat_ofNat']
    omega

theorem hex_unhexA : ∀ (s : List UInt8) (r : List UInt8), (unhexA none s = some r → hex r = s) ∧ ∀ u, u < 16 → unhexA (some u) s = some r → hex r = hexDigit u :: s
  | [], r => by
    refine ⟨fun h => ?_, fun u _ h => ?_⟩
    · simp [unhexA] at h; subst h; rfl
    · simp [unhexA] at h
  | c :: s, r => by
    refine ⟨fun h => ?_, fun u hu h => ?_⟩
    · simp only [unhexA, Option.bind_eq_some_iff] at h
      obtain ⟨v, hv, h⟩ := h
      have := (hex_unhexA s r).2 v (val_lt hv) h
      rw [this, hexDigit_val hv]
    · simp only [unhexA, Option.bind_eq_some_iff, Option.map_eq_some_iff] at h
      obtain ⟨v, hv, r', h, rfl⟩ := h
      have ih := (hex_unhexA s r').1 h
      have hv16 := val_lt hv
      have hn : (UInt8.ofNat (16 * u + v)).toNat = 16 * u + v := by rw [UInt8.toNat_ofNat']; omega
      simp only [hex, hn, ih]
      rw [show (16 * u + v) / 16 = u by omega, show (16 * u + v) % 16 = v by omega, hexDigit_val hv]

theorem hex_unhex {s r : List UInt8} (h : unhex s = some r) : hex r = s := (hex_unhexA s r).1 h

theorem unhex_none_of_bad (s : List UInt8) (i : Nat) (c : UInt8) (h : s[i]? = some c) (hc : val c = none) : unhex s = none := by
  have key : ∀ (s : List UInt8) (i : Nat) (u : Option Nat), s[i]? = some c → unhexA u s = none := by
    intro s
    induction s with
    | nil => intro i u h; simp at h
    | cons x s ih =>
      intro i u h
      cases i with
      | zero =>
        simp at h
        subst h
        cases u <;> simp [unhexA, hc]
      | succ i =>
        have h' : s[i]? = some c := by simpa using h
        cases u with
        | none =>
          simp only [unhexA]
          cases hv : val x with
          | none => rfl
          | some v => simpa using ih i (some v) h'
        | some u =>
          simp only [unhexA]
          cases hv : val x with
          | none => rfl
          | some v => simp [ih i none h']
  exact key s i none h

end Go.Proofs.YtkdmhflcpfekfaaDoor.Pure

/- A text cut at the first of a byte. Plain: no program in sight. -/
namespace Go.Proofs.YtkdmhflcpfekfaaDoor.Pure

/-- What stands ahead of the first c, and behind it. -/
def cutC (c : UInt8) : List UInt8 → Option (List UInt8 × List UInt8)
  | [] => none
  | b :: r => if b = c then some ([], r) else (cutC c r).map fun x => (b :: x.1, x.2)
theorem cutC_none (c : UInt8) : ∀ (l : List UInt8), cutC c l = none ↔ ∀ b ∈ l, b ≠ c
  | [] => by simp [cutC]
  | b :: r => by
    unfold cutC
    by_cases h : b = c
    · rw [if_pos h]; simp [h]
    · rw [if_neg h, Option.map_eq_none_iff, cutC_none c r]; simp [h]
theorem cutC_some (c : UInt8) : ∀ (l a b : List UInt8), cutC c l = some (a, b) ↔ l = a ++ c :: b ∧ ∀ d ∈ a, d ≠ c
  | [], a, b => by simp [cutC]
  | x :: r, a, b => by
    unfold cutC
    by_cases h : x = c
    · rw [if_pos h]
      subst h
      constructor
      · intro e; cases e; exact ⟨rfl, by simp⟩
      · rintro ⟨e, hn⟩
        cases a with
        | nil => simp at e; rw [e]
        | cons y a => simp at e; exact absurd e.1.symm (hn y (by simp))
    · rw [if_neg h, Option.map_eq_some_iff]
      constructor
      · rintro ⟨⟨y, z⟩, hyz, e⟩
        obtain ⟨h1, h2⟩ := (cutC_some c r y z).1 hyz
        simp only [Prod.mk.injEq] at e
        obtain ⟨rfl, rfl⟩ := e
        exact ⟨by rw [h1]; rfl, by simp only [List.mem_cons, forall_eq_or_imp]; exact ⟨h, h2⟩⟩
      · rintro ⟨e, hn⟩
        cases a with
        | nil => simp at e; exact absurd e.1 h
        | cons y a =>
          simp at e
          exact ⟨(a, b), (cutC_some c r a b).2 ⟨e.2, fun d hd => hn d (by simp [hd])⟩, by simp [e.1]⟩
theorem cutC_app (c : UInt8) (a b : List UInt8) (h : ∀ d ∈ a, d ≠ c) : cutC c (a ++ c :: b) = some (a, b) := (cutC_some c _ _ _).2 ⟨rfl, h⟩
theorem cutC_len {c : UInt8} {l a b : List UInt8} (h : cutC c l = some (a, b)) : a.length + b.length + 1 = l.length := by
  rw [((cutC_some c l a b).1 h).1]; simp; omega

theorem cut_one (l : List UInt8) (c : UInt8) : Lib.cut l [c] = match cutC c l with | some (a, b) => (a, b, true) | none => (l, [], false) := by
  unfold Lib.cut
  rw [Lib.index_one]
  by_cases h0 : 0 ≤ Lib.indexByte l c
  · obtain ⟨i, hi⟩ := Int.eq_ofNat_of_zero_le h0
    obtain ⟨h1, h2⟩ := Lib.indexByte_some hi
    have hlt : i < l.length := (List.getElem?_eq_some_iff.1 h1).1
    have hd : l.drop i = c :: l.drop (i + 1) := by rw [List.drop_eq_getElem_cons hlt, (List.getElem?_eq_some_iff.1 h1).2]
    have hcut : cutC c l = some (l.take i, l.drop (i + 1)) := by
      rw [cutC_some]
      refine ⟨by conv => lhs; rw [← List.take_append_drop i l, hd], ?_⟩
      intro d hdm e
      subst e
      obtain ⟨j, hj⟩ := List.mem_iff_getElem?.1 hdm
      rw [List.getElem?_take] at hj
      split at hj
      · rename_i hji; exact h2 j hji hj
      · cases hj
    rw [if_pos h0, hcut, hi]
    rfl
  · have hcut : cutC c l = none := by
      rw [cutC_none]
      intro d hd e
      subst e
      have h1 : -1 ≤ Lib.indexByte l d := by rw [← Lib.index_one]; exact Lib.index_ge _ _
      obtain ⟨j, hj⟩ := List.mem_iff_getElem?.1 hd
      exact Lib.indexByte_none (show Lib.indexByte l d = -1 by omega) j hj
    rw [if_neg h0, hcut]

end Go.Proofs.YtkdmhflcpfekfaaDoor.Pure

/- Pairs of texts (extras and copies) as values, in memory, held against each other; slices of them. No function of the program. -/
namespace Go.Proofs.YtkdmhflcpfekfaaDoor
set_option linter.unusedVariables false
set_option linter.unusedSimpArgs false
open Go.RowKit

/-- Two texts. -/
structure Two where
  a : ByteArray
  b : ByteArray
abbrev Two.p (x : Two) : List UInt8 := x.a.data.toList
abbrev Two.q (x : Two) : List UInt8 := x.b.data.toList
def Two.cells (x : Two) : List Value := [.string x.a, .string x.b]
theorem Two.one (x : Two) : ∀ v ∈ x.cells, v.oneCell' = true := by
  intro v hv
  unfold Two.cells at hv
  simp only [List.mem_cons, List.not_mem_nil, or_false] at hv
  rcases hv with rfl | rfl <;> rfl
/-- Where the parts lie. -/
theorem two_range {w : World} {b o : Nat} {x : Two} (h : w.rangeAt b o x.cells) : w.cell? ⟨b, o, none⟩ = some (.string x.a) ∧ w.cell? ⟨b, o + 1, none⟩ = some (.string x.b) :=
  ⟨by have := h 0 _ rfl; rwa [Nat.add_zero] at this, h 1 _ rfl⟩
theorem two_ext {n n' : ByteArray} (h : n.toList = n'.toList) : n = n' := by
  rw [ByteArray.toList_eq, ByteArray.toList_eq] at h
  cases n with | mk n => cases n' with | mk n' => exact congrArg ByteArray.mk (Array.toList_inj.1 h)
theorem Two.ext' {x y : Two} (h1 : x.p = y.p) (h2 : x.q = y.q) : x = y := by
  obtain ⟨n, m⟩ := x
  obtain ⟨n', m'⟩ := y
  have e1 : n = n' := two_ext (by rw [ByteArray.toList_eq, ByteArray.toList_eq]; exact h1)
  have e2 : m = m' := two_ext (by rw [ByteArray.toList_eq, ByteArray.toList_eq]; exact h2)
  rw [e1, e2]

/-- Are two alike? -/
def eqW (x y : Two) : Bool := x.a.toList == y.a.toList && x.b.toList == y.b.toList
theorem eqW_iff (x y : Two) : eqW x y = true ↔ x = y := by
  unfold eqW
  simp only [Bool.and_eq_true, beq_iff_eq]
  constructor
  · rintro ⟨h1, h2⟩
    obtain ⟨n, m⟩ := x
    obtain ⟨n', m'⟩ := y
    have e1 : n = n' := two_ext h1
    have e2 : m = m' := two_ext h2
    rw [e1, e2]
  · rintro rfl; exact ⟨rfl, rfl⟩
theorem part_a (i : Two) (w : World) : (part 9 i.cells.toArray 0).run Tryd.prog w = .ok (.string i.a) w := by
  simp [part, go_sem, Two.cells]
theorem part_b (i : Two) (w : World) : (part 9 i.cells.toArray 1).run Tryd.prog w = .ok (.string i.b) w := by
  simp [part, go_sem, Two.cells]
theorem fieldsOf_ofW {P : Program} {t : TypeId} {fs : Array Field} (h : P.underlying t = some (.struct (P.fieldsOf t))) (h2 : P.underlying t = some (.struct fs)) : P.fieldsOf t = fs := by
  rw [h] at h2
  exact TypeDesc.struct.inj (Option.some.inj h2)

theorem heldExtra : Tryd.prog.stoodInHeld 28 = false := by kernel_rfl
theorem fieldsExtra : Tryd.prog.underlying 28 = some (.struct (Tryd.prog.fieldsOf 28)) := by kernel_rfl
theorem run_eqExtra (a b : Two) (w : World) :
    (Op.equalIn 10000 28 (.agg a.cells.toArray) (.agg b.cells.toArray)).run Tryd.prog w = .ok (eqW a b) w := by
  rw [run_equalIn_struct w 9999 _ _ _ fieldsExtra heldExtra, fieldsOf_ofW fieldsExtra Tryd.underlying28]
  have e1 := fun w => run_equalIn_string (P := Tryd.prog) w 9998 9 a.a b.a Tryd.underlying9
  have e2 := fun w => run_equalIn_string (P := Tryd.prog) w 9998 9 a.b b.b Tryd.underlying9
  simp only [Nat.reduceAdd] at e1 e2
  simp only [Op.eqFields, Sem.run_bind, part_a, part_b, Result.andThen_ok, e1, e2, ne_eq, String.reduceEq, not_false_eq_true, if_true, Sem.run_ite, Sem.run_pure]
  unfold eqW
  cases (a.a.toList == b.a.toList) <;> cases (a.b.toList == b.b.toList) <;> rfl
theorem extraEqGuard : Tryd.prog.eqGuardType Tryd.prog.depth 28 = false := by kernel_rfl
def kExtra : Kd Two where
  cells := Two.cells
  n := 2
  ok := fun _ => True
  E := 28
  T := 22
  zero := .agg #[.string ⟨#[]⟩, .string ⟨#[]⟩]
  bytes := 32
  hlen := fun _ _ => rfl
  hone := fun x => x.one
  hn := by decide
  hn2 := by decide
  hb := by decide
  und := Tryd.underlying22
  info := by kernel_rfl
  hz := rfl
def kExtraEq : KdEq kExtra where
  eqv := eqW
  iff := eqW_iff
  eql := fun a b ha hb w => by
    show (binOp .eql 28 (.agg a.cells.toArray) (.agg b.cells.toArray)).run Tryd.prog w = .ok (.bool (eqW a b)) w
    rw [run_eql_struct, run_eqExtra a b]; rfl
  neq := fun a b ha hb w => by
    show (binOp .neq 28 (.agg a.cells.toArray) (.agg b.cells.toArray)).run Tryd.prog w = .ok (.bool (!(eqW a b))) w
    rw [run_neq_struct, run_eqExtra a b]; rfl
  guard := fun op x y a b w => run_eqGuard_agg w op _ x y _ _ extraEqGuard

theorem heldCopy : Tryd.prog.stoodInHeld 31 = false := by kernel_rfl
theorem fieldsCopy : Tryd.prog.underlying 31 = some (.struct (Tryd.prog.fieldsOf 31)) := by kernel_rfl
theorem run_eqCopy (a b : Two) (w : World) :
    (Op.equalIn 10000 31 (.agg a.cells.toArray) (.agg b.cells.toArray)).run Tryd.prog w = .ok (eqW a b) w := by
  rw [run_equalIn_struct w 9999 _ _ _ fieldsCopy heldCopy, fieldsOf_ofW fieldsCopy Tryd.underlying31]
  have e1 := fun w => run_equalIn_string (P := Tryd.prog) w 9998 9 a.a b.a Tryd.underlying9
  have e2 := fun w => run_equalIn_string (P := Tryd.prog) w 9998 9 a.b b.b Tryd.underlying9
  simp only [Nat.reduceAdd] at e1 e2
  simp only [Op.eqFields, Sem.run_bind, part_a, part_b, Result.andThen_ok, e1, e2, ne_eq, String.reduceEq, not_false_eq_true, if_true, Sem.run_ite, Sem.run_pure]
  unfold eqW
  cases (a.a.toList == b.a.toList) <;> cases (a.b.toList == b.b.toList) <;> rfl
theorem copyEqGuard : Tryd.prog.eqGuardType Tryd.prog.depth 31 = false := by kernel_rfl
def kCopy : Kd Two where
  cells := Two.cells
  n := 2
  ok := fun _ => True
  E := 31
  T := 23
  zero := .agg #[.string ⟨#[]⟩, .string ⟨#[]⟩]
  bytes := 32
  hlen := fun _ _ => rfl
  hone := fun x => x.one
  hn := by decide
  hn2 := by decide
  hb := by decide
  und := Tryd.underlying23
  info := by kernel_rfl
  hz := rfl
def kCopyEq : KdEq kCopy where
  eqv := eqW
  iff := eqW_iff
  eql := fun a b ha hb w => by
    show (binOp .eql 31 (.agg a.cells.toArray) (.agg b.cells.toArray)).run Tryd.prog w = .ok (.bool (eqW a b)) w
    rw [run_eql_struct, run_eqCopy a b]; rfl
  neq := fun a b ha hb w => by
    show (binOp .neq 31 (.agg a.cells.toArray) (.agg b.cells.toArray)).run Tryd.prog w = .ok (.bool (!(eqW a b))) w
    rw [run_neq_struct, run_eqCopy a b]; rfl
  guard := fun op x y a b w => run_eqGuard_agg w op _ x y _ _ copyEqGuard

end Go.Proofs.YtkdmhflcpfekfaaDoor

/- Steps of a region that draws, for whatever values. No function of the program. -/
namespace Go.Proofs.YtkdmhflcpfekfaaDoor
set_option linter.unusedVariables false
set_option linter.unusedSimpArgs false
open Go.RowKit

/-- An operation whose run is known, in a region that draws. -/
theorem stepRun {P : Program} {ops : Array Oper} {o : Oper} {a : Act} {w : World} {K : Act → World → Prop} {Q : Exit → Act → World → Prop} {E : Prop} (hgd : o.guard = none) (v : Value) (w' : World) (hr : (execOp a.eval o).run P w = .ok (.value v) w') (h : K (a.put o.dst v) w') :
    if Region.wanted o (yielded ops a.tmps) = true then Oper.wp P o a w K Q else E := by
  have hw : Region.wanted o (yielded ops a.tmps) = true := by simp [Region.wanted, hgd]
  rw [if_pos hw]
  unfold Oper.wp
  rw [hr]
  exact h
theorem execBuild {P : Program} {o : Oper} {ρ : Operand → Value} {w : World} (t : TypeId) (ps : List (Nat × Operand)) (ho : o.op = .build t ps.toArray) (v : Value) (h : (Instr.build t (ps.map fun y => (y.1, ρ y.2)).toArray).run P w = .ok v w) : (execOp ρ o).run P w = .ok (.value v) w := by
  unfold execOp
  rw [ho]
  simp only [Sem.run_bind, List.map_toArray, h, Result.andThen_ok, Sem.run_pure]
theorem execBuildSlice {P : Program} {o : Oper} {ρ : Operand → Value} {w w' : World} (t : TypeId) (n : Nat) (ps : List (Nat × Operand)) (ho : o.op = .buildSlice t n ps.toArray) (v : Value) (h : (Instr.buildSlice t n (ps.map fun y => (y.1, ρ y.2)).toArray).run P w = .ok v w') : (execOp ρ o).run P w = .ok (.value v) w' := by
  unfold execOp
  rw [ho]
  simp only [Sem.run_bind, List.map_toArray, h, Result.andThen_ok, Sem.run_pure]
/-- An operation whose run is known. -/
theorem wpListExec {P : Program} {ops : Array Oper} {rest : List Oper} {o : Oper} {a : Act} {w : World} {Q : Exit → Act → World → Prop} (hgd : o.guard = none) (v : Value) (w' : World) (hr : (execOp a.eval o).run P w = .ok (.value v) w') (h : wpList P ops Q rest (a.put o.dst v) w') : wpList P ops Q (o :: rest) a w :=
  wpList_plain hgd fun K hK => by
    unfold Oper.wp
    rw [hr]
    exact hK _ _ h
/-- Several cells are read, in a region that draws. -/
theorem stepLoadAt {P : Program} {ops : Array Oper} {op : Oper} {a : Act} {w : World} {K : Act → World → Prop} {Q : Exit → Act → World → Prop} {E : Prop} (hgd : op.guard = none) (ty : TypeId) (x : Operand) (ho : op.op = .load ty x)
    (b o : Nat) (hx : a.eval x = .pointer (some ⟨b, o, none⟩)) (cs : List Value) (d : TypeDesc) (hc : w.rangeAt b o cs) (hu : P.underlying ty = some d) (hd : d.isRow = true) (hi : (P.info? ty).map (·.size) = some cs.length)
    (h : K (a.put op.dst (.agg cs.toArray)) w) : if Region.wanted op (yielded ops a.tmps) = true then Oper.wp P op a w K Q else E := by
  have hw : Region.wanted op (yielded ops a.tmps) = true := by simp [Region.wanted, hgd]
  rw [if_pos hw]
  exact wp_load_mid ty x ho b o hx cs d hc hu hd hi h
/-- A row of several cells is written into a block, in a region that draws. -/
theorem stepStoreG {P : Program} {ops : Array Oper} {op : Oper} {a : Act} {w : World} {K : Act → World → Prop} {Q : Exit → Act → World → Prop} {E : Prop} (hgd : op.guard = none) (ty : TypeId) (x y : Operand) (ho : op.op = .store ty x y) (g o : Nat) (t : TypeId) (old : Array Value) (cells : List Value)
    (hx : a.eval x = .pointer (some ⟨g, o, none⟩)) (hy : a.eval y = .agg cells.toArray) (hg : w.heap[g]? = some (.cells old t (0, 0))) (hfit : o + cells.length ≤ old.size) (hi : (P.info? ty).map (·.size) = some cells.length) (h1 : ∀ v ∈ cells, v.oneCell' = true)
    (h : K (a.put op.dst undef) (w.setRow g (old.toList.take o ++ cells ++ old.toList.drop (o + cells.length)).toArray)) : if Region.wanted op (yielded ops a.tmps) = true then Oper.wp P op a w K Q else E := by
  have hw : Region.wanted op (yielded ops a.tmps) = true := by simp [Region.wanted, hgd]
  rw [if_pos hw]
  unfold Oper.wp execOp
  simp only [ho, hx, hy, Instr.storeAt, Instr.sureAddr, Sem.run_bind, Sem.run_pure, Result.andThen_ok, run_storeVar_G w g o ty t old cells hg hfit hi h1]
  exact h
/-- append(v, x), and where the new slice lies. -/
theorem own_append_Gat {α : Type} (K : Kd α) (ty : TypeId) (w : World) (base : Nat) (v : Value) (l : List α) (x : α) (g : Nat) (hown : OwnG K w base v l) (hok : K.ok x) (hr : w.rangeAt g 0 (K.cells x)) (hbase : base ≤ w.heap.size) (h63 : l.length ≤ 1073741824) :
    ∃ v' w', (Builtin.append_ #[K.T, K.T] ty #[v, .slice (some ⟨g, 0, none⟩) 1 1]).run Tryd.prog w = .ok v' w' ∧ OwnG K w' base v' (l ++ [x]) ∧ Below base w w' ∧ w.grownBy w' v.ownBlock ∧ (v'.ownBlock = v.ownBlock ∨ v'.ownBlock = some w.heap.size) := by
  obtain ⟨i0, hi, hz0, hz1, hz2⟩ := info_parts K.info
  obtain ⟨v', w', h1, h2, h3, -, h5⟩ := run_append_own_at (P := Tryd.prog) w base K.T ty K.E i0 K.zero K.n K.bytes K.und hi hz0 hz1 hz2 K.hz K.hn v l.length (K.row l) hown.2 ⟨g, 0, none⟩ 1 1 (K.cells x) (by rw [K.hlen x hok, Nat.one_mul])
    (fun j u hu => by rw [Addr.add_mid]; exact hr j u hu) (K.hone x) (by unfold maxLen; omega) (bytes_bound K _ h63) hbase
  refine ⟨v', w', h1, ⟨?_, ?_⟩, (Below.refl _ _).grown h3 hbase (fun k hk => (hown.lt k hk).1), h3, h5⟩
  · intro y hy
    rw [List.mem_append] at hy
    rcases hy with hy | hy
    · exact hown.1 y hy
    · simp at hy; subst hy; exact hok
  · rw [show (l ++ [x]).length = l.length + 1 by simp, row_snoc]
    exact h2
theorem wpList_append_Gat {α : Type} (K : Kd α) {ops : Array Oper} {rest : List Oper} {o : Oper} {a : Act} {w : World} {Q : Exit → Act → World → Prop} (hgd : o.guard = none) (s x : Operand)
    (ho : o.op = .call { callee := .builtin .append, args := #[s, x], argTypes := #[K.T, K.T] }) (base : Nat) (v : Value) (l : List α) (i : α) (g : Nat) (hs : a.eval s = v) (hx : a.eval x = .slice (some ⟨g, 0, none⟩) 1 1)
    (hown : OwnG K w base v l) (hok : K.ok i) (hr : w.rangeAt g 0 (K.cells i)) (hbase : base ≤ w.heap.size) (h63 : l.length ≤ 1073741824)
    (h : ∀ v' w', OwnG K w' base v' (l ++ [i]) → Below base w w' → w.grownBy w' v.ownBlock → (v'.ownBlock = v.ownBlock ∨ v'.ownBlock = some w.heap.size) → wpList Tryd.prog ops Q rest (a.put o.dst v') w') : wpList Tryd.prog ops Q (o :: rest) a w := by
  refine wpList_plain hgd fun L hL => ?_
  obtain ⟨v', w', hrun, h2, h3, h4, h5⟩ := own_append_Gat K o.type w base v l i g hown hok hr hbase h63
  unfold Oper.wp execOp
  simp only [ho, resolve, invoke, builtin, Sem.run_bind, Sem.run_pure, Result.andThen_ok, List.map_toArray, List.map_cons, List.map_nil, hs, hx, hrun]
  exact hL _ _ (h v' w' h2 h3 h4 h5)

end Go.Proofs.YtkdmhflcpfekfaaDoor

/- Steps of a region whose last operations store. No function of the program. -/
namespace Go.Proofs.YtkdmhflcpfekfaaDoor
set_option linter.unusedVariables false
set_option linter.unusedSimpArgs false
open Go.RowKit

theorem wpStill_load_row {P : Program} {ops : Array Oper} {rest : List Oper} {op : Oper} {a : Act} {w : World} {Q : Act → Prop} (hgd : op.guard = none) (ty : TypeId) (x : Operand) (ho : op.op = .load ty x)
    (b o : Nat) (hx : a.eval x = .pointer (some ⟨b, o, none⟩)) (cs : List Value) (d : TypeDesc) (hc : w.rangeAt b o cs) (hu : P.underlying ty = some d) (hd : d.isRow = true) (hi : (P.info? ty).map (·.size) = some cs.length)
    (h : wpStill P ops w Q rest (a.put op.dst (.agg cs.toArray))) : wpStill P ops w Q (op :: rest) a := by
  refine wpStill_step fun K hK => ?_
  have hw : Region.wanted op (yielded ops a.tmps) = true := by simp [Region.wanted, hgd]
  rw [if_pos hw]
  unfold Oper.still execOp
  simp only [ho, hx, Instr.loadAt, Instr.sureAddr, Sem.run_bind, Sem.run_pure, Result.andThen_ok, run_loadVar_mid w b o ty cs d hc hu hd hi, Oper.stillUpon]
  exact ⟨trivial, hK _ h⟩
/-- An operation whose run is known and leaves the world. -/
theorem wpStill_exec {P : Program} {ops : Array Oper} {rest : List Oper} {op : Oper} {a : Act} {w : World} {Q : Act → Prop} (hgd : op.guard = none) (v : Value) (hr : (execOp a.eval op).run P w = .ok (.value v) w) (h : wpStill P ops w Q rest (a.put op.dst v)) : wpStill P ops w Q (op :: rest) a := by
  refine wpStill_step fun K hK => ?_
  have hw : Region.wanted op (yielded ops a.tmps) = true := by simp [Region.wanted, hgd]
  rw [if_pos hw]
  unfold Oper.still
  rw [hr]
  exact ⟨rfl, hK _ h⟩
/-- A fresh variable of several cells gets its value: its block. -/
theorem wpList_store_newH {P : Program} {ops : Array Oper} {rest : List Oper} {op : Oper} {a : Act} {w : World} {Q : Exit → Act → World → Prop} (hgd : op.guard = none) (ty : TypeId) (x y : Operand) (ho : op.op = .store ty x y) (w0 : World) (zs : Array Value) (hw : w = w0.alloc (.cells zs ty)) (cells : List Value)
    (hx : a.eval x = .pointer (some ⟨w0.heap.size, 0, none⟩)) (hy : a.eval y = .agg cells.toArray) (hsz : zs.size = cells.length) (hi : (P.info? ty).map (·.size) = some cells.length) (h1 : ∀ v ∈ cells, v.oneCell' = true)
    (h : ∀ W', Grew w0 W' → W'.heap.size = w0.heap.size + 1 → W'.heap[w0.heap.size]? = some (.cells cells.toArray ty (0, 0)) → wpList P ops Q rest (a.put op.dst undef) W') : wpList P ops Q (op :: rest) a w := by
  subst hw
  refine wpList_store_row hgd ty x y ho w0.heap.size cells.toArray hx hy ty zs (heap_alloc_new w0 _) (by simpa using hi) (by simpa using hsz) (all_oneCell_toArray h1) ?_
  exact h _ (below_setRow ((Below.refl _ _).alloc (Nat.le_refl _) _) (Nat.le_refl _) _) (by simp) (setRow_heap (w0.alloc (.cells zs ty)) w0.heap.size zs cells.toArray ty (0, 0) (heap_alloc_new w0 _))

end Go.Proofs.YtkdmhflcpfekfaaDoor

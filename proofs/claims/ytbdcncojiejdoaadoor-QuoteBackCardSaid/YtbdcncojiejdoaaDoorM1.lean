/- Several texts in one: Words, Words2, Tabs0, Frozen, Buf, Pure11. -/
import Derived.Test.YtbdcncojiejdoaaDoorProg
import Derived.WalkKit
import Derived.WalkSpells
import Derived.WalkLawsBesides
import Derived.Lib.SlBytesRow
import Derived.Lib.SlFresh
import Derived.KernelRfl
import Derived.Laws.MakeOwn
import Derived.Lib.OthersKept
import Derived.Lib.Hide
import Derived.Deep.MidRow
import Derived.Laws.ResultCell
import Derived.Lib.AppendIntMem
import Derived.Lib.LaidTab
import Derived.Lib.ConvBytes
import Derived.Lib.FrozenHead2
import Derived.Lib.ValidLaws
import Derived.Lib.IndexMore
import Derived.Lib.Split
import Derived.Lib.SplitLaws
import Derived.Lib.Strings
import Derived.Laws.RangeAny

/- Words for bytes in memory and small facts on worlds that the walks of this seat share: plain, of no function of the program. -/
namespace Go.Proofs.YtbdcncojiejdoaaDoor
set_option linter.unusedVariables false
set_option linter.unusedSimpArgs false
open Go.RowKit

/-- The bytes l lie at p (an address, or nil where there is none). -/
def Rd (w : World) (p : Option Addr) (l : List UInt8) : Prop :=
  l = [] ∨ ∃ b o, p = some ⟨b, o, none⟩ ∧ b < w.heap.size ∧ ∀ i, i < l.length → w.cell? ⟨b, o + i, none⟩ = some (.int .u8 ((l.getD i 0).toNat : Int))

theorem Rd.nil (w : World) (p : Option Addr) : Rd w p [] := .inl rfl

theorem Rd.below {w w' : World} {p : Option Addr} {l : List UInt8} (h : Rd w p l) {B : Nat} (hb : Below B w w') (hB : w.heap.size ≤ B) : Rd w' p l := by
  rcases h with h | ⟨b, o, rfl, hlt, hc⟩
  · exact .inl h
  · exact .inr ⟨b, o, rfl, Nat.lt_of_lt_of_le hlt hb.size, fun i hi => (hb.cell (p := ⟨b, o + i, none⟩) (by show b < B; omega)).trans (hc i hi)⟩

/-- Below, said from the heap's size on. -/
abbrev Grew (w w' : World) : Prop := Below w.heap.size w w'

theorem Grew.trans' {a b c : World} (h : Grew a b) (k : Grew b c) : Grew a c := h.trans (k.mono h.size)

theorem byte_lt (x : UInt8) : (x.toNat : Int) < 256 := by have := x.toNat_lt; omega

/-- Two strings of the same bytes are one value. -/
theorem str_eq {a b : ByteArray} (h : a.data.toList = b.data.toList) : Value.string a = Value.string b := by
  cases a with | mk a => cases b with | mk b =>
  simp only at h
  rw [Array.toList_inj.1 h]

theorem ret_eq {a b : ByteArray} (h : a.data.toList = b.data.toList) : Ending.returned (Value.string a) = Ending.returned (Value.string b) := by rw [str_eq h]

theorem Grew.drewN {B : Nat} {w w' : World} (h : Below B w w') (n : Nat) : Below B w (w'.drewN n) := by
  induction n with
  | zero => exact h
  | succ n ih => exact ih.drew

theorem ret_int {k : IntKind} {a b : Int} (h : a = b) : Ending.returned (.int k a) = .returned (.int k b) := by rw [h]
theorem val_int {k : IntKind} {a b : Int} (h : a = b) : Value.int k a = .int k b := by rw [h]

/-- A slice of bytes that the call has made itself reads as its bytes. -/
theorem rd_of_owns {w : World} {B : Nat} {e : TypeId} {v : Value} {n : Nat} {l : List UInt8} (h : w.ownsRow B e 1 v n (Lib.byteCells l)) :
    n = l.length ∧ ∃ p cap, v = .slice p l.length cap ∧ l.length ≤ cap ∧ cap ≤ maxLen ∧ Rd w p l := by
  have hn : n = l.length := by have := h.1; rw [Lib.byteCells_length] at this; omega
  subst hn
  refine ⟨rfl, ?_⟩
  rcases h.2 with ⟨rfl, h0⟩ | ⟨g, cap, cur, rfl, hb, hg, hnc, hcm, hcs, ht⟩
  · have : l = [] := List.eq_nil_of_length_eq_zero h0
    subst this
    exact ⟨none, 0, rfl, Nat.le_refl _, by decide, .inl rfl⟩
  · refine ⟨_, cap, rfl, hnc, hcm, .inr ⟨g, 0, rfl, (Array.getElem?_eq_some_iff.1 hg).1, fun i hi => ?_⟩⟩
    have hc := World.ownsRow.cells (w := w) (base := B) (e := e) (size := 1) (v := .slice (some ⟨g, 0, none⟩) l.length cap) (n := l.length) (xs := Lib.byteCells l) h (g := g) rfl i
      (.int .u8 ((l.getD i 0).toNat : Int)) (by simp [Lib.byteCells, List.getElem?_eq_getElem hi, List.getD_eq_getElem?_getD])
    have hadd : (⟨g, 0, none⟩ : Addr).add i = ⟨g, 0 + i, none⟩ := by unfold Addr.add; split <;> simp_all
    rw [← hadd]
    exact hc

theorem infoU8' : (Tryd.prog.info? 5).map (fun i => (i.zero, i.size, i.bytes)) = some (some (.int .u8 0), 1, 1) := by kernel_rfl

/-- make([]byte, 0, n). -/
theorem make_bytes (n : Nat) (hn : n ≤ 140737488355328) (w : World) : ∃ C : Array Value, C.size = n ∧
    (Instr.makeSlice 25 (.int .i64 0) (.int .i64 (n : Int))).run Tryd.prog w = .ok (.slice (some ⟨w.heap.size, 0, none⟩) 0 n) (w.alloc (.cells C 5)) := by
  obtain ⟨i0, hi, hz0, hz1, hz2⟩ := info_parts infoU8'
  have h := run_make (P := Tryd.prog) w 25 5 i0 (.int .u8 0) Tryd.underlying25 hi hz0 .i64 .i64 0 (n : Int) (by omega) (by omega) (by rw [hz2]; omega) (by omega)
  exact ⟨_, by simp [madeCells, hz1], h⟩

/-- A string's iterator stands where it stood while a row of the call's own grows. -/
theorem iter_grown {w w' : World} {B : Nat} {e : TypeId} {v : Value} {n : Nat} {xs : List Value} {k pos : Nat} {s : ByteArray} (ho : w.ownsRow B e 1 v n xs) (hk : w.heap[k]? = some (.stringIter s pos)) (hg : w.grownBy w' v.ownBlock) :
    w'.heap[k]? = some (.stringIter s pos) := by
  rw [hg.block k (Array.getElem?_eq_some_iff.1 hk).1 ?_]
  · exact hk
  · intro e1
    rcases ho.2 with ⟨rfl, _⟩ | ⟨g, cap, cur, rfl, _, hgg, _⟩
    · simp [Value.ownBlock] at e1
    · simp only [Value.ownBlock, Option.some.injEq] at e1
      subst e1
      rw [hgg] at hk
      cases hk

/-- A row of the call's own stays its own while an iterator moves on. -/
theorem own_iterAt {w : World} {B : Nat} {e : TypeId} {v : Value} {n : Nat} {xs : List Value} {k pos : Nat} {s : ByteArray} (h : w.ownsRow B e 1 v n xs) (hk : w.heap[k]? = some (.stringIter s pos)) (p : Nat) :
    (w.iterAt k s p).ownsRow B e 1 v n xs := by
  refine ⟨h.1, ?_⟩
  rcases h.2 with h2 | ⟨g, cap, cur, rfl, hb, hg, r⟩
  · exact .inl h2
  · have hkg : g ≠ k := by
      intro e1
      rw [e1, hk] at hg
      cases hg
    exact .inr ⟨g, cap, cur, rfl, hb, (Lib.iterAt_other w k g s p hkg).trans hg, r⟩

/-- s[k] of a string. -/
theorem index_str (s : ByteArray) (k : Nat) (c : UInt8) (h : s.data.toList[k]? = some c) (w : World) :
    (Instr.index 9 (.string s) (.int .i64 (k : Int))).run Tryd.prog w = .ok (.int .u8 (c.toNat : Int)) w := by
  have hk : k < s.size := by
    have := (List.getElem?_eq_some_iff.1 h).1
    simpa using this
  have hc : s[k]? = some c := by
    rw [getElem?_pos s k hk]
    have := (List.getElem?_eq_some_iff.1 h).2
    rw [← this]; rfl
  simp [Instr.index, Sem.run, go_sem, hc]

/-- An id as a value. -/
def idV (l : List UInt8) : Value := .agg (Lib.byteCells l).toArray
def zeros20 : List UInt8 := List.replicate 20 0

theorem one_bytes (l : List UInt8) : (Lib.byteCells l).toArray.all (·.oneCell') = true :=
  Array.all_eq_true_iff_forall_mem.2 fun v hv => by
    simp [Lib.byteCells] at hv
    obtain ⟨x, _, rfl⟩ := hv
    rfl
theorem idV_zero : idV zeros20 = .agg #[.int .u8 0, .int .u8 0, .int .u8 0, .int .u8 0, .int .u8 0, .int .u8 0, .int .u8 0, .int .u8 0, .int .u8 0, .int .u8 0, .int .u8 0, .int .u8 0, .int .u8 0, .int .u8 0, .int .u8 0, .int .u8 0, .int .u8 0, .int .u8 0, .int .u8 0, .int .u8 0] := by rfl

/-- A row of bytes that the call owns, block, offset and all. -/
theorem owns_at {w : World} {B : Nat} {e : TypeId} {v : Value} {n : Nat} {l : List UInt8} (h : w.ownsRow B e 1 v n (Lib.byteCells l)) (h0 : 0 < l.length) :
    ∃ g cap, v = .slice (some ⟨g, 0, none⟩) l.length cap ∧ B ≤ g ∧ g < w.heap.size ∧ l.length ≤ cap ∧ cap ≤ maxLen ∧ w.rangeAt g 0 (Lib.byteCells l) := by
  have hn : n = l.length := by have := h.1; rw [Lib.byteCells_length] at this; omega
  subst hn
  rcases h.2 with ⟨rfl, h1⟩ | ⟨g, cap, cur, rfl, hb, hg, hnc, hcm, hcs, ht⟩
  · omega
  · refine ⟨g, cap, rfl, hb, (Array.getElem?_eq_some_iff.1 hg).1, hnc, hcm, fun j v hv => ?_⟩
    rw [cell_of_row w g _ cur e (0, 0) hg]
    rw [← ht, List.getElem?_take] at hv
    split at hv
    · simpa using hv
    · cases hv

theorem bit_or_16 : ∀ u : Nat, u < 16 → ∀ v : Nat, v < 16 → Go.bits .or .u8 (16 * (u : Int)) (v : Int) = 16 * (u : Int) + v := by decide

end Go.Proofs.YtbdcncojiejdoaaDoor

/- More words for memory that the walks of this seat share (variables of several cells, results that lie in memory): plain, of no function of the program. -/
namespace Go.Proofs.YtbdcncojiejdoaaDoor
set_option linter.unusedVariables false
set_option linter.unusedSimpArgs false
open Go.RowKit

theorem results_cell_tmp_mid {P : Program} {fn : Func} {p u : Tmp} {ty : TypeId} (h : fn.results = #[.cell p ty, .tmp u]) (tmps : Array Value) (w : World) (b o : Nat) (cs : List Value) (d : TypeDesc)
    (hp : tmps.getD p undef = .pointer (some ⟨b, o, none⟩)) (hc : w.rangeAt b o cs) (hu : P.underlying ty = some d) (hd : d.isRow = true) (hi : (P.info? ty).map (·.size) = some cs.length) :
    (results fn tmps).run P w = .ok (.tuple #[.agg cs.toArray, tmps.getD u undef]) w := by
  rw [results_cell_tmp h, hp]
  simp only [asAddr, Sem.run_pure, Result.andThen_ok, run_loadVar_mid w b o ty cs d hc hu hd hi]

theorem results_cell_mid {P : Program} {fn : Func} {p : Tmp} {ty : TypeId} (h : fn.results = #[.cell p ty]) (tmps : Array Value) (w : World) (b o : Nat) (cs : List Value) (d : TypeDesc)
    (hp : tmps.getD p undef = .pointer (some ⟨b, o, none⟩)) (hc : w.rangeAt b o cs) (hu : P.underlying ty = some d) (hd : d.isRow = true) (hi : (P.info? ty).map (·.size) = some cs.length) :
    (results fn tmps).run P w = .ok (.agg cs.toArray) w := by
  have hp' : tmps[p]?.getD undef = .pointer (some ⟨b, o, none⟩) := by simpa using hp
  simp [results, h, hp', asAddr, run_loadVar_mid w b o ty cs d hc hu hd hi]

theorem below_setRow {B : Nat} {a w : World} (h : Below B a w) {g : Nat} (hg : B ≤ g) (cs : Array Value) : Below B a (w.setRow g cs) :=
  h.trans ⟨rfl, rfl, rfl, by simp, fun k hk => setRow_other w g k cs (by omega)⟩

theorem range_row {w : World} {g : Nat} {cs : Array Value} {t : TypeId} {fz : Nat × Nat} (hg : w.heap[g]? = some (.cells cs t fz)) : w.rangeAt g 0 cs.toList := fun j v hv => by
  rw [cell_of_row w g _ cs t fz hg]
  simpa using hv

theorem range_setRow {w : World} {g : Nat} {old : Array Value} {t : TypeId} {fz : Nat × Nat} (hg : w.heap[g]? = some (.cells old t fz)) (cs : List Value) : (w.setRow g cs.toArray).rangeAt g 0 cs := by
  have := range_row (setRow_heap w g old cs.toArray t fz hg)
  simpa using this

/-- A range below B is as it was. -/
theorem range_below {B : Nat} {w w' : World} (h : Below B w w') {b o : Nat} {cs : List Value} (hr : w.rangeAt b o cs) (hb : b < B) : w'.rangeAt b o cs := fun j v hv => (h.cell (p := ⟨b, o + j, none⟩) hb).trans (hr j v hv)

theorem byteCells_getElem? (l : List UInt8) (i : Nat) : (Lib.byteCells l)[i]? = (l[i]?).map fun b => Value.int .u8 (b.toNat : Int) := by simp [Lib.byteCells]

/-- Rd, cell by cell, as append asks it. -/
theorem Rd.cells {w : World} {a : Addr} {l : List UInt8} (h : Rd w (some a) l) : ∀ j u, (Lib.byteCells l)[j]? = some u → w.cell? (a.add j) = some u := by
  intro j u hu
  rcases h with rfl | ⟨b, o, e, _, hc⟩
  · simp [Lib.byteCells] at hu
  · cases e
    have hj : j < l.length := by have := (List.getElem?_eq_some_iff.1 hu).1; rwa [Lib.byteCells_length] at this
    rw [byteCells_getElem?, List.getElem?_eq_getElem hj] at hu
    rw [Addr.add_mid, hc j hj, List.getD_eq_getElem?_getD, List.getElem?_eq_getElem hj]
    exact hu

theorem one_bytes' (l : List UInt8) : ∀ u ∈ Lib.byteCells l, u.oneCell' = true := by
  intro v hv
  simp [Lib.byteCells] at hv
  obtain ⟨x, _, rfl⟩ := hv
  rfl

/-- append(s, l...) where s has room: the block g holds s from its head on. -/
theorem append_room (t ty e : TypeId) {P : Program} (i : TypeInfo) (ht : P.underlying t = some (.slice e)) (hi : P.info? e = some i) (h1 : i.size = 1) (w : World) (g sLen sCap : Nat) (cur : Array Value) (hg : w.heap[g]? = some (.cells cur e (0, 0)))
    (p : Option Addr) (l : List UInt8) (c : Nat) (h : Rd w p l) (hroom : sLen + l.length ≤ sCap) (hcur : cur.size = sCap) :
    ∃ w', (Builtin.append_ #[t, t] ty #[.slice (some ⟨g, 0, none⟩) sLen sCap, .slice p l.length c]).run P w = .ok (.slice (some ⟨g, 0, none⟩) (sLen + l.length) sCap) w' ∧
      w'.heap[g]? = some (.cells (cur.toList.take sLen ++ Lib.byteCells l ++ cur.toList.drop (sLen + l.length)).toArray e (0, 0)) ∧ w.grownBy w' (some g) ∧ w'.heap.size = w.heap.size := by
  cases p with
  | none =>
    have hl : l = [] := by
      rcases h with h | ⟨b, o, e, _⟩
      · exact h
      · cases e
    subst hl
    refine ⟨w, ?_, ?_, ⟨rfl, rfl, rfl, Nat.le_refl _, fun _ _ _ => rfl⟩, rfl⟩
    · have hs : sLen ≤ sCap := by simpa using hroom
      simp [Builtin.append_, run_underlying ht, sizeOf, typeInfo, hi, Builtin.lenOf, Builtin.firstCells, hs, storeCells]
    · rw [hg]; simp [Lib.byteCells]
  | some a =>
    refine ⟨_, run_append_room (P := P) w t ty e i ht hi g sLen sCap cur hg a l.length c (Lib.byteCells l) (by rw [h1, Lib.byteCells_length, Nat.mul_one]) h.cells (one_bytes' l) hroom (by rw [h1, Lib.byteCells_length]; omega), ?_, ⟨rfl, rfl, rfl, by simp, fun k _ hk => setRow_other w g k _ (fun e => hk (by simp [e]))⟩, by simp⟩
    rw [setRow_heap w g cur _ e _ hg, h1, Nat.mul_one, Lib.byteCells_length]

/-- string(b). -/
theorem conv_string {w : World} {p : Option Addr} {l : List UInt8} (c : Nat) (h : Rd w p l) : (convert 25 9 (.slice p l.length c)).run Tryd.prog w = .ok (.string ⟨l.toArray⟩) w := by
  rcases h with rfl | ⟨b, o, rfl, _, hc⟩
  · cases p with
    | none => simp [convert, go_sem, Conv.bytesToString]; rfl
    | some a => simp [convert, go_sem, Conv.bytesToString]; rfl
  · have hb : Lib.Bytes w b o ⟨l.toArray⟩ := by
      intro i hi
      have hi' : i < l.length := by simpa [ByteArray.size] using hi
      rw [hc i hi', List.getD_eq_getElem?_getD, List.getElem?_eq_getElem hi']
      rfl
    have := Lib.run_convert_whole (P := Tryd.prog) w 25 5 9 Tryd.underlying25 Tryd.underlying5 Tryd.underlying9 b o ⟨l.toArray⟩ hb c
    simpa [ByteArray.size] using this

/-- int(uint(x) % n), as the walk writes it. -/
theorem pick_wrap (x : Int) (n : Nat) (m : Int) (hm : (n : Int) = m) (hn : 0 < n) (hn2 : n ≤ 2147483648) : ∃ K : Nat, wrap64 ((IntKind.u64.wrap x).tmod m) = (K : Int) ∧ K < n := by
  subst hm
  have h0 : 0 ≤ IntKind.u64.wrap x := by simp [IntKind.wrap, IntKind.bits, IntKind.signed]; omega
  rw [Int.tmod_eq_emod_of_nonneg h0]
  have h1 := Int.emod_nonneg (IntKind.u64.wrap x) (show (n : Int) ≠ 0 by omega)
  have h2 := Int.emod_lt_of_pos (IntKind.u64.wrap x) (show (0 : Int) < n by omega)
  refine ⟨(IntKind.u64.wrap x % (n : Int)).toNat, ?_, by omega⟩
  unfold wrap64
  omega

/-- A load of several cells that stands behind a guard that is met. -/
theorem wpList_load_g {P : Program} {ops : Array Oper} {rest : List Oper} {op : Oper} {a : Act} {w : World} {Q : Exit → Act → World → Prop} (hw : Region.wanted op (yielded ops a.tmps) = true) (ty : TypeId) (x : Operand) (ho : op.op = .load ty x)
    (b o : Nat) (hx : a.eval x = .pointer (some ⟨b, o, none⟩)) (cs : List Value) (d : TypeDesc) (hc : w.rangeAt b o cs)
    (hu : P.underlying ty = some d) (hd : d.isRow = true) (hi : (P.info? ty).map (·.size) = some cs.length)
    (h : wpList P ops Q rest (a.put op.dst (.agg cs.toArray)) w) : wpList P ops Q (op :: rest) a w :=
  wpList_step fun K hK => by rw [if_pos hw]; exact wp_load_mid ty x ho b o hx cs d hc hu hd hi (hK _ _ h)

/-- What a package-level variable holds stays, whatever the call makes. -/
theorem var_grew {P : Program} {W W' : World} {n : String} {cs : Array Value} (hb : Grew W W') (hv : W.var? P n = some cs) : W'.var? P n = some cs := by
  unfold World.var? at hv ⊢
  cases hg : P.globalNamed n with
  | none => simp [hg] at hv
  | some g =>
    simp only [hg, Option.bind_some] at hv ⊢
    have hlt : g < W.heap.size := by
      rcases Nat.lt_or_ge g W.heap.size with h | h
      · exact h
      · simp [Array.getElem?_eq_none h] at hv
    rw [hb.block g hlt]
    exact hv

end Go.Proofs.YtbdcncojiejdoaaDoor

/- A cell that stands, stands behind what only makes new blocks. No function of the program. -/
namespace Go.Proofs.YtbdcncojiejdoaaDoor
set_option linter.unusedVariables false
set_option linter.unusedSimpArgs false
open Go.RowKit

theorem cell_lt {w : World} {p : Addr} {v : Value} (h : w.cell? p = some v) : p.block < w.heap.size := World.block_lt_of_cell? _ _ h
theorem cell_grew {w w' : World} {p : Addr} {v : Value} (h : w.cell? p = some v) (hb : Grew w w') : w'.cell? p = some v := (hb.cell (cell_lt h)).trans h

end Go.Proofs.YtbdcncojiejdoaaDoor

/- A row whose last place behind its bytes is frozen (what []byte(s) makes): its cells may be set, and it reads as its bytes. No function of the program. -/
namespace Go.Proofs.YtbdcncojiejdoaaDoor
set_option linter.unusedVariables false
set_option linter.unusedSimpArgs false
open Go.RowKit

theorem set_cell_any (w : World) (g i : Nat) (cs : Array Value) (t : TypeId) (fz : Nat × Nat) (v : Value) (hg : w.heap[g]? = some (.cells cs t fz)) :
    (w.setCell ⟨g, i, none⟩ v).heap[g]? = some (.cells (cs.setIfInBounds i v) t fz) := by
  rw [setCell_eq_setRow w g i cs t fz v hg]
  exact setRow_heap w g cs _ t _ hg
theorem frozen_any (w : World) (g j : Nat) (cs : Array Value) (t : TypeId) (lo hi : Nat) (hg : w.heap[g]? = some (.cells cs t (lo, hi))) (hj : j < lo) : w.frozen? ⟨g, j, none⟩ = false := by
  simp [World.frozen?, hg]
  omega
/-- The cells hold the bytes l, from the head on. -/
def Holds8 (cs : Array Value) (l : List UInt8) : Prop := ∀ i, i < l.length → cs[i]? = some (.int .u8 ((l.getD i 0).toNat : Int))
theorem holds_bytes (w : World) (t : TypeId) (s : ByteArray) : Holds8 (Lib.bytesCells w t s) s.data.toList := by
  intro i hi
  have hs : s.data.toList.length = s.data.size := Array.length_toList
  unfold Lib.bytesCells
  rw [Array.getElem?_append_left (by rw [Array.size_map]; omega), Array.getElem?_map, ← Array.getElem?_toList, List.getElem?_eq_getElem hi, List.getD_eq_getElem?_getD, List.getElem?_eq_getElem hi]
  rfl
theorem holds_size {cs : Array Value} {l : List UInt8} (h : Holds8 cs l) : l.length ≤ cs.size := by
  apply Classical.byContradiction
  intro hn
  have := h cs.size (by omega)
  simp at this
theorem holds_set {cs : Array Value} {l : List UInt8} (h : Holds8 cs l) (k : Nat) (c : UInt8) : Holds8 (cs.setIfInBounds k (.int .u8 (c.toNat : Int))) (l.set k c) := by
  intro i hi
  rw [List.length_set] at hi
  have hsz := holds_size h
  rw [Array.getElem?_setIfInBounds, List.getD_eq_getElem?_getD, List.getElem?_set]
  by_cases e : k = i
  · subst e
    rw [if_pos rfl, if_pos rfl, if_pos (by omega), if_pos hi]
    rfl
  · rw [if_neg e, if_neg e, h i hi, List.getD_eq_getElem?_getD]
theorem rd_holds {w : World} {g : Nat} {cs : Array Value} {t : TypeId} {fz : Nat × Nat} {l : List UInt8} (hg : w.heap[g]? = some (.cells cs t fz)) (h : Holds8 cs l) : Rd w (some ⟨g, 0, none⟩) l :=
  .inr ⟨g, 0, rfl, (Array.getElem?_eq_some_iff.1 hg).1, fun i hi => by
    rw [cell_of_row w g _ cs t fz hg, Nat.zero_add]
    exact h i hi⟩

end Go.Proofs.YtbdcncojiejdoaaDoor

/- Bytes that a call has made itself, in a row whose head, or whose place behind the last cell, may be frozen: appended to, read, converted. No function of the program. -/
namespace Go.Proofs.YtbdcncojiejdoaaDoor
set_option linter.unusedVariables false
set_option linter.unusedSimpArgs false
open Go.RowKit

/-- The slice v of bytes, made from base on, holds l. -/
def OwnB (w : World) (base : Nat) (v : Value) (l : List UInt8) : Prop :=
  (v = .slice none 0 0 ∧ l = []) ∨
  ∃ g cap cur fz, v = .slice (some ⟨g, 0, none⟩) l.length cap ∧ base ≤ g ∧ w.heap[g]? = some (.cells cur 5 fz) ∧ (fz.2 ≤ l.length ∨ cap ≤ fz.1) ∧ l.length ≤ cap ∧ cap ≤ maxLen ∧ cur.size = cap ∧ cur.toList.take l.length = Lib.byteCells l

theorem OwnB.nil (w : World) (base : Nat) : OwnB w base (.slice none 0 0) [] := .inl ⟨rfl, rfl⟩

theorem OwnB.lt {w : World} {base : Nat} {v : Value} {l : List UInt8} (h : OwnB w base v l) : ∀ k, v.ownBlock = some k → base ≤ k ∧ k < w.heap.size := by
  intro k hk
  rcases h with ⟨rfl, _⟩ | ⟨g, cap, cur, fz, rfl, hb, hg, _⟩
  · simp [Value.ownBlock] at hk
  · simp [Value.ownBlock] at hk
    subst hk
    exact ⟨hb, (Array.getElem?_eq_some_iff.1 hg).1⟩

theorem OwnB.kept {w w' : World} {base : Nat} {v : Value} {l : List UInt8} {row : Option Nat} (h : OwnB w base v l) (hg : w.grownBy w' row) (hne : v.ownBlock = none ∨ v.ownBlock ≠ row) : OwnB w' base v l := by
  rcases h with hn | ⟨g, cap, cur, fz, rfl, hb, hgg, rest⟩
  · exact .inl hn
  · refine .inr ⟨g, cap, cur, fz, rfl, hb, ?_, rest⟩
    rw [hg.block g (Array.getElem?_eq_some_iff.1 hgg).1 (by simpa [Value.ownBlock] using hne)]
    exact hgg

/-- What only makes new blocks leaves it. -/
theorem OwnB.below {w w' : World} {base : Nat} {v : Value} {l : List UInt8} (h : OwnB w base v l) (hb : Grew w w') : OwnB w' base v l := by
  rcases h with hn | ⟨g, cap, cur, fz, rfl, hbs, hgg, rest⟩
  · exact .inl hn
  · exact .inr ⟨g, cap, cur, fz, rfl, hbs, (hb.block g (Array.getElem?_eq_some_iff.1 hgg).1).trans hgg, rest⟩
theorem OwnB.base {w : World} {B C : Nat} {v : Value} {l : List UInt8} (h : OwnB w C v l) (hBC : B ≤ C) : OwnB w B v l := by
  rcases h with hn | ⟨g, cap, cur, fz, rfl, hbs, rest⟩
  · exact .inl hn
  · exact .inr ⟨g, cap, cur, fz, rfl, by omega, rest⟩

theorem OwnB.val {w : World} {base : Nat} {v : Value} {l : List UInt8} (h : OwnB w base v l) : ∃ p cap, v = .slice p l.length cap ∧ Rd w p l ∧ l.length ≤ cap ∧ (∀ a, p = some a → base ≤ a.block ∧ a.block < w.heap.size) := by
  rcases h with ⟨rfl, rfl⟩ | ⟨g, cap, cur, fz, rfl, hb, hg, hfz, hlc, hcm, hcs, ht⟩
  · exact ⟨none, 0, rfl, .inl rfl, Nat.le_refl _, fun a h => by cases h⟩
  · have hlt := (Array.getElem?_eq_some_iff.1 hg).1
    refine ⟨_, cap, rfl, .inr ⟨g, 0, rfl, hlt, fun i hi => ?_⟩, hlc, fun a h => by cases h; exact ⟨hb, hlt⟩⟩
    rw [cell_of_row w g _ cur _ fz hg, Nat.zero_add]
    have h1 : (Lib.byteCells l)[i]? = some (.int .u8 ((l.getD i 0).toNat : Int)) := by simp [Lib.byteCells, List.getElem?_eq_getElem hi, List.getD_eq_getElem?_getD]
    rw [← ht, List.getElem?_take, if_pos hi] at h1
    simpa using h1

theorem OwnB.of_ownsRow {w : World} {base : Nat} {v : Value} {n : Nat} {l : List UInt8} (h : w.ownsRow base 5 1 v n (Lib.byteCells l)) : OwnB w base v l := by
  have hn : n = l.length := by have := h.1; rw [Lib.byteCells_length] at this; omega
  subst hn
  rcases h.2 with ⟨rfl, h0⟩ | ⟨g, cap, cur, rfl, hb, hg, hnc, hcm, hcs, ht⟩
  · exact .inl ⟨rfl, List.eq_nil_of_length_eq_zero h0⟩
  · exact .inr ⟨g, cap, cur, (0, 0), rfl, hb, hg, .inl (Nat.zero_le _), hnc, hcm, by omega, by simpa using ht⟩

/-- '[]byte(s)'. -/
theorem OwnB.conv {w : World} {base : Nat} (s : ByteArray) (hb : base ≤ w.heap.size) (hs : s.size ≤ 9223372036854775807) : OwnB (Lib.bytesWorld w 5 s) base (.slice (some ⟨w.heap.size, 0, none⟩) s.data.toList.length (grownCap w s.size 0 5)) s.data.toList := by
  have hl : s.data.toList.length = s.size := Array.length_toList
  have hge := grownCap_ge w s.size 0 5
  have hcm := grownCap_le_maxLen w s.size 0 5 (by unfold maxLen; exact hs)
  have hsz : (Lib.bytesCells w 5 s).size = grownCap w s.size 0 5 := by
    unfold Lib.bytesCells
    have : s.data.size = s.size := rfl
    rw [Array.size_append, Array.size_map, Array.size_replicate]
    omega
  refine .inr ⟨_, _, _, _, rfl, hb, Lib.bytesWorld_at_new w 5 s, .inr (by rw [hsz]; exact Nat.le_refl _), by omega, hcm, hsz, ?_⟩
  unfold Lib.bytesCells
  rw [Array.toList_append, List.take_append_of_le_length (by simp), List.take_of_length_le (by simp)]
  simp [Lib.byteCells]
theorem OwnB.conv' {w : World} {base : Nat} (s : ByteArray) (hb : base ≤ w.heap.size) (hs : s.size ≤ 9223372036854775807) : OwnB (Lib.bytesWorld w 5 s) base (.slice (some ⟨w.heap.size, 0, none⟩) s.size (grownCap w s.size 0 5)) s.data.toList := by
  have h := OwnB.conv s hb hs
  rwa [show s.data.toList.length = s.size from Array.length_toList] at h
/-- Two texts, one behind the other. -/
theorem str_add (a b c : ByteArray) (h : a.size + b.size < 9223372036854775808) (hc : a ++ b = c) (w : World) : (binOp .add 9 (.string a) (.string b)).run Tryd.prog w = .ok (.string c) w := by
  subst hc
  simp [binOp_string_add, Op.stringOp, go_sem, ByteArray.size_append]
  omega
theorem bytesWorld_grew (w : World) (s : ByteArray) : Grew w (Lib.bytesWorld w 5 s) :=
  ⟨rfl, rfl, rfl, by rw [Lib.bytesWorld_size]; omega, fun k hk => Lib.bytesWorld_at_old w _ s k hk⟩
theorem run_conv_bytes (w : World) (s : ByteArray) : (convert 9 25 (.string s)).run Tryd.prog w = .ok (.slice (some ⟨w.heap.size, 0, none⟩) s.data.toList.length (grownCap w s.size 0 5)) (Lib.bytesWorld w 5 s) := by
  have hl : s.data.toList.length = s.size := Array.length_toList
  rw [hl]
  exact Lib.run_convert_string_bytes w _ _ _ s Tryd.underlying9 Tryd.underlying25 Tryd.underlying5

theorem run_storeCells_atT (P : Program) (g o : Nat) (t : TypeId) (fz : Nat × Nat) : ∀ (vs : List Value) (i : Nat) (cur : Array Value) (w : World), w.heap[g]? = some (.cells cur t fz) → (fz.2 ≤ o + i ∨ o + i + vs.length ≤ fz.1) → o + i + vs.length ≤ cur.size → (∀ v ∈ vs, v.oneCell' = true) →
    (storeCells ⟨g, o, none⟩ vs i).run P w = .ok () (w.setRow g (cur.toList.take (o + i) ++ vs ++ cur.toList.drop (o + i + vs.length)).toArray)
  | [], i, cur, w, hg, _, _, _ => by
    simp only [storeCells, List.append_nil, List.length_nil, Nat.add_zero, List.take_append_drop, Array.toArray_toList]
    rw [setRow_self w g cur t fz hg]
    rfl
  | v :: rest, i, cur, w, hg, hfz, hl, h1 => by
    have hi : o + i < cur.size := by simp at hl; omega
    have hadd : (⟨g, o, none⟩ : Addr).add i = ⟨g, o + i, none⟩ := by unfold Addr.add; split <;> simp_all
    have hcell : w.cell? ⟨g, o + i, none⟩ = some cur[o + i] := by simp [World.cell?, hg, hi]
    have hfro : w.frozen? ⟨g, o + i, none⟩ = false := by
      obtain ⟨lo, hi'⟩ := fz
      simp only [World.frozen?, hg, Bool.and_eq_false_iff, decide_eq_false_iff_not]
      simp only [List.length_cons] at hfz
      omega
    have hst : (store ((⟨g, o, none⟩ : Addr).add i) v).run P w = .ok () (w.setRow g (cur.setIfInBounds (o + i) v)) := by
      rw [hadd, run_store P w _ v _ (h1 v (by simp)), hcell]
      simp [hfro, setCell_eq_setRow w g (o + i) cur t fz v hg]
    have ih := run_storeCells_atT P g o t fz rest (i + 1) (cur.setIfInBounds (o + i) v) (w.setRow g (cur.setIfInBounds (o + i) v)) (setRow_heap w g cur _ t _ hg) (by simp only [List.length_cons] at hfz; omega) (by simp at hl ⊢; omega) (fun x hx => h1 x (by simp [hx]))
    simp only [storeCells, Sem.run_bind, hst, Result.andThen_ok, ih, setRow_setRow]
    congr 3
    have e := list_seg_step cur.toList (o + i) v rest (by simp at hl ⊢; omega)
    simpa [Array.toList_setIfInBounds, Nat.add_assoc] using e

/-- What both sources of an append come to. -/
theorem append_core (v : Value) (l m : List UInt8) (w : World) (base : Nat) (hown : OwnB w base v l) (hbase : base ≤ w.heap.size) (h63 : l.length + m.length ≤ 140737488355328) (x : Value) (t2 : TypeId) (ty : TypeId) (i0 : TypeInfo) (hi : Tryd.prog.info? 5 = some i0) (hz0 : i0.zero = some (.int .u8 0)) (hz1 : i0.size = 1) (hz2 : i0.bytes = 1)
    (hnil : v = .slice none 0 0 → ∃ v' w', (Builtin.append_ #[25, t2] ty #[v, x]).run Tryd.prog w = .ok v' w' ∧ w'.ownsRow base 5 1 v' (0 + m.length) ([] ++ Lib.byteCells m) ∧ w.grownBy w' none)
    (hroom : ∀ g cap cur fz, v = .slice (some ⟨g, 0, none⟩) l.length cap → w.heap[g]? = some (.cells cur 5 fz) → (fz.2 ≤ l.length ∨ l.length + m.length ≤ fz.1) → l.length + m.length ≤ cap → l.length + m.length ≤ cur.size →
      (Builtin.append_ #[25, t2] ty #[v, x]).run Tryd.prog w = .ok (.slice (some ⟨g, 0, none⟩) (l.length + m.length) cap) (w.setRow g (cur.toList.take l.length ++ Lib.byteCells m ++ cur.toList.drop (l.length + m.length)).toArray))
    (hgrow : ∀ g cap, v = .slice (some ⟨g, 0, none⟩) l.length cap → (∀ j u, (Lib.byteCells l)[j]? = some u → w.cell? ((⟨g, 0, none⟩ : Addr).add j) = some u) → cap < l.length + m.length →
      (Builtin.append_ #[25, t2] ty #[v, x]).run Tryd.prog w = .ok (.slice (some ⟨w.heap.size, 0, none⟩) (l.length + m.length) (grownCap w (l.length + m.length) cap 5)) (w.drew.alloc (.cells ((Lib.byteCells l).toArray ++ (Lib.byteCells m).toArray ++ Builtin.zeroCells (Value.int .u8 0).cells (grownCap w (l.length + m.length) cap 5 - (l.length + m.length))) 5))) :
    ∃ v' w', (Builtin.append_ #[25, t2] ty #[v, x]).run Tryd.prog w = .ok v' w' ∧ OwnB w' base v' (l ++ m) ∧ Below base w w' ∧ w.grownBy w' v.ownBlock := by
  have hl0 := hown.lt
  rcases hown with ⟨rfl, rfl⟩ | ⟨g, cap, cur, fz, rfl, hbg, hg, hfz, hnc, hcm, hcs, htake⟩
  · obtain ⟨v', w', h1, h2, h3⟩ := hnil rfl
    exact ⟨v', w', h1, OwnB.of_ownsRow h2, (Below.refl _ _).grown h3 hbase (fun k hk => by cases hk), h3⟩
  · have hlen : (Lib.byteCells (l ++ m)).length = l.length + m.length := by rw [Lib.byteCells_length, List.length_append]
    have hlen2 : (l ++ m).length = l.length + m.length := List.length_append
    by_cases hr : l.length + m.length ≤ cap
    · have hrun := hroom g cap cur fz rfl hg (by omega) hr (by omega)
      have hgb : w.grownBy (w.setRow g (cur.toList.take l.length ++ Lib.byteCells m ++ cur.toList.drop (l.length + m.length)).toArray) (Value.slice (some ⟨g, 0, none⟩) l.length cap).ownBlock :=
        ⟨rfl, rfl, rfl, by simp, fun k _ hk => setRow_other w g k _ (fun e => hk (by simp [Value.ownBlock, e]))⟩
      refine ⟨_, _, hrun, .inr ⟨g, cap, _, fz, by rw [hlen2], hbg, setRow_heap w g cur _ _ _ hg, by omega, by omega, hcm, ?_, ?_⟩, (Below.refl _ _).grown hgb hbase (fun k hk => (hl0 k hk).1), hgb⟩
      · simp only [List.size_toArray, List.length_append, List.length_take, List.length_drop, Array.length_toList, Lib.byteCells_length]
        omega
      · rw [htake, ← Lib.byteCells_append, hlen2, ← hlen]
        exact List.take_left
    · have hcells : ∀ j u, (Lib.byteCells l)[j]? = some u → w.cell? ((⟨g, 0, none⟩ : Addr).add j) = some u := by
        intro j u hu
        rw [Addr.add_mid, Nat.zero_add, cell_of_row w g j cur _ fz hg]
        rw [← htake, List.getElem?_take] at hu
        split at hu
        · simpa using hu
        · cases hu
      have hrun := hgrow g cap rfl hcells (by omega)
      have hge := grownCap_ge w (l.length + m.length) cap 5
      have hcm2 : grownCap w (l.length + m.length) cap 5 ≤ maxLen := grownCap_le_maxLen w (l.length + m.length) cap 5 (by unfold maxLen; omega)
      have hgb : w.grownBy (w.drew.alloc (.cells ((Lib.byteCells l).toArray ++ (Lib.byteCells m).toArray ++ Builtin.zeroCells (Value.int .u8 0).cells (grownCap w (l.length + m.length) cap 5 - (l.length + m.length))) 5)) (Value.slice (some ⟨g, 0, none⟩) l.length cap).ownBlock :=
        ⟨rfl, rfl, rfl, by simp, fun k hk _ => heap_alloc_old w.drew _ hk⟩
      refine ⟨_, _, hrun, .inr ⟨w.heap.size, _, _, (0, 0), by rw [hlen2], hbase, heap_alloc_new w.drew _, .inl (Nat.zero_le _), by rw [hlen2]; exact hge, hcm2, ?_, ?_⟩, (Below.refl _ _).grown hgb hbase (fun k hk => (hl0 k hk).1), hgb⟩
      · have hz3 : (Value.int IntKind.u8 0).cells.size = 1 := rfl
        simp only [Array.size_append, List.size_toArray, size_zeroCells, hz3, Lib.byteCells_length]
        omega
      · simp only [Array.toList_append]
        rw [hlen2, ← hlen, Lib.byteCells_append]
        exact List.take_left

theorem infoB : ∃ i0, Tryd.prog.info? 5 = some i0 ∧ i0.zero = some (.int .u8 0) ∧ i0.size = 1 ∧ i0.bytes = 1 := info_parts infoU8'

/-- append(v, x...), x bytes in memory. -/
theorem own_append (v : Value) (l m : List UInt8) (p : Option Addr) (c : Nat) (w : World) (base : Nat) (ty : TypeId) (hown : OwnB w base v l) (hr : Rd w p m) (hbase : base ≤ w.heap.size) (h63 : l.length + m.length ≤ 140737488355328) :
    ∃ v' w', (Builtin.append_ #[25, 25] ty #[v, .slice p m.length c]).run Tryd.prog w = .ok v' w' ∧ OwnB w' base v' (l ++ m) ∧ Below base w w' ∧ w.grownBy w' v.ownBlock := by
  obtain ⟨i0, hi, hz0, hz1, hz2⟩ := infoB
  cases p with
  | none =>
    have hm : m = [] := by
      rcases hr with h | ⟨b, o, e, _⟩
      · exact h
      · cases e
    subst hm
    refine ⟨v, w, ?_, by rw [List.append_nil]; exact hown, Below.refl _ _, ⟨rfl, rfl, rfl, Nat.le_refl _, fun _ _ _ => rfl⟩⟩
    rcases hown with ⟨rfl, rfl⟩ | ⟨g, cap, cur, fz, rfl, hbg, hg, hfz, hnc, hcm, hcs, htake⟩
    · simp [Builtin.append_, run_underlying Tryd.underlying25, sizeOf, typeInfo, hi, Builtin.lenOf, Builtin.firstCells, storeCells]
    · simp [Builtin.append_, run_underlying Tryd.underlying25, sizeOf, typeInfo, hi, Builtin.lenOf, Builtin.firstCells, hnc, storeCells]
  | some a =>
    refine append_core v l m w base hown hbase h63 _ _ ty i0 hi hz0 hz1 hz2 ?_ ?_ ?_
    · intro hv
      subst hv
      have hl : l = [] := by
        rcases hown with ⟨_, h⟩ | ⟨g, cap, cur, fz, h, _⟩
        · exact h
        · cases h
      subst hl
      obtain ⟨v', w', r1, r2, r3, r4⟩ := run_append_own (P := Tryd.prog) w base 25 ty 5 i0 (.int .u8 0) 1 1 Tryd.underlying25 hi hz0 hz1 hz2 rfl (by decide) (.slice none 0 0) 0 [] ⟨by simp, .inl ⟨rfl, rfl⟩⟩ a m.length c (Lib.byteCells m) (by rw [Lib.byteCells_length, Nat.mul_one]) hr.cells (one_bytes' m) (by unfold maxLen; simp at h63; omega) (by simp at h63; omega) hbase
      exact ⟨v', w', r1, r2, r3⟩
    · intro g cap cur fz hv hg hfz hroom hfit
      subst hv
      have hf := run_firstCells_some (P := Tryd.prog) w 1 m.length a m.length c (Lib.byteCells m) (by rw [Lib.byteCells_length, Nat.mul_one]) hr.cells
      have hst := run_storeCells_atT Tryd.prog g l.length 5 fz (Lib.byteCells m) 0 cur w hg (by rw [Lib.byteCells_length]; simpa using hfz) (by rw [Lib.byteCells_length]; simpa using hfit) (one_bytes' m)
      simp only [Nat.add_zero, Lib.byteCells_length] at hst
      simp [Builtin.append_, run_underlying Tryd.underlying25, sizeOf, typeInfo, hi, hz1, Builtin.lenOf, hroom, hf, Addr.add_lit, hst]
    · intro g cap hv hc hcap
      subst hv
      have hlc : l.length ≤ cap := by
        rcases hown with ⟨h, _⟩ | ⟨g', cap', cur, fz, h, _, _, _, hn, _⟩
        · cases h
        · cases h; exact hn
      have hr := run_append_grow (P := Tryd.prog) w 25 ty 5 i0 (.int .u8 0) Tryd.underlying25 hi hz0 ⟨g, 0, none⟩ l.length cap (Lib.byteCells l) (by rw [Lib.byteCells_length, hz1, Nat.mul_one]) hc a m.length c (Lib.byteCells m) (by rw [Lib.byteCells_length, hz1, Nat.mul_one]) hr.cells (by omega) (by omega) (by rw [hz2]; exact growslice_fits (by omega) (by omega))
      exact hr

/-- append(v, s...), s a text. -/
theorem own_append_str (v : Value) (l : List UInt8) (s : ByteArray) (w : World) (base : Nat) (ty : TypeId) (hown : OwnB w base v l) (hbase : base ≤ w.heap.size) (h63 : l.length + s.size ≤ 140737488355328) :
    ∃ v' w', (Builtin.append_ #[25, 9] ty #[v, .string s]).run Tryd.prog w = .ok v' w' ∧ OwnB w' base v' (l ++ s.data.toList) ∧ Below base w w' ∧ w.grownBy w' v.ownBlock := by
  obtain ⟨i0, hi, hz0, hz1, hz2⟩ := infoB
  have hsl : s.data.toList.length = s.size := Array.length_toList
  have hsc : Lib.strCells s = Lib.byteCells s.data.toList := rfl
  refine append_core v l s.data.toList w base hown hbase (by omega) _ _ ty i0 hi hz0 hz1 hz2 ?_ ?_ ?_
  · intro hv
    subst hv
    have hl : l = [] := by
      rcases hown with ⟨_, h⟩ | ⟨g, cap, cur, fz, h, _⟩
      · exact h
      · cases h
    subst hl
    obtain ⟨v', w', r1, r2, r3, r4⟩ := Lib.run_append_own_string (P := Tryd.prog) w base 25 9 ty 5 i0 Tryd.underlying25 Tryd.underlying9 hi hz0 hz1 hz2 (.slice none 0 0) 0 [] ⟨by simp, .inl ⟨rfl, rfl⟩⟩ s (by unfold maxLen; simp at h63; omega) (by simp at h63; omega) hbase
    rw [hsl]
    exact ⟨v', w', r1, r2, r3⟩
  · intro g cap cur fz hv hg hfz hroom hfit
    subst hv
    rw [hsl] at hfz hroom hfit ⊢
    have hf := Lib.run_firstCells_string (P := Tryd.prog) w 1 s
    have hst := run_storeCells_atT Tryd.prog g l.length 5 fz (Lib.strCells s) 0 cur w hg (by rw [Lib.strCells_length]; simpa using hfz) (by rw [Lib.strCells_length]; simpa using hfit) (Lib.strCells_oneCell s)
    simp only [Nat.add_zero, Lib.strCells_length] at hst
    rw [← hsc]
    simp [Builtin.append_, run_underlying Tryd.underlying25, run_underlying Tryd.underlying9, sizeOf, typeInfo, hi, hz1, Builtin.lenOf, hroom, hf, Addr.add_lit, hst]
  · intro g cap hv hc hcap
    subst hv
    rw [hsl] at hcap ⊢
    have hlc : l.length ≤ cap := by
      rcases hown with ⟨h, _⟩ | ⟨g', cap', cur, fz, h, _, _, _, hn, _⟩
      · cases h
      · cases h; exact hn
    have hr := Lib.run_append_grow_string (P := Tryd.prog) w 25 9 ty 5 i0 (.int .u8 0) Tryd.underlying25 Tryd.underlying9 hi hz0 ⟨g, 0, none⟩ l.length cap (Lib.byteCells l) (by rw [Lib.byteCells_length, hz1, Nat.mul_one]) hc s (by omega) (by omega) (by rw [hz2]; exact growslice_fits (by omega) (by omega))
    exact hr

/-- The two, for a walk. -/
theorem wpList_append_B {ops : Array Oper} {rest : List Oper} {o : Oper} {a : Act} {w : World} {Q : Exit → Act → World → Prop} (hgd : o.guard = none) (s x : Operand)
    (ho : o.op = .call { callee := .builtin .append, args := #[s, x], argTypes := #[25, 25] }) (base : Nat) (v : Value) (l m : List UInt8) (p : Option Addr) (c : Nat) (hs : a.eval s = v) (hx : a.eval x = .slice p m.length c)
    (hown : OwnB w base v l) (hr : Rd w p m) (hbase : base ≤ w.heap.size) (h63 : l.length + m.length ≤ 140737488355328)
    (h : ∀ v' w', OwnB w' base v' (l ++ m) → Below base w w' → w.grownBy w' v.ownBlock → wpList Tryd.prog ops Q rest (a.put o.dst v') w') : wpList Tryd.prog ops Q (o :: rest) a w := by
  refine wpList_plain hgd fun K hK => ?_
  obtain ⟨v', w', hrun, h2, h3, h4⟩ := own_append v l m p c w base o.type hown hr hbase h63
  unfold Oper.wp execOp
  simp only [ho, resolve, invoke, builtin, Sem.run_bind, Sem.run_pure, Result.andThen_ok, List.map_toArray, List.map_cons, List.map_nil, hs, hx, hrun]
  exact hK _ _ (h v' w' h2 h3 h4)
theorem wpList_append_S {ops : Array Oper} {rest : List Oper} {o : Oper} {a : Act} {w : World} {Q : Exit → Act → World → Prop} (hgd : o.guard = none) (s x : Operand)
    (ho : o.op = .call { callee := .builtin .append, args := #[s, x], argTypes := #[25, 9] }) (base : Nat) (v : Value) (l : List UInt8) (t : ByteArray) (hs : a.eval s = v) (hx : a.eval x = .string t)
    (hown : OwnB w base v l) (hbase : base ≤ w.heap.size) (h63 : l.length + t.size ≤ 140737488355328)
    (h : ∀ v' w', OwnB w' base v' (l ++ t.data.toList) → Below base w w' → w.grownBy w' v.ownBlock → wpList Tryd.prog ops Q rest (a.put o.dst v') w') : wpList Tryd.prog ops Q (o :: rest) a w := by
  refine wpList_plain hgd fun K hK => ?_
  obtain ⟨v', w', hrun, h2, h3, h4⟩ := own_append_str v l t w base o.type hown hbase h63
  unfold Oper.wp execOp
  simp only [ho, resolve, invoke, builtin, Sem.run_bind, Sem.run_pure, Result.andThen_ok, List.map_toArray, List.map_cons, List.map_nil, hs, hx, hrun]
  exact hK _ _ (h v' w' h2 h3 h4)

/-- The two, as one step of a region that draws. -/
theorem step_append_B {ops : Array Oper} {o : Oper} {a : Act} {w : World} {K : Act → World → Prop} {Q : Exit → Act → World → Prop} {E : Prop} (hgd : o.guard = none) (s x : Operand)
    (ho : o.op = .call { callee := .builtin .append, args := #[s, x], argTypes := #[25, 25] }) (base : Nat) (v : Value) (l m : List UInt8) (p : Option Addr) (c : Nat) (hs : a.eval s = v) (hx : a.eval x = .slice p m.length c)
    (hown : OwnB w base v l) (hr : Rd w p m) (hbase : base ≤ w.heap.size) (h63 : l.length + m.length ≤ 140737488355328)
    (h : ∀ v' w', OwnB w' base v' (l ++ m) → Below base w w' → w.grownBy w' v.ownBlock → K (a.put o.dst v') w') : if Region.wanted o (yielded ops a.tmps) = true then Oper.wp Tryd.prog o a w K Q else E := by
  have hw : Region.wanted o (yielded ops a.tmps) = true := by simp [Region.wanted, hgd]
  rw [if_pos hw]
  obtain ⟨v', w', hrun, h2, h3, h4⟩ := own_append v l m p c w base o.type hown hr hbase h63
  unfold Oper.wp execOp
  simp only [ho, resolve, invoke, builtin, Sem.run_bind, Sem.run_pure, Result.andThen_ok, List.map_toArray, List.map_cons, List.map_nil, hs, hx, hrun]
  exact h v' w' h2 h3 h4
theorem step_append_S {ops : Array Oper} {o : Oper} {a : Act} {w : World} {K : Act → World → Prop} {Q : Exit → Act → World → Prop} {E : Prop} (hgd : o.guard = none) (s x : Operand)
    (ho : o.op = .call { callee := .builtin .append, args := #[s, x], argTypes := #[25, 9] }) (base : Nat) (v : Value) (l : List UInt8) (t : ByteArray) (hs : a.eval s = v) (hx : a.eval x = .string t)
    (hown : OwnB w base v l) (hbase : base ≤ w.heap.size) (h63 : l.length + t.size ≤ 140737488355328)
    (h : ∀ v' w', OwnB w' base v' (l ++ t.data.toList) → Below base w w' → w.grownBy w' v.ownBlock → K (a.put o.dst v') w') : if Region.wanted o (yielded ops a.tmps) = true then Oper.wp Tryd.prog o a w K Q else E := by
  have hw : Region.wanted o (yielded ops a.tmps) = true := by simp [Region.wanted, hgd]
  rw [if_pos hw]
  obtain ⟨v', w', hrun, h2, h3, h4⟩ := own_append_str v l t w base o.type hown hbase h63
  unfold Oper.wp execOp
  simp only [ho, resolve, invoke, builtin, Sem.run_bind, Sem.run_pure, Result.andThen_ok, List.map_toArray, List.map_cons, List.map_nil, hs, hx, hrun]
  exact h v' w' h2 h3 h4

/-- A block that a call lays ahead (an argument that is a struct): its cells stand in every later world. -/
theorem boxed (w : World) (cs : Array Value) (t : TypeId) : ∃ W0, w.alloc (.cells cs t) = W0 ∧ Grew w W0 ∧ Grew W0 W0 ∧ (∀ W, Grew W0 W → ∀ (j : Nat) v, cs[j]? = some v → W.cell? ⟨w.heap.size, j, none⟩ = some v) := by
  refine ⟨_, rfl, (Below.refl _ _).alloc (Nat.le_refl _) _, Below.refl _ _, fun W g j v hv => ?_⟩
  have h0 : (w.alloc (.cells cs t)).cell? ⟨w.heap.size, j, none⟩ = some v := by rw [cell_of_row _ _ _ _ _ (0, 0) (heap_alloc_new w _)]; exact hv
  exact (g.cell (World.block_lt_of_cell? _ _ h0)).trans h0
/-- Of such a block nothing is frozen. -/
theorem boxed_free {w W0 : World} {cs : Array Value} {t : TypeId} (h : w.alloc (.cells cs t) = W0) (W : World) (g : Grew W0 W) (j : Nat) : W.frozen? ⟨w.heap.size, j, none⟩ = false := by
  subst h
  have hb := heap_alloc_new w (.cells cs t)
  have hb2 := (g.block w.heap.size (Array.getElem?_eq_some_iff.1 hb).1).trans hb
  simp [World.frozen?, hb2]
/-- Bytes that lie in another block than the one that is written to. -/
theorem Rd.set {w : World} {q : Option Addr} {l : List UInt8} (h : Rd w q l) (p : Addr) (v : Value) (hne : ∀ a, q = some a → a.block ≠ p.block) : Rd (w.setCell p v) q l := by
  rcases h with h | ⟨b, o, rfl, hlt, hc⟩
  · exact .inl h
  · have hb := heap_setCell_other w p b v (hne _ rfl)
    refine .inr ⟨b, o, rfl, ?_, fun i hi => ?_⟩
    · have h1 : w.heap[b]? = some w.heap[b] := Array.getElem?_eq_getElem hlt
      rw [← hb] at h1
      exact (Array.getElem?_eq_some_iff.1 h1).1
    · rw [← hc i hi]
      simp only [World.cell?, hb]
theorem append_list (a b : ByteArray) : (a ++ b).data.toList = a.data.toList ++ b.data.toList := by
  rw [ByteArray.data_append]; simp

end Go.Proofs.YtbdcncojiejdoaaDoor

/- Plain functions for layer 11 (names of refs): which bytes may not stand in a name, its parts, which texts are names; no Go and no memory. -/
namespace Go.Proofs.YtbdcncojiejdoaaDoor.Pure
set_option linter.unusedVariables false
set_option linter.unusedSimpArgs false
open Go.Lib

/-- A byte that may not stand in a name. -/
def badB (c : UInt8) : Bool := decide (c.toNat ≤ 32) || c.toNat == 127 || ([126, 94, 58, 63, 42, 91, 92] : List UInt8).contains c
/-- A name cut at each /. -/
def splitS : List UInt8 → List (List UInt8)
  | [] => [[]]
  | c :: r => if c = 47 then [] :: splitS r else (c :: (splitS r).headD []) :: (splitS r).tail
/-- A part that may be. -/
def partP (p : List UInt8) : Bool := !p.isEmpty && !hasPrefix p [46] && !hasSuffix p [46, 108, 111, 99, 107]
/-- A ref's name that may be. -/
def right (s : List UInt8) : Bool :=
  decide (s.length ≤ 200) && validD s && !contains s [46, 46] && !contains s [64, 123] && !hasSuffix s [46] && s.all (fun c => !badB c) && (splitS s).all partP && decide (2 ≤ (splitS s).length)
def headsL : List UInt8 := [114, 101, 102, 115, 47, 104, 101, 97, 100, 115, 47]
/-- A branch's name that may be. -/
def branch (s : List UInt8) : Bool := !hasPrefix s [45] && right (headsL ++ s)

theorem splitS_ne (l : List UInt8) : splitS l ≠ [] := by
  cases l with
  | nil => simp [splitS]
  | cons c r => unfold splitS; split <;> simp
theorem splitS_eq (l : List UInt8) : splitS l = (splitS l).headD [] :: (splitS l).tail := by
  cases h : splitS l with
  | nil => exact absurd h (splitS_ne l)
  | cons a b => rfl

theorem splitS_cons {c : UInt8} (h : c ≠ 47) (r : List UInt8) : splitS (c :: r) = (c :: (splitS r).headD []) :: (splitS r).tail := by simp [splitS, h]
theorem splitS_slash (r : List UInt8) : splitS (47 :: r) = [] :: splitS r := by simp [splitS]

/-- Cut at the first /. -/
theorem splitS_hit : ∀ (a b : List UInt8), (∀ c ∈ a, c ≠ 47) → splitS (a ++ 47 :: b) = a :: splitS b
  | [], b, _ => by simp [splitS]
  | c :: a, b, h => by
    have hc : c ≠ 47 := h c (by simp)
    rw [List.cons_append, splitS_cons hc, splitS_hit a b (fun x hx => h x (by simp [hx]))]
    rfl
theorem splitS_none : ∀ (a : List UInt8), (∀ c ∈ a, c ≠ 47) → splitS a = [a]
  | [], _ => rfl
  | c :: a, h => by
    have hc : c ≠ 47 := h c (by simp)
    rw [splitS_cons hc, splitS_none a (fun x hx => h x (by simp [hx]))]
    rfl

theorem splitS_len : ∀ (l : List UInt8), ∀ p ∈ splitS l, p.length ≤ l.length
  | [], p, h => by simp [splitS] at h; subst h; simp
  | c :: r, p, h => by
    have ih := splitS_len r
    by_cases hc : c = 47
    · subst hc
      rw [splitS_slash, List.mem_cons] at h
      rcases h with rfl | h
      · simp
      · have := ih p h; simp; omega
    · rw [splitS_cons hc, List.mem_cons] at h
      rcases h with rfl | h
      · have := ih ((splitS r).headD []) (by rw [splitS_eq r]; simp)
        simp only [List.length_cons]; omega
      · have := ih p (List.mem_of_mem_tail h)
        simp only [List.length_cons]; omega

theorem splitK_eq : ∀ (k : Nat) (l : List UInt8), l.count 47 = k → splitK [47] 0 k l = splitS l
  | 0, l, h => by
    rw [List.count_eq_zero] at h
    exact (splitS_none l (fun c hc e => h (e ▸ hc))).symm
  | k + 1, l, h => by
    have hm : (47 : UInt8) ∈ l := by
      apply Classical.byContradiction
      intro hn
      have := List.count_eq_zero.2 hn
      omega
    have hix : ∃ i : Nat, indexByte l 47 = i := by
      cases hq : indexByte l 47 with
      | ofNat i => exact ⟨i, rfl⟩
      | negSucc i =>
        exfalso
        have h1 : -1 ≤ indexByte l 47 := by rw [← index_one]; exact index_ge _ _
        have h2 : indexByte l 47 = -1 := by omega
        obtain ⟨j, hj⟩ := List.mem_iff_getElem?.1 hm
        exact indexByte_none h2 j hj
    obtain ⟨i, hi⟩ := hix
    obtain ⟨h1, h2⟩ := indexByte_some hi
    have hlt : i < l.length := (List.getElem?_eq_some_iff.1 h1).1
    have hd : l.drop i = 47 :: l.drop (i + 1) := by
      rw [List.drop_eq_getElem_cons hlt, (List.getElem?_eq_some_iff.1 h1).2]
    have hl : l = l.take i ++ 47 :: l.drop (i + 1) := by
      conv => lhs; rw [← List.take_append_drop i l, hd]
    have ha : ∀ c ∈ l.take i, c ≠ 47 := by
      intro c hc e
      subst e
      obtain ⟨j, hj⟩ := List.mem_iff_getElem?.1 hc
      rw [List.getElem?_take] at hj
      split at hj
      · rename_i hji; exact h2 j hji hj
      · cases hj
    have hc : (l.drop (i + 1)).count 47 = k := by
      rw [hl, List.count_append, List.count_cons_self, List.count_eq_zero.2 (fun hm => ha _ hm rfl)] at h
      omega
    rw [splitK, index_one, hi, if_neg (by simp)]
    have e1 : ((i : Int)).toNat = i := by omega
    simp only [e1, Nat.add_zero, List.length_cons, List.length_nil, Nat.zero_add]
    rw [splitK_eq k _ hc]
    conv => rhs; rw [hl]
    rw [splitS_hit _ _ ha]

/-- strings.Split at /. -/
theorem splitB_eq (s : ByteArray) : (splitB ⟨#[47]⟩ 0 (countB s ⟨#[47]⟩) s).map (·.data.toList) = splitS s.data.toList := by
  rw [splitB_data]
  apply splitK_eq
  show List.count 47 s.data.toList = count s.data.toList [47]
  rw [count_one]

/-- What the reference does, byte by byte: the part at hand, and how many stand ahead of it. -/
def scan (cur : List UInt8) (n : Nat) : List UInt8 → Bool
  | [] => partP cur && decide (2 ≤ n + 1)
  | c :: r => if c = 47 then partP cur && scan [] (n + 1) r else !badB c && scan (cur ++ [c]) n r

theorem scan_slash (cur : List UInt8) (n : Nat) (r : List UInt8) : scan cur n (47 :: r) = (partP cur && scan [] (n + 1) r) := by simp [scan]
theorem scan_other (cur : List UInt8) (n : Nat) {c : UInt8} (h : c ≠ 47) (r : List UInt8) : scan cur n (c :: r) = (!badB c && scan (cur ++ [c]) n r) := by simp [scan, h]
theorem scan_end (cur : List UInt8) (n : Nat) : scan cur n [] = (partP cur && decide (2 ≤ n + 1)) := rfl
theorem piece_next (l : List UInt8) (f i : Nat) (hf : f ≤ i) (hi : i < l.length) : (l.take (i + 1)).drop f = (l.take i).drop f ++ [l[i]] := by
  rw [List.take_succ_eq_append_getElem hi, List.drop_append_of_le_length (by rw [List.length_take]; omega)]

theorem bad47 : badB 47 = false := by decide
theorem scan_eq : ∀ (l cur : List UInt8) (n : Nat), scan cur n l = (l.all (fun c => !badB c) && (partP (cur ++ (splitS l).headD []) && (splitS l).tail.all partP && decide (2 ≤ n + (splitS l).length)))
  | [], cur, n => by simp [scan, splitS]
  | c :: r, cur, n => by
    unfold scan
    by_cases h : c = 47
    · subst h
      have e : splitS (47 :: r) = [] :: splitS r := by simp [splitS]
      rw [if_pos rfl, scan_eq r, e]
      have e2 : (splitS r).all partP = (partP ((splitS r).headD []) && (splitS r).tail.all partP) := by
        conv => lhs; rw [splitS_eq r]
        simp
      simp only [List.all_cons, bad47, Bool.not_false, Bool.true_and, List.headD_cons, List.tail_cons, List.append_nil, List.length_cons, e2, List.nil_append]
      rw [show n + 1 + (splitS r).length = n + ((splitS r).length + 1) by omega]
      cases r.all (fun c => !badB c) <;> cases partP cur <;> simp
    · have e : splitS (c :: r) = (c :: (splitS r).headD []) :: (splitS r).tail := by simp [splitS, h]
      rw [if_neg h, scan_eq r, e]
      have e3 : (splitS r).length = (splitS r).tail.length + 1 := by rw [splitS_eq r]; rfl
      simp only [List.all_cons, List.headD_cons, List.tail_cons, List.append_assoc, List.singleton_append, List.length_cons, e3, Bool.and_assoc]

theorem scan_right (l : List UInt8) : scan [] 0 l = (l.all (fun c => !badB c) && (splitS l).all partP && decide (2 ≤ (splitS l).length)) := by
  have e2 : (splitS l).all partP = (partP ((splitS l).headD []) && (splitS l).tail.all partP) := by
    conv => lhs; rw [splitS_eq l]
    simp
  rw [scan_eq, e2, List.nil_append, Nat.zero_add]
  simp only [Bool.and_assoc]

theorem right_nil : right [] = false := by decide
/-- Which texts are names, as the reference asks it. -/
theorem right_scan (s : List UInt8) : right s = (decide (s.length ≤ 200) && validD s && !contains s [46, 46] && !contains s [64, 123] && !hasSuffix s [46] && scan [] 0 s) := by
  rw [scan_right]
  unfold right
  cases decide (s.length ≤ 200) && validD s && !contains s [46, 46] && !contains s [64, 123] && !hasSuffix s [46] <;> simp [Bool.and_assoc]

/-! ### runes and bytes -/
theorem decodeN_high (n b0 b1 b2 b3 : Nat) (h : 128 ≤ b0) : (decodeN n b0 b1 b2 b3).2 = 1 ∨ ((decodeN n b0 b1 b2 b3).2 = 2 ∧ 1 < n ∧ b1 / 64 = 2) ∨ ((decodeN n b0 b1 b2 b3).2 = 3 ∧ 2 < n ∧ b1 / 64 = 2 ∧ b2 / 64 = 2) ∨ ((decodeN n b0 b1 b2 b3).2 = 4 ∧ 3 < n ∧ b1 / 64 = 2 ∧ b2 / 64 = 2 ∧ b3 / 64 = 2) := by
  unfold decodeN
  rw [if_neg (by omega)]
  repeat' split
  all_goals simp_all

theorem get_bang (s : ByteArray) (k : Nat) : (s.get! k).toNat = ((s.data.toList).getD k 0).toNat := by
  rw [getD_get!']

/-- The bytes of a rune that is not ASCII are all from 128 on. -/
theorem decode_bytes (s : ByteArray) (pos : Nat) (hp : pos < s.size) (h : 128 ≤ (s[pos]'hp).toNat) : ∀ c ∈ (s.data.toList.drop pos).take (Utf8.decode s pos).2, 128 ≤ c.toNat := by
  have hg0 : (s.get! pos).toNat = (s[pos]'hp).toNat := by
    have e : s.get! pos = s[pos]'hp := by simp [ByteArray.get!, getElem!_pos, hp]; rfl
    rw [e]
  have key := decodeN_high (s.size - pos) (s.get! pos).toNat (s.get! (pos + 1)).toNat (s.get! (pos + 2)).toNat (s.get! (pos + 3)).toNat (by omega)
  rw [← decode_at] at key
  intro c hc
  obtain ⟨j, hj⟩ := List.mem_iff_getElem?.1 hc
  rw [List.getElem?_take] at hj
  split at hj
  · rename_i hlt
    rw [List.getElem?_drop] at hj
    have hcj : (s.get! (pos + j)).toNat = c.toNat := by rw [get_bang, List.getD_eq_getElem?_getD, hj]; rfl
    rcases key with k | ⟨k, -, k1⟩ | ⟨k, -, k1, k2⟩ | ⟨k, -, k1, k2, k3⟩
    · have : j = 0 := by omega
      subst this; rw [Nat.add_zero] at hcj; omega
    · have : j = 0 ∨ j = 1 := by omega
      rcases this with rfl | rfl <;> (try rw [Nat.add_zero] at hcj) <;> omega
    · have : j = 0 ∨ j = 1 ∨ j = 2 := by omega
      rcases this with rfl | rfl | rfl <;> (try rw [Nat.add_zero] at hcj) <;> omega
    · have : j = 0 ∨ j = 1 ∨ j = 2 ∨ j = 3 := by omega
      rcases this with rfl | rfl | rfl | rfl <;> (try rw [Nat.add_zero] at hcj) <;> omega
  · cases hj

theorem bad_high {c : UInt8} (h : 128 ≤ c.toNat) : badB c = false := by
  have key : ∀ n : Fin 256, 128 ≤ n.val → badB (UInt8.ofNat n.val) = false := by decide +kernel
  have := key ⟨c.toNat, c.toNat_lt⟩ h
  simpa using this

theorem all_skip (s : ByteArray) (pos : Nat) (hp : pos < s.size) (h : 128 ≤ (s[pos]'hp).toNat) :
    (s.data.toList.drop pos).all (fun c => !badB c) = (s.data.toList.drop (pos + (Utf8.decode s pos).2)).all (fun c => !badB c) := by
  have hb := decode_bytes s pos hp h
  conv => lhs; rw [← List.take_append_drop (Utf8.decode s pos).2 (s.data.toList.drop pos), List.all_append, List.drop_drop]
  have : ((s.data.toList.drop pos).take (Utf8.decode s pos).2).all (fun c => !badB c) = true := by
    rw [List.all_eq_true]
    intro c hc
    rw [bad_high (hb c hc)]; rfl
  rw [this, Bool.true_and]

end Go.Proofs.YtbdcncojiejdoaaDoor.Pure

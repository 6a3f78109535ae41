/- Words for bytes in memory and small facts on worlds that the walks of this seat share: plain, of no function of the program. -/
import Derived.Test.YtbdcncojiejdoaaDoorProg
import Derived.WalkKit
import Derived.WalkSpells
import Derived.WalkLawsBesides
import Derived.Lib.SlBytesRow
import Derived.Lib.SlFresh
import Derived.KernelRfl
import Derived.Laws.MakeOwn
import Derived.Lib.OthersKept
import Derived.Lib.Hide
import Derived.Deep.MidRow
namespace Go.Proofs.YtbdcncojiejdoaaDoor
set_option linter.unusedVariables false
set_option linter.unusedSimpArgs false
open Go.RowKit

/-- The bytes l lie at p (an address, or nil where there is none). -/
def Rd (w : World) (p : Option Addr) (l : List UInt8) : Prop :=
  l = [] ∨ ∃ b o, p = some ⟨b, o, none⟩ ∧ b < w.heap.size ∧ ∀ i, i < l.length → w.cell? ⟨b, o + i, none⟩ = some (.int .u8 ((l.getD i 0).toNat : Int))

theorem Rd.nil (w : World) (p : Option Addr) : Rd w p [] := .inl rfl

theorem Rd.below {w w' : World} {p : Option Addr} {l : List UInt8} (h : Rd w p l) {B : Nat} (hb : Below B w w') (hB : w.heap.size ≤ B) : Rd w' p l := by
  rcases h with h | ⟨b, o, rfl, hlt, hc⟩
  · exact .inl h
  · exact .inr ⟨b, o, rfl, Nat.lt_of_lt_of_le hlt hb.size, fun i hi => (hb.cell (p := ⟨b, o + i, none⟩) (by show b < B; omega)).trans (hc i hi)⟩

/-- Below, said from the heap's size on. -/
abbrev Grew (w w' : World) : Prop := Below w.heap.size w w'

theorem Grew.trans' {a b c : World} (h : Grew a b) (k : Grew b c) : Grew a c := h.trans (k.mono h.size)

theorem byte_lt (x : UInt8) : (x.toNat : Int) < 256 := by have := x.toNat_lt; omega

/-- Two strings of the same bytes are one value. -/
theorem str_eq {a b : ByteArray} (h : a.data.toList = b.data.toList) : Value.string a = Value.string b := by
  cases a with | mk a => cases b with | mk b =>
  simp only at h
  rw [Array.toList_inj.1 h]

theorem ret_eq {a b : ByteArray} (h : a.data.toList = b.data.toList) : Ending.returned (Value.string a) = Ending.returned (Value.string b) := by rw [str_eq h]

theorem Grew.drewN {B : Nat} {w w' : World} (h : Below B w w') (n : Nat) : Below B w (w'.drewN n) := by
  induction n with
  | zero => exact h
  | succ n ih => exact ih.drew

theorem ret_int {k : IntKind} {a b : Int} (h : a = b) : Ending.returned (.int k a) = .returned (.int k b) := by rw [h]
theorem val_int {k : IntKind} {a b : Int} (h : a = b) : Value.int k a = .int k b := by rw [h]

/-- A slice of bytes that the call has made itself reads as its bytes. -/
theorem rd_of_owns {w : World} {B : Nat} {e : TypeId} {v : Value} {n : Nat} {l : List UInt8} (h : w.ownsRow B e 1 v n (Lib.byteCells l)) :
    n = l.length ∧ ∃ p cap, v = .slice p l.length cap ∧ l.length ≤ cap ∧ cap ≤ maxLen ∧ Rd w p l := by
  have hn : n = l.length := by have := h.1; rw [Lib.byteCells_length] at this; omega
  subst hn
  refine ⟨rfl, ?_⟩
  rcases h.2 with ⟨rfl, h0⟩ | ⟨g, cap, cur, rfl, hb, hg, hnc, hcm, hcs, ht⟩
  · have : l = [] := List.eq_nil_of_length_eq_zero h0
    subst this
    exact ⟨none, 0, rfl, Nat.le_refl _, by decide, .inl rfl⟩
  · refine ⟨_, cap, rfl, hnc, hcm, .inr ⟨g, 0, rfl, (Array.getElem?_eq_some_iff.1 hg).1, fun i hi => ?_⟩⟩
    have hc := World.ownsRow.cells (w := w) (base := B) (e := e) (size := 1) (v := .slice (some ⟨g, 0, none⟩) l.length cap) (n := l.length) (xs := Lib.byteCells l) h (g := g) rfl i
      (.int .u8 ((l.getD i 0).toNat : Int)) (by simp [Lib.byteCells, List.getElem?_eq_getElem hi, List.getD_eq_getElem?_getD])
    have hadd : (⟨g, 0, none⟩ : Addr).add i = ⟨g, 0 + i, none⟩ := by unfold Addr.add; split <;> simp_all
    rw [← hadd]
    exact hc

theorem infoU8' : (Tryd.prog.info? 5).map (fun i => (i.zero, i.size, i.bytes)) = some (some (.int .u8 0), 1, 1) := by kernel_rfl

/-- make([]byte, 0, n). -/
theorem make_bytes (n : Nat) (hn : n ≤ 140737488355328) (w : World) : ∃ C : Array Value, C.size = n ∧
    (Instr.makeSlice 25 (.int .i64 0) (.int .i64 (n : Int))).run Tryd.prog w = .ok (.slice (some ⟨w.heap.size, 0, none⟩) 0 n) (w.alloc (.cells C 5)) := by
  obtain ⟨i0, hi, hz0, hz1, hz2⟩ := info_parts infoU8'
  have h := run_make (P := Tryd.prog) w 25 5 i0 (.int .u8 0) Tryd.underlying25 hi hz0 .i64 .i64 0 (n : Int) (by omega) (by omega) (by rw [hz2]; omega) (by omega)
  exact ⟨_, by simp [madeCells, hz1], h⟩

/-- A string's iterator stands where it stood while a row of the call's own grows. -/
theorem iter_grown {w w' : World} {B : Nat} {e : TypeId} {v : Value} {n : Nat} {xs : List Value} {k pos : Nat} {s : ByteArray} (ho : w.ownsRow B e 1 v n xs) (hk : w.heap[k]? = some (.stringIter s pos)) (hg : w.grownBy w' v.ownBlock) :
    w'.heap[k]? = some (.stringIter s pos) := by
  rw [hg.block k (Array.getElem?_eq_some_iff.1 hk).1 ?_]
  · exact hk
  · intro e1
    rcases ho.2 with ⟨rfl, _⟩ | ⟨g, cap, cur, rfl, _, hgg, _⟩
    · simp [Value.ownBlock] at e1
    · simp only [Value.ownBlock, Option.some.injEq] at e1
      subst e1
      rw [hgg] at hk
      cases hk

/-- A row of the call's own stays its own while an iterator moves on. -/
theorem own_iterAt {w : World} {B : Nat} {e : TypeId} {v : Value} {n : Nat} {xs : List Value} {k pos : Nat} {s : ByteArray} (h : w.ownsRow B e 1 v n xs) (hk : w.heap[k]? = some (.stringIter s pos)) (p : Nat) :
    (w.iterAt k s p).ownsRow B e 1 v n xs := by
  refine ⟨h.1, ?_⟩
  rcases h.2 with h2 | ⟨g, cap, cur, rfl, hb, hg, r⟩
  · exact .inl h2
  · have hkg : g ≠ k := by
      intro e1
      rw [e1, hk] at hg
      cases hg
    exact .inr ⟨g, cap, cur, rfl, hb, (Lib.iterAt_other w k g s p hkg).trans hg, r⟩

/-- s[k] of a string. -/
theorem index_str (s : ByteArray) (k : Nat) (c : UInt8) (h : s.data.toList[k]? = some c) (w : World) :
    (Instr.index 9 (.string s) (.int .i64 (k : Int))).run Tryd.prog w = .ok (.int .u8 (c.toNat : Int)) w := by
  have hk : k < s.size := by
    have := (List.getElem?_eq_some_iff.1 h).1
    simpa using this
  have hc : s[k]? = some c := by
    rw [getElem?_pos s k hk]
    have := (List.getElem?_eq_some_iff.1 h).2
    rw [← this]; rfl
  simp [Instr.index, Sem.run, go_sem, hc]

/-- An id as a value. -/
def idV (l : List UInt8) : Value := .agg (Lib.byteCells l).toArray
def zeros20 : List UInt8 := List.replicate 20 0

theorem one_bytes (l : List UInt8) : (Lib.byteCells l).toArray.all (·.oneCell') = true :=
  Array.all_eq_true_iff_forall_mem.2 fun v hv => by
    simp [Lib.byteCells] at hv
    obtain ⟨x, _, rfl⟩ := hv
    rfl
theorem idV_zero : idV zeros20 = .agg #[.int .u8 0, .int .u8 0, .int .u8 0, .int .u8 0, .int .u8 0, .int .u8 0, .int .u8 0, .int .u8 0, .int .u8 0, .int .u8 0, .int .u8 0, .int .u8 0, .int .u8 0, .int .u8 0, .int .u8 0, .int .u8 0, .int .u8 0, .int .u8 0, .int .u8 0, .int .u8 0] := by rfl

/-- A row of bytes that the call owns, block, offset and all. -/
theorem owns_at {w : World} {B : Nat} {e : TypeId} {v : Value} {n : Nat} {l : List UInt8} (h : w.ownsRow B e 1 v n (Lib.byteCells l)) (h0 : 0 < l.length) :
    ∃ g cap, v = .slice (some ⟨g, 0, none⟩) l.length cap ∧ B ≤ g ∧ g < w.heap.size ∧ l.length ≤ cap ∧ cap ≤ maxLen ∧ w.rangeAt g 0 (Lib.byteCells l) := by
  have hn : n = l.length := by have := h.1; rw [Lib.byteCells_length] at this; omega
  subst hn
  rcases h.2 with ⟨rfl, h1⟩ | ⟨g, cap, cur, rfl, hb, hg, hnc, hcm, hcs, ht⟩
  · omega
  · refine ⟨g, cap, rfl, hb, (Array.getElem?_eq_some_iff.1 hg).1, hnc, hcm, fun j v hv => ?_⟩
    rw [cell_of_row w g _ cur e (0, 0) hg]
    rw [← ht, List.getElem?_take] at hv
    split at hv
    · simpa using hv
    · cases hv

theorem bit_or_16 : ∀ u : Nat, u < 16 → ∀ v : Nat, v < 16 → Go.bits .or .u8 (16 * (u : Int)) (v : Int) = 16 * (u : Int) + v := by decide

end Go.Proofs.YtbdcncojiejdoaaDoor

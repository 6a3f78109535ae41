/- A row whose last place behind its bytes is frozen (what []byte(s) makes): its cells may be set, and it reads as its bytes. No function of the program. -/
import Derived.Test.YtbdcncojiejdoaaDoorWords2
import Derived.Lib.ConvBytes
namespace Go.Proofs.YtbdcncojiejdoaaDoor
set_option linter.unusedVariables false
set_option linter.unusedSimpArgs false
open Go.RowKit

theorem set_cell_any (w : World) (g i : Nat) (cs : Array Value) (t : TypeId) (fz : Nat × Nat) (v : Value) (hg : w.heap[g]? = some (.cells cs t fz)) :
    (w.setCell ⟨g, i, none⟩ v).heap[g]? = some (.cells (cs.setIfInBounds i v) t fz) := by
  rw [setCell_eq_setRow w g i cs t fz v hg]
  exact setRow_heap w g cs _ t _ hg
theorem frozen_any (w : World) (g j : Nat) (cs : Array Value) (t : TypeId) (lo hi : Nat) (hg : w.heap[g]? = some (.cells cs t (lo, hi))) (hj : j < lo) : w.frozen? ⟨g, j, none⟩ = false := by
  simp [World.frozen?, hg]
  omega
/-- The cells hold the bytes l, from the head on. -/
def Holds8 (cs : Array Value) (l : List UInt8) : Prop := ∀ i, i < l.length → cs[i]? = some (.int .u8 ((l.getD i 0).toNat : Int))
theorem holds_bytes (w : World) (t : TypeId) (s : ByteArray) : Holds8 (Lib.bytesCells w t s) s.data.toList := by
  intro i hi
  have hs : s.data.toList.length = s.data.size := Array.length_toList
  unfold Lib.bytesCells
  rw [Array.getElem?_append_left (by rw [Array.size_map]; omega), Array.getElem?_map, ← Array.getElem?_toList, List.getElem?_eq_getElem hi, List.getD_eq_getElem?_getD, List.getElem?_eq_getElem hi]
  rfl
theorem holds_size {cs : Array Value} {l : List UInt8} (h : Holds8 cs l) : l.length ≤ cs.size := by
  apply Classical.byContradiction
  intro hn
  have := h cs.size (by omega)
  simp at this
theorem holds_set {cs : Array Value} {l : List UInt8} (h : Holds8 cs l) (k : Nat) (c : UInt8) : Holds8 (cs.setIfInBounds k (.int .u8 (c.toNat : Int))) (l.set k c) := by
  intro i hi
  rw [List.length_set] at hi
  have hsz := holds_size h
  rw [Array.getElem?_setIfInBounds, List.getD_eq_getElem?_getD, List.getElem?_set]
  by_cases e : k = i
  · subst e
    rw [if_pos rfl, if_pos rfl, if_pos (by omega), if_pos hi]
    rfl
  · rw [if_neg e, if_neg e, h i hi, List.getD_eq_getElem?_getD]
theorem rd_holds {w : World} {g : Nat} {cs : Array Value} {t : TypeId} {fz : Nat × Nat} {l : List UInt8} (hg : w.heap[g]? = some (.cells cs t fz)) (h : Holds8 cs l) : Rd w (some ⟨g, 0, none⟩) l :=
  .inr ⟨g, 0, rfl, (Array.getElem?_eq_some_iff.1 hg).1, fun i hi => by
    rw [cell_of_row w g _ cs t fz hg, Nat.zero_add]
    exact h i hi⟩

end Go.Proofs.YtbdcncojiejdoaaDoor

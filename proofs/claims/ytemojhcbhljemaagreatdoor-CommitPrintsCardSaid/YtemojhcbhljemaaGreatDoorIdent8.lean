/- ident.Clean: a text made clean. Conditions: the library's tables are laid; the text is at most 2^30 bytes long. -/
import Derived.Test.YtemojhcbhljemaaGreatDoorIdent1
import Derived.Test.YtemojhcbhljemaaGreatDoorM1
import Derived.Test.YtemojhcbhljemaaGreatDoorBuilder
import Derived.Lib.RuneCountTail
import Derived.Shelf.Unicode.DecodeAny
namespace Go.Proofs.YtemojhcbhljemaaGreatDoor
set_option linter.unusedVariables false
set_option linter.unusedSimpArgs false
open Go.RowKit

/-- What only makes new blocks leaves a builder, and a text's iterator. -/
theorem builder_grewI {B b : Nat} {bs : List Value} {w w' : World} (h : Lib.IsBuilderF tB tU8 B b bs w) (hg : Grew w w') : Lib.IsBuilderF tB tU8 B b bs w' := by
  have key : ∀ p, Lib.BuilderAtF tB tU8 B b p bs w → Lib.BuilderAtF tB tU8 B b p bs w' := by
    rintro p ⟨hB, v, hb, ⟨hl, ho⟩, hne⟩
    refine ⟨hB, v, (hg.block _ (Array.getElem?_eq_some_iff.1 hb).1).trans hb, ⟨hl, ?_⟩, hne⟩
    rcases ho with ho | ⟨g, cap, cur, fz, hv, h1, h2, h3⟩
    · exact .inl ho
    · exact .inr ⟨g, cap, cur, fz, hv, h1, (hg.block _ (Array.getElem?_eq_some_iff.1 h2).1).trans h2, h3⟩
  exact h.imp (key _) (key _)
theorem builder_ltI {B b : Nat} {bs : List Value} {w : World} (h : Lib.IsBuilderF tB tU8 B b bs w) : b < w.heap.size := by
  rcases h with h | h <;> exact h.lt
theorem kept_iterI {b k : Nat} {s : ByteArray} {pos : Nat} {w w' : World} (hk : Lib.OthersKept tU8 (some b) w w') (hne : k ≠ b) (h : w.heap[k]? = some (.stringIter s pos)) : w'.heap[k]? = some (.stringIter s pos) :=
  hk k _ h (by simpa using hne) (fun _ _ e => nomatch e)
theorem grew_iter {k : Nat} {s : ByteArray} {pos : Nat} {w w' : World} (hg : Grew w w') (h : w.heap[k]? = some (.stringIter s pos)) : w'.heap[k]? = some (.stringIter s pos) :=
  (hg.block _ (Array.getElem?_eq_some_iff.1 h).1).trans h
theorem decode_tailI (s : ByteArray) (pos : Nat) (h : pos < s.size) : Lib.decodeGo (s.extract pos s.size) = Utf8.decode s pos := by
  unfold Lib.decodeGo
  rw [if_neg (by rw [Lib.tail_size]; omega), Lib.tail_decode, Nat.add_zero]
theorem decode_fitsI (s : ByteArray) (pos : Nat) (h : pos < s.size) : pos + (Utf8.decode s pos).2 ≤ s.size := by
  have := Lib.decodeGo_le_size (s.extract pos s.size)
  rw [decode_tailI s pos h, Lib.tail_size] at this
  omega
theorem extract_list (s : ByteArray) (a b : Nat) : (s.extract a b).data.toList = (s.data.toList.drop a).take (b - a) := by
  simp [List.drop_take]
theorem strCells_eq (s : ByteArray) : Lib.strCells s = Lib.byteCells s.data.toList := by
  simp [Lib.strCells, Lib.byteCells]

/-- What is still to come behind what was kept. -/
def Kept (s : List UInt8) (pos : Nat) (pre : List UInt8) : Prop := pre ++ Pure.filt (s.drop pos) = Pure.filt s ∧ pre.length ≤ pos
theorem Kept.step {s pre : List UInt8} {pos : Nat} (h : Kept s pos pre) (hp : pos < s.length) : Kept s (pos + (Lib.decodeL (s.drop pos)).2) (pre ++ (if Pure.keepU (s.drop pos) then (s.drop pos).take (Lib.decodeL (s.drop pos)).2 else [])) := by
  obtain ⟨h1, h2⟩ := h
  have hne : s.drop pos ≠ [] := by intro e; have := congrArg List.length e; simp at this; omega
  rw [Pure.filt_step _ hne, List.drop_drop] at h1
  refine ⟨by rw [List.append_assoc, h1], ?_⟩
  rw [List.length_append]
  have : (if Pure.keepU (s.drop pos) = true then (s.drop pos).take (Lib.decodeL (s.drop pos)).2 else []).length ≤ (Lib.decodeL (s.drop pos)).2 := by
    split
    · rw [List.length_take]; omega
    · simp
  omega
theorem Kept.last {s pre : List UInt8} {pos : Nat} (h : Kept s pos pre) (hp : ¬ pos < s.length) : pre = Pure.filt s := by
  have := h.1
  rw [List.drop_of_length_le (by omega), Pure.filt_nil, List.append_nil] at this
  exact this

end Go.Proofs.YtemojhcbhljemaaGreatDoor

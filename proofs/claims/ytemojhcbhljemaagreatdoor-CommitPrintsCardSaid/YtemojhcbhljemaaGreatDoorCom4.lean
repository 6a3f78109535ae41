/- commit's lines: next, behind a pointer. Conditions: the text has at most 2^30 bytes; the library's tables are laid. -/
import Derived.Test.YtemojhcbhljemaaGreatDoorCom3
import Derived.Test.YtemojhcbhljemaaGreatDoorCut
namespace Go.Proofs.YtemojhcbhljemaaGreatDoor
set_option linter.unusedVariables false
set_option linter.unusedSimpArgs false
open Go.RowKit

/-- The lines that are left, and whether one was bad: a box of two cells. -/
abbrev LinesAt (g : Nat) (w : World) (rest : ByteArray) (bad : Bool) : Prop := w.heap[g]? = some (.cells #[.string rest, .bool bad] 56 (0, 0))
theorem lines_cells {g : Nat} {w : World} {rest : ByteArray} {bad : Bool} (h : LinesAt g w rest bad) : w.cell? ⟨g, 0, none⟩ = some (.string rest) ∧ w.cell? ⟨g, 1, none⟩ = some (.bool bad) := by
  unfold World.cell?
  simp only [h]
  exact ⟨rfl, rfl⟩
/-- What stands in the next line behind a word, and what is left behind the line. -/
def nextL (word rest : List UInt8) : Option (List UInt8 × List UInt8) :=
  match Pure.cutC 10 rest with
  | none => none
  | some (a, b) => if Lib.hasPrefix a word then some (Lib.trimPrefix a word, b) else none
/-- What next leaves. -/
def NextPost (g : Nat) (word rest : ByteArray) (bad : Bool) (w : World) (e : Ending) (w' : World) : Prop :=
  (nextL word.data.toList rest.data.toList = none ∧ e = .returned (.tuple #[.string ⟨#[]⟩, .bool false]) ∧ w.grownBy w' (some g) ∧ LinesAt g w' rest bad) ∨
  ∃ v r : ByteArray, nextL word.data.toList rest.data.toList = some (v.data.toList, r.data.toList) ∧ v.size + r.size < rest.size ∧ e = .returned (.tuple #[.string v, .bool true]) ∧ w.grownBy w' (some g) ∧ LinesAt g w' r bad
theorem lines_frozen {g : Nat} {w : World} {rest : ByteArray} {bad : Bool} (h : LinesAt g w rest bad) (j : Nat) : w.frozen? ⟨g, j, none⟩ = false := by
  simp [World.frozen?, h]
theorem grownBy_setRow (w : World) (g : Nat) (cs : Array Value) : w.grownBy (w.setRow g cs) (some g) :=
  ⟨rfl, rfl, rfl, Nat.le_of_eq (setRow_size w g cs).symm, fun i hi hne => setRow_other w g i cs (fun e => hne (by rw [e]))⟩
theorem lines_set0 {g : Nat} {w : World} {rest : ByteArray} {bad : Bool} (h : LinesAt g w rest bad) (y : ByteArray) : LinesAt g (w.setCell ⟨g, 0, none⟩ (.string y)) y bad ∧ w.grownBy (w.setCell ⟨g, 0, none⟩ (.string y)) (some g) := by
  refine ⟨set_cell_any w g 0 _ _ _ _ h, ?_⟩
  rw [setCell_eq_setRow w g 0 _ _ _ _ h]
  exact grownBy_setRow _ _ _
theorem lines_set1 {g : Nat} {w : World} {rest : ByteArray} {bad : Bool} (h : LinesAt g w rest bad) (y : Bool) : LinesAt g (w.setCell ⟨g, 1, none⟩ (.bool y)) rest y ∧ w.grownBy (w.setCell ⟨g, 1, none⟩ (.bool y)) (some g) := by
  refine ⟨set_cell_any w g 1 _ _ _ _ h, ?_⟩
  rw [setCell_eq_setRow w g 1 _ _ _ _ h]
  exact grownBy_setRow _ _ _
theorem grownBy_of {w w' : World} (h : Grew w w') (row : Option Nat) : w.grownBy w' row := ⟨h.os, h.tape, h.output, h.size, fun i hi _ => h.block i hi⟩

set_option maxRecDepth 100000 in
set_option maxHeartbeats 4000000 in
theorem lines_next (g : Nat) (word rest : ByteArray) (bad : Bool) (w : World) (hl : LinesAt g w rest bad) (hs : rest.size ≤ 2147483648) (hm : MaxOk w) :
    Calls Tryz.prog 46 #[.pointer (some ⟨g, 0, none⟩), .string word] w (NextPost g word rest bad w) := by
  have g0 : Grew w w := Below.refl _ _
  have hg : g < w.heap.size := (Array.getElem?_eq_some_iff.1 hl).1
  have hlW := fun W (k : Grew w W) => (show LinesAt g W rest bad from (k.block g hg).trans hl)
  have c0 : ∀ W, Grew w W → W.cell? ⟨g, 0, none⟩ = some (.string rest) := fun W k => (lines_cells (hlW W k)).1
  have c1 : ∀ W, Grew w W → W.cell? ⟨g, 1, none⟩ = some (.bool bad) := fun W k => (lines_cells (hlW W k)).2
  have cC := fun W (k : Grew w W) => strings_Cut1 10 rest W hs (hm.grew k)
  have cP := fun a W => Tryz.strings_CutPrefix a word W
  have c00 := c0 _ g0
  go_enter Tryz.func46, Tryz.ntmps46
  go_wp2_with (go_at_call 66; with_reducible refine (cC _ (by assumption)).mono ?_)
  rintro e1 W1 ⟨g1, (⟨hn, rfl⟩ | ⟨x, y, hs1, hsz, rfl⟩)⟩
  · go_wp2_with (go_at_call 26; with_reducible refine (cP _ _).mono ?_; rintro e2 W2 ⟨rfl, rfl⟩)
    go_ret2
    exact .inl ⟨by simp only [nextL]; erw [hn], rfl, grownBy_of g1 _, hlW _ g1⟩
  · cases hp : Lib.hasPrefix x.data.toList word.data.toList with
    | false =>
      have cP1 := cP x
      rw [hp] at cP1
      go_wp2_with (go_at_call 26; with_reducible refine (cP1 _).mono ?_; rintro e2 W2 ⟨rfl, rfl⟩)
      go_ret2
      exact .inl ⟨by simp only [nextL, hs1, hp]; rfl, rfl, grownBy_of g1 _, hlW _ g1⟩
    | true =>
      have cP1 := cP x
      rw [hp] at cP1
      have hf := lines_frozen (hlW W1 g1) 0
      go_wp2_with (go_at_call 26; with_reducible refine (cP1 _).mono ?_; rintro e2 W2 ⟨rfl, rfl⟩)
      go_ret2
      refine .inr ⟨⟨(Lib.trimPrefix x.data.toList word.data.toList).toArray⟩, y, by simp only [nextL, hs1, hp]; rfl, ?_, rfl, (grownBy_of g1 _).trans (lines_set0 (hlW _ g1) y).2, (lines_set0 (hlW _ g1) y).1⟩
      have : (Lib.trimPrefix x.data.toList word.data.toList).length ≤ x.data.toList.length := by unfold Lib.trimPrefix; split <;> simp
      have hsl : x.data.toList.length = x.size := Array.length_toList
      show (Lib.trimPrefix x.data.toList word.data.toList).toArray.size + y.size < rest.size
      simp only [List.size_toArray]
      omega

end Go.Proofs.YtemojhcbhljemaaGreatDoor

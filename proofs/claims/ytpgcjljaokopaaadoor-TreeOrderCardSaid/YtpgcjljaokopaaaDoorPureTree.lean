/- Which tree bytes are. No function of the program. -/
import Derived.Test.YtpgcjljaokopaaaDoorTree3
import Derived.Test.YtpgcjljaokopaaaDoorPureCut
namespace Go.Proofs.YtpgcjljaokopaaaDoor
set_option linter.unusedVariables false
set_option linter.unusedSimpArgs false
open Go.RowKit

/-- The mode that a word is. -/
def modeT (f : List UInt8) : Int := if f = Pure.wordM 1 then 1 else if f = Pure.wordM 2 then 2 else if f = Pure.wordM 3 then 3 else if f = Pure.wordM 4 then 4 else 0
theorem modeT_word {m : Int} (h : 1 ≤ m ∧ m ≤ 4) : modeT (Pure.wordM m) = m := by
  have : m = 1 ∨ m = 2 ∨ m = 3 ∨ m = 4 := by omega
  rcases this with rfl | rfl | rfl | rfl <;> decide
theorem modeT_cases (f : List UInt8) : modeT f = 0 ∨ (1 ≤ modeT f ∧ modeT f ≤ 4 ∧ f = Pure.wordM (modeT f)) := by
  unfold modeT
  split
  · rename_i h; right; exact ⟨by omega, by omega, h⟩
  split
  · rename_i h; right; exact ⟨by omega, by omega, h⟩
  split
  · rename_i h; right; exact ⟨by omega, by omega, h⟩
  split
  · rename_i h; right; exact ⟨by omega, by omega, h⟩
  · exact .inl rfl
/-- The first item of bytes, and what stands behind it. -/
def itemT (b : List UInt8) : Option (Itm × List UInt8) :=
  match Pure.cutC 0 b with
  | none => none
  | some (h, r) => match Pure.cutC 32 h with
    | none => none
    | some (f, n) => if r.length < 20 then none else some (⟨modeT f, ⟨n.toArray⟩, r.take 20⟩, r.drop 20)
theorem itemT_some {b : List UInt8} {x : Itm} {r : List UInt8} (h : itemT b = some (x, r)) : r.length < b.length ∧ x.id.length = 20 ∧ x.name.size ≤ b.length := by
  unfold itemT at h
  cases h0 : Pure.cutC 0 b with
  | none => rw [h0] at h; cases h
  | some y =>
    obtain ⟨hd, rr⟩ := y
    rw [h0] at h
    simp only at h
    have hl := Pure.cutC_len h0
    cases h1 : Pure.cutC 32 hd with
    | none => rw [h1] at h; cases h
    | some z =>
      obtain ⟨f, n⟩ := z
      rw [h1] at h
      simp only at h
      have hl1 := Pure.cutC_len h1
      split at h
      · cases h
      · rename_i h20
        simp only [Option.some.injEq, Prod.mk.injEq] at h
        obtain ⟨rfl, rfl⟩ := h
        refine ⟨?_, ?_, ?_⟩
        · rw [List.length_drop]; omega
        · show (rr.take 20).length = 20
          rw [List.length_take]; omega
        · show n.toArray.size ≤ _
          simp; omega
/-- The items of bytes. -/
def itemsT : Nat → List UInt8 → Option (List Itm)
  | _, [] => some []
  | 0, _ :: _ => none
  | n + 1, c :: b => match itemT (c :: b) with
    | none => none
    | some (x, r) => (itemsT n r).map (x :: ·)
theorem itemsT_fuel : ∀ (n : Nat) (b : List UInt8), b.length ≤ n → itemsT n b = itemsT b.length b
  | 0, [], _ => rfl
  | n + 1, [], _ => rfl
  | 0, c :: b, h => by simp at h
  | n + 1, c :: b, h => by
    show (match itemT (c :: b) with | none => none | some (x, r) => (itemsT n r).map (x :: ·)) = (match itemT (c :: b) with | none => none | some (x, r) => (itemsT b.length r).map (x :: ·))
    cases hi : itemT (c :: b) with
    | none => rfl
    | some y =>
      obtain ⟨x, r⟩ := y
      have hl := (itemT_some hi).1
      simp only [List.length_cons] at hl h
      simp only
      rw [itemsT_fuel n r (by omega), itemsT_fuel b.length r (by omega)]
theorem itemsT_step {b : List UInt8} {x : Itm} {r : List UInt8} (h : itemT b = some (x, r)) : itemsT b.length b = (itemsT r.length r).map (x :: ·) := by
  cases b with
  | nil => exfalso; have := (itemT_some h).1; simp at this
  | cons c b =>
    have hl := (itemT_some h).1
    simp only [List.length_cons] at hl
    show (match itemT (c :: b) with | none => none | some (x, r) => (itemsT b.length r).map (x :: ·)) = _
    rw [h]
    simp only
    rw [itemsT_fuel b.length r (by omega)]
theorem itemsT_none {b : List UInt8} (hne : b ≠ []) (h : itemT b = none) : itemsT b.length b = none := by
  cases b with
  | nil => exact absurd rfl hne
  | cons c b =>
    show (match itemT (c :: b) with | none => none | some (x, r) => (itemsT b.length r).map (x :: ·)) = _
    rw [h]
/-- The tree that bytes are. -/
def parseT (b : List UInt8) : Option (List Itm) := match itemsT b.length b with
  | none => none
  | some l => if l = [] ∨ rightI l = true then some l else none
theorem parseT_of {b : List UInt8} {l : List Itm} (h : itemsT b.length b = some l) (hr : l = [] ∨ rightI l = true) : parseT b = some l := by
  unfold parseT
  rw [h]
  simp only
  rw [if_pos hr]
theorem parseT_bad {b : List UInt8} {l : List Itm} (h : itemsT b.length b = some l) (hne : l ≠ []) (hr : rightI l = false) : parseT b = none := by
  unfold parseT
  rw [h]
  simp only
  rw [if_neg]
  rintro (h | h)
  · exact hne h
  · rw [hr] at h; cases h
theorem parseT_none {b : List UInt8} (h : itemsT b.length b = none) : parseT b = none := by unfold parseT; rw [h]

end Go.Proofs.YtpgcjljaokopaaaDoor

/- A text cut at the first of a byte. Plain: no program in sight. -/
import Derived.Lib.IndexMore
import Derived.Lib.IndexBytes
import Derived.Lib.IndexLaws
namespace Go.Proofs.YtemojhcbhljemaaDoor.Pure

/-- What stands ahead of the first c, and behind it. -/
def cutC (c : UInt8) : List UInt8 → Option (List UInt8 × List UInt8)
  | [] => none
  | b :: r => if b = c then some ([], r) else (cutC c r).map fun x => (b :: x.1, x.2)
theorem cutC_none (c : UInt8) : ∀ (l : List UInt8), cutC c l = none ↔ ∀ b ∈ l, b ≠ c
  | [] => by simp [cutC]
  | b :: r => by
    unfold cutC
    by_cases h : b = c
    · rw [if_pos h]; simp [h]
    · rw [if_neg h, Option.map_eq_none_iff, cutC_none c r]; simp [h]
theorem cutC_some (c : UInt8) : ∀ (l a b : List UInt8), cutC c l = some (a, b) ↔ l = a ++ c :: b ∧ ∀ d ∈ a, d ≠ c
  | [], a, b => by simp [cutC]
  | x :: r, a, b => by
    unfold cutC
    by_cases h : x = c
    · rw [if_pos h]
      subst h
      constructor
      · intro e; cases e; exact ⟨rfl, by simp⟩
      · rintro ⟨e, hn⟩
        cases a with
        | nil => simp at e; rw [e]
        | cons y a => simp at e; exact absurd e.1.symm (hn y (by simp))
    · rw [if_neg h, Option.map_eq_some_iff]
      constructor
      · rintro ⟨⟨y, z⟩, hyz, e⟩
        obtain ⟨h1, h2⟩ := (cutC_some c r y z).1 hyz
        simp only [Prod.mk.injEq] at e
        obtain ⟨rfl, rfl⟩ := e
        exact ⟨by rw [h1]; rfl, by simp only [List.mem_cons, forall_eq_or_imp]; exact ⟨h, h2⟩⟩
      · rintro ⟨e, hn⟩
        cases a with
        | nil => simp at e; exact absurd e.1 h
        | cons y a =>
          simp at e
          exact ⟨(a, b), (cutC_some c r a b).2 ⟨e.2, fun d hd => hn d (by simp [hd])⟩, by simp [e.1]⟩
theorem cutC_app (c : UInt8) (a b : List UInt8) (h : ∀ d ∈ a, d ≠ c) : cutC c (a ++ c :: b) = some (a, b) := (cutC_some c _ _ _).2 ⟨rfl, h⟩
theorem cutC_len {c : UInt8} {l a b : List UInt8} (h : cutC c l = some (a, b)) : a.length + b.length + 1 = l.length := by
  rw [((cutC_some c l a b).1 h).1]; simp; omega

theorem cut_one (l : List UInt8) (c : UInt8) : Lib.cut l [c] = match cutC c l with | some (a, b) => (a, b, true) | none => (l, [], false) := by
  unfold Lib.cut
  rw [Lib.index_one]
  by_cases h0 : 0 ≤ Lib.indexByte l c
  · obtain ⟨i, hi⟩ := Int.eq_ofNat_of_zero_le h0
    obtain ⟨h1, h2⟩ := Lib.indexByte_some hi
    have hlt : i < l.length := (List.getElem?_eq_some_iff.1 h1).1
    have hd : l.drop i = c :: l.drop (i + 1) := by rw [List.drop_eq_getElem_cons hlt, (List.getElem?_eq_some_iff.1 h1).2]
    have hcut : cutC c l = some (l.take i, l.drop (i + 1)) := by
      rw [cutC_some]
      refine ⟨by conv => lhs; rw [← List.take_append_drop i l, hd], ?_⟩
      intro d hdm e
      subst e
      obtain ⟨j, hj⟩ := List.mem_iff_getElem?.1 hdm
      rw [List.getElem?_take] at hj
      split at hj
      · rename_i hji; exact h2 j hji hj
      · cases hj
    rw [if_pos h0, hcut, hi]
    rfl
  · have hcut : cutC c l = none := by
      rw [cutC_none]
      intro d hd e
      subst e
      have h1 : -1 ≤ Lib.indexByte l d := by rw [← Lib.index_one]; exact Lib.index_ge _ _
      obtain ⟨j, hj⟩ := List.mem_iff_getElem?.1 hd
      exact Lib.indexByte_none (show Lib.indexByte l d = -1 by omega) j hj
    rw [if_neg h0, hcut]

end Go.Proofs.YtemojhcbhljemaaDoor.Pure

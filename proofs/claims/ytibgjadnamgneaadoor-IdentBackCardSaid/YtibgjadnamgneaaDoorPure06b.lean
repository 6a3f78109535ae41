/- Where the first of a byte stands, and the pieces of an ident's text by their places: plain laws. No program in sight. -/
import Derived.Test.YtibgjadnamgneaaDoorPure06
namespace Go.Proofs.YtibgjadnamgneaaDoor.Pure
set_option linter.unusedVariables false
set_option linter.unusedSimpArgs false

/-- The place of the first c among the first k bytes, or -1. -/
def FI (l : List UInt8) (c : UInt8) (k : Nat) (o : Int) : Prop :=
  (o = -1 ∧ ∀ j, j < k → l[j]? ≠ some c) ∨ (∃ n : Nat, o = (n : Int) ∧ n < k ∧ l[n]? = some c ∧ ∀ j, j < n → l[j]? ≠ some c)
theorem FI.start (l : List UInt8) (c : UInt8) : FI l c 0 (-1) := .inl ⟨rfl, fun j hj => by omega⟩
theorem FI.ge {l : List UInt8} {c : UInt8} {k : Nat} {o : Int} (h : FI l c k o) : -1 ≤ o ∧ o < (k : Int) ∨ o = -1 := by
  rcases h with ⟨h, -⟩ | ⟨n, h, h2, -⟩
  · exact .inr h
  · exact .inl ⟨by omega, by omega⟩
theorem FI.skip {l : List UInt8} {c : UInt8} {k : Nat} {o : Int} (h : FI l c k o) (hc : l[k]? ≠ some c) : FI l c (k + 1) o := by
  rcases h with ⟨h, h1⟩ | ⟨n, h, h2, h3, h4⟩
  · refine .inl ⟨h, fun j hj => ?_⟩
    by_cases e : j = k
    · rw [e]; exact hc
    · exact h1 j (by omega)
  · exact .inr ⟨n, h, by omega, h3, h4⟩
theorem FI.stay {l : List UInt8} {c : UInt8} {k : Nat} {o : Int} (h : FI l c k o) (ho : ¬ o < 0) : FI l c (k + 1) o := by
  rcases h with ⟨h, h1⟩ | ⟨n, h, h2, h3, h4⟩
  · omega
  · exact .inr ⟨n, h, by omega, h3, h4⟩
theorem FI.hit {l : List UInt8} {c : UInt8} {k : Nat} {o : Int} (h : FI l c k o) (ho : o < 0) (hc : l[k]? = some c) : FI l c (k + 1) (k : Int) := by
  rcases h with ⟨h, h1⟩ | ⟨n, h, h2, h3, h4⟩
  · exact .inr ⟨k, rfl, by omega, hc, h1⟩
  · omega
theorem FI.is {l : List UInt8} {c : UInt8} {k : Nat} {o : Int} (h : FI l c k o) {n : Nat} (hn : n < k) (hc : l[n]? = some c) (h0 : ∀ j, j < n → l[j]? ≠ some c) : o = (n : Int) := by
  rcases h with ⟨h, h1⟩ | ⟨m, h, h2, h3, h4⟩
  · exact absurd hc (h1 n hn)
  · have : ¬ m < n := fun hh => h0 m hh h3
    have : ¬ n < m := fun hh => h4 n hh hc
    omega
theorem FI.at {l : List UInt8} {c : UInt8} {k n : Nat} (h : FI l c k (n : Int)) : n < k ∧ l[n]? = some c := by
  rcases h with ⟨h, h1⟩ | ⟨m, h, h2, h3, h4⟩
  · omega
  · obtain rfl : n = m := by omega
    exact ⟨h2, h3⟩

/-- The pieces by their places. -/
theorem places (n e : List UInt8) (w z : Int) (hn : ∀ x ∈ n, x ≠ 60) (hn2 : ∀ x ∈ n, x ≠ 62) (he : ∀ x ∈ e, x ≠ 62) (hw : 0 ≤ w) :
    ∃ a b : Nat, (a = 0 ∧ n = [] ∨ 2 ≤ a ∧ n = (printL n e w z).take (a - 1) ∧ (printL n e w z)[a - 1]? = some 32) ∧
      a < b ∧ b < (printL n e w z).length ∧ (printL n e w z)[a]? = some 60 ∧ (∀ j, j < a → (printL n e w z)[j]? ≠ some 60) ∧ (printL n e w z)[b]? = some 62 ∧ (∀ j, j < b → (printL n e w z)[j]? ≠ some 62) ∧
      ((printL n e w z).drop (a + 1)).take (b - (a + 1)) = e ∧ (printL n e w z).drop (b + 1) = 32 :: (Lib.itoa w ++ (32 :: zoneS z)) := by
  obtain ⟨p, hp⟩ : ∃ p, (if n = [] then [] else n ++ [32]) = p := ⟨_, rfl⟩
  have hp1 : ∀ x ∈ p, x ≠ 60 ∧ x ≠ 62 := by
    intro x hx
    rw [← hp] at hx
    split at hx
    · simp at hx
    · simp only [List.mem_append, List.mem_singleton] at hx
      rcases hx with hx | rfl
      · exact ⟨hn x hx, hn2 x hx⟩
      · decide
  have hL : printL n e w z = p ++ (60 :: (e ++ (62 :: (32 :: (Lib.itoa w ++ (32 :: zoneS z)))))) := by rw [← hp]; rfl
  generalize hT : (32 :: (Lib.itoa w ++ (32 :: zoneS z))) = T at *
  rw [hL]
  refine ⟨p.length, p.length + 1 + e.length, ?_, by omega, by simp; omega, ?_, ?_, ?_, ?_, ?_, ?_⟩
  · by_cases h : n = []
    · rw [if_pos h] at hp
      exact .inl ⟨by rw [← hp]; rfl, h⟩
    · right
      rw [if_neg h] at hp
      have : 0 < n.length := List.length_pos_iff.2 h
      rw [← hp]
      refine ⟨by simp; omega, ?_, ?_⟩
      · simp
      · rw [List.length_append, List.length_singleton, Nat.add_sub_cancel, List.append_assoc, List.getElem?_append_right (Nat.le_refl _)]
        simp
  · rw [List.getElem?_append_right (Nat.le_refl _)]; simp
  · intro j hj e'
    rw [List.getElem?_append_left hj] at e'
    exact (hp1 _ (List.mem_of_getElem? e')).1 rfl
  · rw [List.getElem?_append_right (by omega), show p.length + 1 + e.length - p.length = e.length + 1 by omega, List.getElem?_cons_succ, List.getElem?_append_right (Nat.le_refl _)]
    simp
  · intro j hj e'
    by_cases h1 : j < p.length
    · rw [List.getElem?_append_left h1] at e'
      exact (hp1 _ (List.mem_of_getElem? e')).2 rfl
    · rw [List.getElem?_append_right (by omega)] at e'
      obtain ⟨m, hm⟩ : ∃ m, j - p.length = m := ⟨_, rfl⟩
      rw [hm] at e'
      cases m with
      | zero => simp at e'
      | succ m =>
        rw [List.getElem?_cons_succ, List.getElem?_append_left (by omega)] at e'
        exact he _ (List.mem_of_getElem? e') rfl
  · rw [List.drop_append, List.drop_of_length_le (by omega), show p.length + 1 - p.length = 1 by omega, show p.length + 1 + e.length - (p.length + 1) = e.length by omega]
    simp
  · rw [List.drop_append, List.drop_of_length_le (by omega), show p.length + 1 + e.length + 1 - p.length = e.length + 2 by omega]
    simp

/-- The rest, by its places. -/
theorem rest_places (w z : Int) (R : List UInt8) (hR : R = 32 :: (Lib.itoa w ++ (32 :: zoneS z))) (hw : 0 ≤ w) :
    8 ≤ R.length ∧ R[0]? = some 32 ∧ R[R.length - 6]? = some 32 ∧ (R.drop 1).take (R.length - 6 - 1) = Lib.itoa w ∧ R.drop (R.length - 5) = zoneS z := by
  have hz := zoneS_len z
  have hi : 1 ≤ (Lib.itoa w).length := by
    unfold Lib.itoa
    rw [if_neg (by omega)]
    exact List.length_pos_iff.2 (digits_ne _)
  have hl : R.length = (Lib.itoa w).length + 7 := by rw [hR]; simp [hz]
  rw [hl]
  refine ⟨by omega, by rw [hR]; rfl, ?_, ?_, ?_⟩
  · rw [hR, show (Lib.itoa w).length + 7 - 6 = (Lib.itoa w).length + 1 by omega, List.getElem?_cons_succ, List.getElem?_append_right (Nat.le_refl _)]
    simp
  · rw [hR, show (Lib.itoa w).length + 7 - 6 - 1 = (Lib.itoa w).length by omega]
    simp
  · rw [hR, show (Lib.itoa w).length + 7 - 5 = (Lib.itoa w).length + 1 + 1 by omega]
    simp

end Go.Proofs.YtibgjadnamgneaaDoor.Pure

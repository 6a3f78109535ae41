/- Plain functions for layer 3: texts of parts. No Go and no memory. -/
import Derived.Test.YtbdcncojiejdoaaDoorPure03
import Derived.Test.YtbdcncojiejdoaaDoorPure11b
namespace Go.Proofs.YtbdcncojiejdoaaDoor.Pure
set_option linter.unusedVariables false
set_option linter.unusedSimpArgs false
open Go.Lib

/-- A text of k parts; g: each may be. -/
def PartsQ (k : Nat) (l : List UInt8) (g : Bool) : Prop :=
  (k = 0 ∧ l = [] ∧ g = true) ∨ (1 ≤ k ∧ validD l = true ∧ l.contains 0 = false ∧ (splitS l).length = k ∧ (splitS l).all nameP = g ∧ l.length ≤ 6 * k)
def PieceQ (p : List UInt8) (g : Bool) : Prop := validD p = true ∧ p.contains 0 = false ∧ splitS p = [p] ∧ nameP p = g ∧ p.length ≤ 5
instance (p : List UInt8) (g : Bool) : Decidable (PieceQ p g) := by unfold PieceQ; infer_instance

theorem PartsQ.first {p : List UInt8} {g : Bool} (h : PieceQ p g) : PartsQ 1 ([] ++ p) g := by
  obtain ⟨h1, h2, h3, h4, h5⟩ := h
  rw [List.nil_append]
  exact .inr ⟨by omega, h1, h2, by rw [h3]; rfl, by rw [h3]; simp [h4], by omega⟩
theorem PartsQ.next {k : Nat} {l p : List UInt8} {g g' : Bool} (hs : PartsQ k l g) (hk : 1 ≤ k) (h : PieceQ p g') : PartsQ (k + 1) (l ++ [47] ++ p) (g && g') := by
  obtain ⟨h1, h2, h3, h4, h5⟩ := h
  rcases hs with ⟨h0, _⟩ | ⟨_, a1, a2, a3, a4, a5⟩
  · omega
  · rw [show l ++ [47] ++ p = l ++ 47 :: p by simp]
    refine .inr ⟨by omega, ?_, ?_, ?_, ?_, ?_⟩
    · rw [validD_append l.length l (47 :: p) (Nat.le_refl _) a1, validD_cons 47 p (by decide)]; exact h1
    · rw [List.contains_eq_any_beq, List.any_append, List.any_cons, ← List.contains_eq_any_beq, ← List.contains_eq_any_beq, a2, h2]; rfl
    · rw [splitS_append, List.length_append, a3, h3]; rfl
    · rw [splitS_append, List.all_append, a4, h3]; simp [h4]
    · rw [List.length_append, List.length_cons]; omega
theorem PartsQ.path {k : Nat} {l : List UInt8} {g : Bool} (h : PartsQ k l g) (hk : 1 ≤ k) (hk2 : k ≤ 20) : pathP l = (g && decide (k ≤ 16)) ∧ pathP (l ++ [47]) = false ∧ pathP ([47] ++ l) = false ∧ l.length ≤ 120 := by
  rcases h with ⟨h0, _⟩ | ⟨_, a1, a2, a3, a4, a5⟩
  · omega
  refine ⟨?_, ?_, ?_, by omega⟩
  · unfold pathP
    rw [contains_one, a2, a1, a4, a3, decide_eq_true (show l.length ≤ 400 by omega)]
    rfl
  · unfold pathP
    rw [show l ++ [47] = l ++ 47 :: [] by simp, splitS_append, List.all_append, show (splitS []).all nameP = false from rfl]
    simp
  · unfold pathP
    rw [show [47] ++ l = [] ++ 47 :: l by simp, splitS_append, List.all_append, show (splitS []).all nameP = false from rfl]
    simp
theorem piece_good : ∀ p ∈ ([[97], [98, 32, 99], [99, 97, 102, 195, 169], [46, 46, 120]] : List (List UInt8)), PieceQ p true := by decide +kernel
theorem piece_bad : ∀ p ∈ ([[46, 46], [46], []] : List (List UInt8)), PieceQ p false := by decide +kernel
theorem piece_git : ∀ b ∈ ([103, 71] : List UInt8), ∀ c ∈ ([105, 73] : List UInt8), ∀ d ∈ ([116, 84] : List UInt8), PieceQ [46, b, c, d] false := by decide +kernel
end Go.Proofs.YtbdcncojiejdoaaDoor.Pure

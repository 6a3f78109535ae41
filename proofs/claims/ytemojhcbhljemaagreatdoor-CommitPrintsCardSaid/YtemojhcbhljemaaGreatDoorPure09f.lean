/- A record's text is what a reader has read. No function of the program. -/
import Derived.Test.YtemojhcbhljemaaGreatDoorM5
namespace Go.Proofs.YtemojhcbhljemaaGreatDoor
set_option linter.unusedVariables false
set_option linter.unusedSimpArgs false
open Go.RowKit

theorem hasP_some {a p : List UInt8} (h : Lib.hasPrefix a p = true) : a = p ++ Lib.trimPrefix a p := by
  unfold Lib.trimPrefix
  rw [if_pos h]
  have h1 := Lib.hasPrefix_of_take a p
  rw [h, Bool.and_eq_true, decide_eq_true_eq, beq_iff_eq] at h1
  conv => lhs; rw [← List.take_append_drop p.length a, h1.2]
theorem nextL_some {word rest v q : List UInt8} (h : nextL word rest = some (v, q)) : rest = word ++ v ++ 10 :: q := by
  unfold nextL at h
  split at h
  · cases h
  · next a b hc =>
    split at h
    · next hp =>
      cases h
      rw [← hasP_some hp]
      exact ((Pure.cutC_some 10 _ _ _).1 hc).1
    · cases h
def HeadR (t : List UInt8) (l : List (List UInt8)) : List UInt8 := treeT ++ Pure.hex t ++ 10 :: parL l
theorem sound_tree {b v q t : List UInt8} (h : nextL treeT b = some (v, q)) (hu : Pure.unhex v = some t) : b = HeadR t [] ++ q := by
  rw [nextL_some h, ← Pure.hex_unhex hu]
  unfold HeadR parL
  simp
theorem sound_par {b rest v q t x : List UInt8} {l : List (List UInt8)} (hb : b = HeadR t l ++ rest) (h : nextL parT rest = some (v, q)) (hu : Pure.unhex v = some x) : b = HeadR t (l ++ [x]) ++ q := by
  rw [hb, nextL_some h, ← Pure.hex_unhex hu]
  unfold HeadR
  rw [parL_snoc]
  simp
theorem sound_end {b rest va q vc x t : List UInt8} {l : List (List UInt8)} {i j : Idn} {X : ByteArray} (hb : b = HeadR t l ++ rest) (ha : nextL auT rest = some (va, q)) (hi : printN i = va) (hc : nextL comT q = some (vc, 10 :: x)) (hj : printN j = vc) (hX : X.data.toList = x) : printR ⟨t, l, i, j, X⟩ = b := by
  rw [hb, nextL_some ha, nextL_some hc, printR_eq]
  unfold HeadR tailR
  simp only [hi, hj, hX, List.append_assoc, List.cons_append]
theorem no_of_w1 {b t l i q} (h : InW1 b t l i true q) : ∀ r, ¬ GoodR b r := fun r hr => by have := (h r hr).1; cases this
theorem no_of_w2 {b t l i j q} (h : InW2 b t l i j true q) : ∀ r, ¬ GoodR b r := fun r hr => by have := (h r hr).1; cases this
theorem no_of_l {b t l p h' q} (h : InL b t l p h' true q) : ∀ r, ¬ GoodR b r := fun r hr => by have := (h r hr).1; cases this
theorem no_of_a {b t l q} (h : InA b t l true q) : ∀ r, ¬ GoodR b r := fun r hr => by have := (h r hr).1; cases this
/-- Sixteen parents, and one more. -/
theorem no_of_many {b t l p q} (h : InL b t l p true false q) (hl : 16 ≤ l.length) : ∀ r, ¬ GoodR b r := by
  intro r hr
  obtain ⟨-, -, ⟨-, m, h3, -⟩ | ⟨h, -⟩⟩ := h r hr
  · have := (rightR_parts hr.2.2.1).1
    rw [h3, List.length_append, List.length_cons] at this
    omega
  · cases h

end Go.Proofs.YtemojhcbhljemaaGreatDoor

/- The reference's line: what a line says behind a word. Conditions: at most 2^30 bytes. -/
import Derived.Test.YtemojhcbhljemaaGreatDoorCom4
import Derived.Test.YtemojhcbhljemaaGreatDoorHelpText
import Derived.Deep.QuietTactic
import Derived.BigQuiet
namespace Go.Proofs.YtemojhcbhljemaaGreatDoor
set_option linter.unusedVariables false
set_option linter.unusedSimpArgs false
open Go.RowKit

theorem index_cut (l : List UInt8) (c : UInt8) : (Pure.cutC c l = none ∧ Lib.index l [c] = -1) ∨ ∃ a b, Pure.cutC c l = some (a, b) ∧ Lib.index l [c] = (a.length : Int) ∧ l = a ++ c :: b := by
  have h1 := Pure.cut_one l c
  have hge := Lib.index_ge l [c]
  have hle := Lib.index_le l [c]
  unfold Lib.cut at h1
  by_cases h0 : 0 ≤ Lib.index l [c]
  · rw [if_pos h0] at h1
    cases hc : Pure.cutC c l with
    | none => rw [hc] at h1; simp at h1
    | some y =>
      obtain ⟨a, b⟩ := y
      rw [hc] at h1
      simp only [Prod.mk.injEq] at h1
      refine .inr ⟨a, b, rfl, ?_, ((Pure.cutC_some c l a b).1 hc).1⟩
      have := congrArg List.length h1.1
      rw [List.length_take] at this
      omega
  · rw [if_neg h0] at h1
    cases hc : Pure.cutC c l with
    | none => exact .inl ⟨rfl, by omega⟩
    | some y => rw [hc] at h1; simp at h1

/-- What line leaves. -/
def RefLine (word rest : ByteArray) (w : World) (e : Ending) (w' : World) : Prop := Grew w w' ∧
  ((nextL word.data.toList rest.data.toList = none ∧ e = .returned (.tuple #[.string ⟨#[]⟩, .string rest, .bool false])) ∨
   ∃ v q : ByteArray, nextL word.data.toList rest.data.toList = some (v.data.toList, q.data.toList) ∧ v.size + q.size < rest.size ∧ e = .returned (.tuple #[.string v, .string q, .bool true]))

set_option maxRecDepth 100000 in
set_option maxHeartbeats 2000000 in
theorem ref_line (word s : ByteArray) (w : World) (hs : s.size ≤ 1073741824) :
    Calls Tryz.prog 28 #[.string s, .string word] w (RefLine word s w) := by
  have cF := fun W => help_Find s ⟨#[10]⟩ W (by omega) (by decide) (by decide)
  simp only [show (⟨#[10]⟩ : ByteArray).data.toList = [10] from rfl] at cF
  have hsl : s.data.toList.length = s.size := Array.length_toList
  rcases index_cut s.data.toList 10 with ⟨hn, hi⟩ | ⟨a, b, hc, hi, hl⟩
  · simp only [hi] at cF
    have HN := Lib.hid hn
    clear hn hi hsl
    go_enter Tryz.func28, Tryz.ntmps28
    go_wp2_with (first | (go_at_call 36; with_reducible refine (cF _).mono ?_; rintro e1 W1 ⟨rfl, h1⟩; subst W1))
    go_ret3
    exact ⟨Below.refl _ _, .inl ⟨by unfold nextL; rw [HN.out], rfl⟩⟩
  · simp only [hi] at cF
    have hal : a.length + b.length + 1 = s.size := by rw [← hsl, hl]; simp; omega
    obtain ⟨k, hk⟩ : ∃ k, a.length = k := ⟨_, rfl⟩
    simp only [hk] at cF hal
    obtain ⟨A, hA⟩ : ∃ A, s.extract 0 k = A := ⟨_, rfl⟩
    have hAl : A.data.toList = a := by rw [← hA, extract_list, hl, List.drop_zero, Nat.sub_zero, ← hk, List.take_left]
    have cB := fun W => help_Begins A word W
    rw [hAl] at cB
    obtain ⟨B, hB⟩ : ∃ B, Lib.hasPrefix a word.data.toList = B := ⟨_, rfl⟩
    simp only [hB] at cB
    have hk1 : (0 : Int) ≤ (k : Int) := by omega
    have hk2 : (k : Int) ≤ (s.size : Int) := by omega
    have hk3 : decide ((k : Int) < 0) = false := decide_eq_false (by omega)
    have HC := Lib.hid hc
    have HB := Lib.hid hB
    cases B with
    | false =>
      clear hc hB hi hsl hl hk hAl
      go_enter Tryz.func28, Tryz.ntmps28
      go_wp2_with (first | (go_at_call 36; with_reducible refine (cF _).mono ?_; rintro e1 W1 ⟨rfl, h1⟩; subst W1) | (go_at_call 31; with_reducible refine (cB _).mono ?_; rintro e1 W1 ⟨rfl, h1⟩; subst W1))
      go_ret3
      exact ⟨Below.refl _ _, .inl ⟨by unfold nextL; rw [HC.out]; simp only; rw [HB.out]; rfl, rfl⟩⟩
    | true =>
      have ht := Lib.hasPrefix_le hB
      have hwl : word.data.toList.length = word.size := Array.length_toList
      have hwk : word.size ≤ k := by omega
      obtain ⟨V, hV⟩ : ∃ V, s.extract word.size k = V := ⟨_, rfl⟩
      obtain ⟨Q, hQ⟩ : ∃ Q, s.extract (k + 1) s.size = Q := ⟨_, rfl⟩
      have hVl : V.data.toList = Lib.trimPrefix a word.data.toList := by
        unfold Lib.trimPrefix
        rw [if_pos hB, ← hV, extract_list, hl, hwl, List.drop_append, List.take_append_of_le_length (by rw [List.length_drop, hk]; exact Nat.le_refl _), List.take_of_length_le (by rw [List.length_drop, hk]; exact Nat.le_refl _)]
      have hQl : Q.data.toList = b := by
        rw [← hQ, extract_list, hl, List.drop_append, List.drop_of_length_le (by omega), List.nil_append, hk, show k + 1 - k = 1 by omega, List.drop_succ_cons, List.drop_zero, List.take_of_length_le (by omega)]
      have hVs : V.size ≤ k := by rw [← hV, ByteArray.size_extract]; omega
      have hQs : Q.size + (k + 1) = s.size := by rw [← hQ, ByteArray.size_extract]; omega
      have hw1 : (0 : Int) ≤ (word.size : Int) := by omega
      have hw2 : (word.size : Int) ≤ (k : Int) := by omega
      have hq1 : (0 : Int) ≤ (k : Int) + 1 := by omega
      have hq2 : (k : Int) + 1 ≤ (s.size : Int) := by omega
      have HVL := Lib.hid hVl
      have HQL := Lib.hid hQl
      clear hc hB hi hsl hl hk hAl ht hwl hVl hQl
      go_enter Tryz.func28, Tryz.ntmps28
      go_wp2_with (first | (go_at_call 36; with_reducible refine (cF _).mono ?_; rintro e1 W1 ⟨rfl, h1⟩; subst W1) | (go_at_call 31; with_reducible refine (cB _).mono ?_; rintro e1 W1 ⟨rfl, h1⟩; subst W1))
      go_quiet (fail)
      go_wp2
      go_ret3
      refine ⟨Grew.drewN (Below.refl _ _) _, .inr ⟨V, Q, ?_, by omega, rfl⟩⟩
      unfold nextL
      rw [HC.out, HVL.out, HQL.out]
      simp only
      rw [HB.out]
      rfl

end Go.Proofs.YtemojhcbhljemaaGreatDoor

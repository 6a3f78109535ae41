/- Texts made clean, step by step: plain laws for the loops. No program in sight. -/
import Derived.Test.YtemojhcbhljemaaDoorPureClean
import Derived.Lib.TrimByte
namespace Go.Proofs.YtemojhcbhljemaaDoor.Pure
set_option linter.unusedVariables false
set_option linter.unusedSimpArgs false
open Go.Lib

theorem trimR_cons (c : UInt8) (r : List UInt8) : trimR (c :: r) = if trimR r = [] then trimR [c] else c :: trimR r := trimR_append [c] r
theorem trim_comm : ∀ l : List UInt8, trimL (trimR l) = trimR (trimL l)
  | [] => rfl
  | c :: r => by
    have ih := trim_comm r
    by_cases h : c = 32
    · subst h
      have e1 : trimL (32 :: r) = trimL r := by unfold trimL; rw [List.dropWhile_cons_of_pos (by rfl)]
      rw [e1, ← ih, trimR_cons]
      split
      · rename_i h0; rw [h0]; rfl
      · unfold trimL; rw [List.dropWhile_cons_of_pos (by rfl)]
    · have e1 : ∀ r', trimL (c :: r') = c :: r' := fun r' => by unfold trimL; rw [List.dropWhile_cons_of_neg (by simpa using h)]
      have e2 : trimR [c] = [c] := by unfold trimR; rw [List.reverse_singleton, List.dropWhile_cons_of_neg (by simpa using h)]; rfl
      rw [e1, trimR_cons]
      split
      · rw [e2, e1]
      · rw [e1]
theorem trimB_eq (l : List UInt8) : Lib.trimB l 32 = trimR (trimL l) := by rw [← trim_comm]; rfl
theorem trimRightB_eq (l : List UInt8) : Lib.trimRightB l 32 = trimR l := rfl
theorem trimR_le (l : List UInt8) : (trimR l).length ≤ l.length := by
  unfold trimR
  rw [List.length_reverse, ← List.length_reverse (as := l)]
  exact List.Sublist.length_le (List.dropWhile_sublist _)
theorem trimL_le (l : List UInt8) : (trimL l).length ≤ l.length := List.Sublist.length_le (List.dropWhile_sublist _)

theorem takeU_prefix : ∀ (k : Nat) (us : List (List UInt8)), ∃ ws, us = takeU k us ++ ws
  | k, [] => ⟨[], rfl⟩
  | k, u :: us => by
    unfold takeU
    split
    · obtain ⟨ws, h⟩ := takeU_prefix (k - u.length) us
      exact ⟨ws, by rw [List.cons_append, ← h]⟩
    · exact ⟨u :: us, rfl⟩
/-- How far the loop over the runes has come. -/
def Upto (us1 us2 : List (List UInt8)) (e : Nat) : Prop :=
  (us1.flatten.length ≤ 200 → e = us1.flatten.length ∧ takeU 200 (us1 ++ us2) = us1 ++ takeU (200 - us1.flatten.length) us2) ∧ (200 < us1.flatten.length → e = (takeU 200 (us1 ++ us2)).flatten.length)
theorem Upto.start (us : List (List UInt8)) : Upto [] us 0 := ⟨fun _ => ⟨rfl, rfl⟩, fun h => by simp at h⟩
theorem Upto.step_in {us1 us2 : List (List UInt8)} {u : List UInt8} {e : Nat} (h : Upto us1 (u :: us2) e) (hn : us1.flatten.length + u.length ≤ 200) : Upto (us1 ++ [u]) us2 (us1.flatten.length + u.length) := by
  have hl : (us1 ++ [u]).flatten.length = us1.flatten.length + u.length := by simp
  obtain ⟨h1, h2⟩ := h.1 (by omega)
  refine ⟨fun _ => ⟨hl.symm, ?_⟩, fun hh => by omega⟩
  rw [List.append_assoc, List.singleton_append, h2, hl]
  conv => lhs; unfold takeU
  rw [if_pos (by omega), List.append_assoc, List.singleton_append, Nat.sub_sub]
theorem Upto.step_out {us1 us2 : List (List UInt8)} {u : List UInt8} {e : Nat} (h : Upto us1 (u :: us2) e) (hn : ¬ us1.flatten.length + u.length ≤ 200) : Upto (us1 ++ [u]) us2 e := by
  have hl : (us1 ++ [u]).flatten.length = us1.flatten.length + u.length := by simp
  refine ⟨fun hh => by omega, fun _ => ?_⟩
  rw [List.append_assoc, List.singleton_append]
  by_cases h0 : us1.flatten.length ≤ 200
  · obtain ⟨h1, h2⟩ := h.1 h0
    rw [h2, h1]
    conv => rhs; unfold takeU
    rw [if_neg (by omega), List.append_nil]
  · exact h.2 (by omega)
theorem Upto.last {us1 : List (List UInt8)} {e : Nat} (h : Upto us1 [] e) : us1.flatten.take e = (takeU 200 us1).flatten := by
  have key : e = (takeU 200 us1).flatten.length := by
    by_cases h0 : us1.flatten.length ≤ 200
    · obtain ⟨h1, h2⟩ := h.1 h0
      rw [List.append_nil] at h2
      rw [h1, h2]
      simp [takeU]
    · have := h.2 (by omega)
      rwa [List.append_nil] at this
  obtain ⟨ws, hw⟩ := takeU_prefix 200 us1
  rw [key]
  have e2 : us1.flatten = (takeU 200 us1).flatten ++ ws.flatten := by rw [← List.flatten_append, ← hw]
  rw [e2, List.take_left]
theorem Upto.le {us1 us2 : List (List UInt8)} {e : Nat} (h : Upto us1 us2 e) : e ≤ (us1 ++ us2).flatten.length := by
  by_cases h0 : us1.flatten.length ≤ 200
  · have := (h.1 h0).1
    rw [List.flatten_append, List.length_append]
    omega
  · have h1 := h.2 (by omega)
    obtain ⟨ws, hw⟩ := takeU_prefix 200 (us1 ++ us2)
    rw [h1]
    conv => rhs; rw [hw, List.flatten_append, List.length_append]
    omega

end Go.Proofs.YtemojhcbhljemaaDoor.Pure

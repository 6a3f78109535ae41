/- What the reference reads between quotes, step by step. No function of the program. -/
import Derived.Test.YtbdcncojiejdoaaDoorPure03q
namespace Go.Proofs.YtbdcncojiejdoaaDoor.Pure
set_option linter.unusedVariables false
set_option linter.unusedSimpArgs false

theorem dec2_end : dec2 [] = [] := dec2_nil
theorem dec2_byte {c : UInt8} {r : List UInt8} (h : c.toNat ≠ 92) : dec2 (c :: r) = c :: dec2 r := by
  have e : taken2 (c :: r) = (c.toNat, 1) := by unfold taken2; rw [if_pos h]
  rw [dec2_step (by simp) (by rw [e]; simp), e]
  simp
theorem dec2_new {d : UInt8} {q : List UInt8} (h : d.toNat = 110) : dec2 (92 :: d :: q) = 10 :: dec2 q := by
  have e : taken2 (92 :: d :: q) = (10, 2) := by
    unfold taken2
    simp only [show ¬ ((92 : UInt8).toNat ≠ 92) by decide, if_false]
    rw [if_pos h]
  rw [dec2_step (by simp) (by rw [e]; simp), e]
  simp
theorem dec2_tab {d : UInt8} {q : List UInt8} (h : d.toNat = 116) : dec2 (92 :: d :: q) = 9 :: dec2 q := by
  have e : taken2 (92 :: d :: q) = (9, 2) := by
    unfold taken2
    simp only [show ¬ ((92 : UInt8).toNat ≠ 92) by decide, if_false]
    rw [if_neg (by omega), if_pos h]
  rw [dec2_step (by simp) (by rw [e]; simp), e]
  simp
theorem dec2_oct {d a b : UInt8} {q : List UInt8} (h1 : 48 ≤ d.toNat ∧ d.toNat ≤ 51) (h2 : 48 ≤ a.toNat ∧ a.toNat ≤ 55) (h3 : 48 ≤ b.toNat ∧ b.toNat ≤ 55) :
    dec2 (92 :: d :: a :: b :: q) = UInt8.ofNat ((d.toNat - 48) * 64 + (a.toNat - 48) * 8 + (b.toNat - 48)) :: dec2 q := by
  have e : taken2 (92 :: d :: a :: b :: q) = ((d.toNat - 48) * 64 + (a.toNat - 48) * 8 + (b.toNat - 48), 4) := by
    unfold taken2
    simp only [show ¬ ((92 : UInt8).toNat ≠ 92) by decide, if_false]
    rw [if_neg (by omega), if_neg (by omega), if_pos ⟨h1, h2, h3⟩]
  rw [dec2_step (by simp) (by rw [e]; simp), e]
  simp
theorem dec2_else {d : UInt8} {q : List UInt8} (h1 : d.toNat ≠ 110) (h2 : d.toNat ≠ 116) (h : ∀ a b r, q = a :: b :: r → ¬ ((48 ≤ d.toNat ∧ d.toNat ≤ 51) ∧ (48 ≤ a.toNat ∧ a.toNat ≤ 55) ∧ (48 ≤ b.toNat ∧ b.toNat ≤ 55))) :
    dec2 (92 :: d :: q) = d :: dec2 q := by
  have e : taken2 (92 :: d :: q) = (d.toNat, 2) := by
    match q, h with
    | [], _ => unfold taken2; simp only [show ¬ ((92 : UInt8).toNat ≠ 92) by decide, if_false]; rw [if_neg h1, if_neg h2]
    | [_], _ => unfold taken2; simp only [show ¬ ((92 : UInt8).toNat ≠ 92) by decide, if_false]; rw [if_neg h1, if_neg h2]
    | a :: b :: r, h => unfold taken2; simp only [show ¬ ((92 : UInt8).toNat ≠ 92) by decide, if_false]; rw [if_neg h1, if_neg h2, if_neg (h a b r rfl)]
  rw [dec2_step (by simp) (by rw [e]; simp), e]
  simp

theorem end_byte {c : UInt8} {r : List UInt8} {n : Nat} (h : endF (c :: r) = some n) (hn : 0 < n) (hc : c.toNat ≠ 92) : endF r = some (n - 1) := by
  by_cases h34 : c.toNat = 34
  · rw [end_hit _ _ h34] at h; cases h; omega
  · rw [end_other _ _ h34 hc, Option.map_eq_some_iff] at h
    obtain ⟨m, hm, rfl⟩ := h
    simpa using hm
theorem end_two {c : UInt8} {r : List UInt8} {n : Nat} (h : endF (c :: r) = some n) (hc : c.toNat = 92) : ∃ d q, r = d :: q ∧ endF q = some (n - 2) ∧ 2 ≤ n := by
  cases r with
  | nil => rw [end_esc1 _ hc] at h; cases h
  | cons d q =>
    rw [end_esc _ _ _ hc, Option.map_eq_some_iff] at h
    obtain ⟨m, hm, rfl⟩ := h
    exact ⟨d, q, rfl, by simpa using hm, by omega⟩
theorem end_four {c : UInt8} {r : List UInt8} {n : Nat} (h : endF (c :: r) = some n) (hc : c.toNat = 92) (hn : 4 ≤ n) {d a b : UInt8} {q : List UInt8} (e : r = d :: a :: b :: q) (ha : a.toNat ≠ 92) (hb : b.toNat ≠ 92) : endF q = some (n - 4) := by
  obtain ⟨d', q', e', hq, h2⟩ := end_two h hc
  rw [e] at e'
  cases e'
  have h1 := end_byte hq (by omega) ha
  have h3 := end_byte h1 (by omega) hb
  rw [h3]
  congr 1
end Go.Proofs.YtbdcncojiejdoaaDoor.Pure

/- Plain laws on numbers as digits of 10: what a text of digits says, that a number's digits say it, and no other text does; no Go and no memory. -/
import Derived.Lib.ItoaNum
import Derived.Lib.ParseIntB
import Derived.Lib.ParseIntBCases
import Derived.Lib.AtoiAll
import Derived.Lib.ItoaMem
import Derived.Lib.ItoaLen
namespace Go.Proofs.YtemojhcbhljemaaDoor.Pure
set_option linter.unusedVariables false
set_option linter.unusedSimpArgs false
open Go.Lib

/-- What digits say behind a number. -/
def dec (acc : Nat) : List UInt8 → Option Nat
  | [] => some acc
  | c :: r => if 48 ≤ c.toNat ∧ c.toNat ≤ 57 then dec (acc * 10 + (c.toNat - 48)) r else none

theorem dec_append : ∀ (a b : List UInt8) (acc : Nat), dec acc (a ++ b) = (dec acc a).bind fun u => dec u b
  | [], b, acc => rfl
  | c :: a, b, acc => by
    simp only [List.cons_append, dec]
    split
    · exact dec_append a b _
    · rfl
theorem dec_one (acc d : Nat) (h : d < 10) : dec acc [UInt8.ofNat (48 + d)] = some (acc * 10 + d) := by
  have e : (UInt8.ofNat (48 + d)).toNat = 48 + d := by rw [UInt8.toNat_ofNat']; omega
  simp only [dec, e]
  rw [if_pos (by omega)]
  congr 1
  omega
theorem decDigits_big {u : Nat} (h : ¬ u < 10) : decDigits u = decDigits (u / 10) ++ [UInt8.ofNat (48 + u % 10)] := by rw [decDigits, dif_neg h]
theorem decDigits_small {u : Nat} (h : u < 10) : decDigits u = [UInt8.ofNat (48 + u)] := by rw [decDigits, dif_pos h]

theorem dec_digits (u : Nat) : dec 0 (decDigits u) = some u := by
  induction u using Nat.strongRecOn with
  | _ u ih =>
    by_cases h : u < 10
    · rw [decDigits_small h, dec_one 0 u h]; simp
    · rw [decDigits_big h, dec_append, ih (u / 10) (by omega)]
      show dec (u / 10) _ = _
      rw [dec_one _ _ (by omega)]
      congr 1
      omega
theorem digits_ne (u : Nat) : decDigits u ≠ [] := by
  by_cases h : u < 10
  · rw [decDigits_small h]; simp
  · rw [decDigits_big h]; simp
/-- The first digit is no 0, but for 0 itself. -/
theorem digits_head (u : Nat) : ∀ r, decDigits u = 48 :: r → u = 0 ∧ r = [] := by
  induction u using Nat.strongRecOn with
  | _ u ih =>
    intro r hr
    by_cases h : u < 10
    · rw [decDigits_small h] at hr
      injection hr with h1 h2
      have := congrArg UInt8.toNat h1
      rw [UInt8.toNat_ofNat'] at this
      have e : (48 : UInt8).toNat = 48 := rfl
      exact ⟨by omega, h2.symm⟩
    · rw [decDigits_big h] at hr
      cases hd : decDigits (u / 10) with
      | nil => exact absurd hd (digits_ne _)
      | cons a q =>
        rw [hd, List.cons_append] at hr
        injection hr with h1 h2
        subst h1
        have := (ih (u / 10) (by omega) q hd).1
        omega
theorem dec_digit {c : UInt8} {acc u : Nat} (h : dec acc [c] = some u) : ∃ d, d < 10 ∧ c = UInt8.ofNat (48 + d) ∧ u = acc * 10 + d := by
  simp only [dec] at h
  split at h
  · rename_i hc
    refine ⟨c.toNat - 48, by omega, ?_, by have := Option.some.inj h; omega⟩
    rw [show 48 + (c.toNat - 48) = c.toNat by omega]
    simp
  · cases h
/-- Digits that say a number, the first no 0, or alone, are that number's. -/
theorem digits_unique : ∀ (n : Nat) (l : List UInt8) (u : Nat), l.length = n → l ≠ [] → dec 0 l = some u → (l.head? = some 48 → l.length = 1) → l = decDigits u
  | 0, l, u, hn, hne, _, _ => absurd (List.eq_nil_of_length_eq_zero hn) hne
  | n + 1, l, u, hn, hne, hd, hh => by
    have hl := List.dropLast_concat_getLast hne
    rw [← hl, dec_append] at hd
    cases h1 : dec 0 l.dropLast with
    | none => rw [h1] at hd; cases hd
    | some a =>
      rw [h1] at hd
      obtain ⟨d, hd10, hc, hu⟩ := dec_digit (show dec a [l.getLast hne] = some u from hd)
      by_cases hq : l.dropLast = []
      · rw [hq] at h1 hl
        simp only [dec, Option.some.injEq] at h1
        subst h1
        rw [decDigits_small (by omega), ← hl, List.nil_append, hc]
        congr 2
        omega
      · have hlen : l.dropLast.length = n := by rw [List.length_dropLast]; omega
        have hhd : l.dropLast.head? = l.head? := by
          conv => rhs; rw [← hl]
          cases hx : l.dropLast with
          | nil => exact absurd hx hq
          | cons a b => rfl
        have hn48 : l.head? ≠ some 48 := by
          intro e
          have := hh e
          have hq' : l.dropLast.length ≠ 0 := fun e => hq (List.eq_nil_of_length_eq_zero e)
          omega
        have ih := digits_unique n l.dropLast a hlen hq h1 (fun e => absurd (hhd ▸ e) hn48)
        have ha : 1 ≤ a := by
          rcases Nat.eq_zero_or_pos a with h0 | h0
          · subst h0
            rw [decDigits_small (by omega)] at ih
            rw [ih] at hhd
            exact absurd hhd.symm hn48
          · exact h0
        rw [decDigits_big (by omega), ← hl, hc, show u / 10 = a by omega, show u % 10 = d by omega, ← ih]

/-! ### the library's parse -/
theorem parse_dec : ∀ (l : List UInt8) (acc u : Nat), parseUint10 acc l = .ok u → dec acc l = some u
  | [], acc, u, h => by
    simp only [parseUint10] at h
    injection h with h
    subst h; rfl
  | c :: r, acc, u, h => by
    simp only [parseUint10] at h
    simp only [dec]
    split at h
    · rename_i hc
      split at h
      · cases h
      split at h
      · cases h
      rw [if_pos hc]
      exact parse_dec r _ u h
    · cases h
theorem dec_le : ∀ (l : List UInt8) (acc u : Nat), dec acc l = some u → acc ≤ u
  | [], acc, u, h => by simp only [dec, Option.some.injEq] at h; omega
  | c :: r, acc, u, h => by
    simp only [dec] at h
    split at h
    · have := dec_le r _ u h; omega
    · cases h
theorem dec_parse : ∀ (l : List UInt8) (acc u : Nat), dec acc l = some u → u < 18446744073709551616 → parseUint10 acc l = .ok u
  | [], acc, u, h, _ => by
    simp only [dec, Option.some.injEq] at h
    subst h; rfl
  | c :: r, acc, u, h, hu => by
    simp only [dec] at h
    simp only [parseUint10]
    split at h
    · rename_i hc
      have := dec_le r _ u h
      rw [if_pos hc, if_neg (by omega), if_neg (by omega)]
      exact dec_parse r _ u h hu
    · cases h

/-- A number within the bounds of 64 bits. -/
def In64 (v : Int) : Prop := -9223372036854775808 ≤ v ∧ v ≤ 9223372036854775807

/-- The number that digits of 10 say, as the program takes it. -/
def takeN (l : List UInt8) : Option Int := match parseIntB 64 l with
  | .ok v => if itoa v = l then some v else none
  | _ => none
theorem digits_first (u : Nat) : ∃ c r, decDigits u = c :: r ∧ 48 ≤ c.toNat ∧ c.toNat ≤ 57 := by
  cases h : decDigits u with
  | nil => exact absurd h (digits_ne u)
  | cons c r =>
    have hd := dec_digits u
    rw [h] at hd
    simp only [dec] at hd
    split at hd
    · rename_i hc; exact ⟨c, r, rfl, hc⟩
    · cases hd
theorem parse_itoa {v : Int} (h : In64 v) : parseIntB 64 (itoa v) = .ok v := by
  obtain ⟨h0, h1⟩ := h
  have hmag : ∀ u : Nat, u < 18446744073709551616 → parseUintB 64 (decDigits u) = .ok u := by
    intro u hu
    rw [parseUintB_64, parseMag, if_neg (digits_ne u)]
    exact dec_parse _ _ _ (dec_digits u) hu
  unfold itoa
  split
  · rename_i hn
    rw [parseIntB_minus, hmag _ (by omega)]
    unfold signedC
    simp only
    rw [if_neg (by omega)]
    congr 1
    omega
  · rename_i hn
    obtain ⟨c, r, hc, hc0, hc1⟩ := digits_first v.toNat
    rw [hc, parseIntB_plain 64 c r (by omega) (by omega), ← hc, hmag _ (by omega)]
    unfold signlessC
    simp only
    rw [if_neg (by omega)]
    congr 1
    omega
theorem parse_in {l : List UInt8} {v : Int} (h : parseIntB 64 l = .ok v) : In64 v := by
  unfold parseIntB at h
  cases l with
  | nil => cases h
  | cons c r =>
    simp only at h
    split at h
    · cases h
    · cases h
    · rename_i u hu
      split at h
      · cases h
      split at h
      · cases h
      · rename_i h1 h2
        injection h with h
        subst h
        simp only [show (2 : Nat) ^ (64 - 1) = 9223372036854775808 by rfl] at h1 h2
        unfold In64
        split
        · rename_i hc; constructor <;> omega
        · rename_i hc; constructor <;> omega
theorem takeN_itoa {v : Int} (h : In64 v) : takeN (itoa v) = some v := by
  unfold takeN
  rw [parse_itoa h]
  simp
theorem takeN_some {l : List UInt8} {v : Int} (h : takeN l = some v) : itoa v = l ∧ In64 v := by
  unfold takeN at h
  split at h
  · rename_i u hu
    split at h
    · rename_i he
      cases h
      exact ⟨he, parse_in hu⟩
    · cases h
  · cases h

/-- The number that digits of 10 say, as the reference takes it. -/
def takeR (l : List UInt8) : Option Int :=
  let minus := decide (l.head? = some 45)
  let d := if minus = true then l.tail else l
  if d = [] ∨ 19 < d.length ∨ (d.head? = some 48 ∧ (1 < d.length ∨ minus = true)) then none
  else match dec 0 d with
    | none => none
    | some v => if 9223372036854775808 < v ∨ (minus = false ∧ v = 9223372036854775808) then none else some (if minus = true then -(v : Int) else v)
theorem digits_len {u : Nat} (h : u ≤ 9223372036854775808) : (decDigits u).length ≤ 19 := by
  have key : ∀ (k u : Nat), u < 10 ^ (k + 1) → (decDigits u).length ≤ k + 1 := by
    intro k
    induction k with
    | zero => intro u hu; rw [decDigits_small (by omega)]; simp
    | succ k ih =>
      intro u hu
      by_cases h10 : u < 10
      · rw [decDigits_small h10]; simp
      · rw [decDigits_big h10, List.length_append]
        have := ih (u / 10) (by rw [Nat.pow_succ] at hu; omega)
        simp only [List.length_cons, List.length_nil]
        omega
  exact key 18 u (by omega)
theorem takeR_itoa {v : Int} (h : In64 v) : takeR (itoa v) = some v := by
  obtain ⟨h0, h1⟩ := h
  by_cases hn : v < 0
  · have e : itoa v = 45 :: decDigits v.natAbs := by unfold itoa; rw [if_pos hn]
    have hl := digits_len (u := v.natAbs) (by omega)
    have hne := digits_ne v.natAbs
    have hh : (decDigits v.natAbs).head? ≠ some 48 := by
      intro e2
      cases hd : decDigits v.natAbs with
      | nil => exact hne hd
      | cons a b =>
        rw [hd] at e2
        cases e2
        have := (digits_head _ _ hd).1
        omega
    rw [e]
    unfold takeR
    simp only [List.head?_cons, List.tail_cons, decide_true, if_true]
    rw [if_neg (by rintro (h | h | h); exact hne h; omega; exact hh h.1), dec_digits]
    simp only
    rw [if_neg (by simp; omega)]
    congr 1
    omega
  · have e : itoa v = decDigits v.toNat := by unfold itoa; rw [if_neg hn]
    have hl := digits_len (u := v.toNat) (by omega)
    have hne := digits_ne v.toNat
    obtain ⟨c, r, hc, hc0, hc1⟩ := digits_first v.toNat
    have h45 : (decDigits v.toNat).head? ≠ some 45 := by
      rw [hc]; intro e2; cases e2; simp at hc0
    have hh : (decDigits v.toNat).head? = some 48 → ¬ 1 < (decDigits v.toNat).length := by
      intro e2
      rw [hc] at e2
      cases e2
      have := digits_head _ _ hc
      rw [hc, this.2]; simp
    rw [e]
    unfold takeR
    simp only [h45, decide_false, Bool.false_eq_true, if_false, or_false]
    rw [if_neg (by rintro (h | h | h); exact hne h; omega; exact hh h.1 h.2), dec_digits]
    simp only
    rw [if_neg (by simp; omega)]
    congr 1
    omega
theorem takeR_minus {l : List UInt8} (hm : l.head? = some 45) : takeR l = if l.tail = [] ∨ 19 < l.tail.length ∨ l.tail.head? = some 48 then none
    else (dec 0 l.tail).bind fun v => if 9223372036854775808 < v then none else some (-(v : Int)) := by
  unfold takeR
  simp only [hm, decide_true, if_true, or_true, and_true, Bool.true_eq_false, false_and, or_false]
  split
  · rfl
  · cases dec 0 l.tail <;> rfl
theorem takeR_plain {l : List UInt8} (hm : l.head? ≠ some 45) : takeR l = if l = [] ∨ 19 < l.length ∨ (l.head? = some 48 ∧ 1 < l.length) then none
    else (dec 0 l).bind fun v => if 9223372036854775808 ≤ v then none else some (v : Int) := by
  unfold takeR
  simp only [hm, decide_false, Bool.false_eq_true, if_false, or_false, true_and]
  split
  · rfl
  · cases dec 0 l with
    | none => rfl
    | some v =>
      simp only [Option.bind_some]
      by_cases h : 9223372036854775808 ≤ v
      · rw [if_pos (by omega), if_pos h]
      · rw [if_neg (by omega), if_neg h]
theorem takeR_some {l : List UInt8} {v : Int} (h : takeR l = some v) : itoa v = l ∧ In64 v := by
  by_cases hm : l.head? = some 45
  · rw [takeR_minus hm] at h
    by_cases hc : l.tail = [] ∨ 19 < l.tail.length ∨ l.tail.head? = some 48
    · rw [if_pos hc] at h; cases h
    rw [if_neg hc] at h
    cases hu : dec 0 l.tail with
    | none => rw [hu] at h; cases h
    | some u =>
      rw [hu, Option.bind_some] at h
      by_cases hb : 9223372036854775808 < u
      · rw [if_pos hb] at h; cases h
      rw [if_neg hb] at h
      have h := Option.some.inj h
      have hl : l = 45 :: l.tail := by
        cases l with
        | nil => cases hm
        | cons a b => simp at hm; subst hm; rfl
      have hne : l.tail ≠ [] := fun e => hc (.inl e)
      have h48 : l.tail.head? ≠ some 48 := fun e => hc (.inr (.inr e))
      have hd := digits_unique _ _ u rfl hne hu (fun e => absurd e h48)
      have hu1 : 1 ≤ u := by
        rcases Nat.eq_zero_or_pos u with h0 | h0
        · subst h0
          rw [decDigits_small (by omega)] at hd
          rw [hd] at h48
          exact absurd rfl h48
        · exact h0
      subst h
      refine ⟨?_, by constructor <;> omega⟩
      rw [itoa_neg u hu1, ← hd, ← hl]
  · rw [takeR_plain hm] at h
    by_cases hc : l = [] ∨ 19 < l.length ∨ (l.head? = some 48 ∧ 1 < l.length)
    · rw [if_pos hc] at h; cases h
    rw [if_neg hc] at h
    cases hu : dec 0 l with
    | none => rw [hu] at h; cases h
    | some u =>
      rw [hu, Option.bind_some] at h
      by_cases hb : 9223372036854775808 ≤ u
      · rw [if_pos hb] at h; cases h
      rw [if_neg hb] at h
      have h := Option.some.inj h
      have hne : l ≠ [] := fun e => hc (.inl e)
      have hd := digits_unique _ l u rfl hne hu (fun e => by
        have h1 : ¬ 1 < l.length := fun h1 => hc (.inr (.inr ⟨e, h1⟩))
        have h2 : l.length ≠ 0 := fun e => hne (List.eq_nil_of_length_eq_zero e)
        omega)
      subst h
      refine ⟨?_, by constructor <;> omega⟩
      rw [itoa_nonneg u, ← hd]
/-- Program and reference take the same numbers. -/
theorem take_same (l : List UInt8) : takeR l = takeN l := by
  cases h : takeN l with
  | some v =>
    obtain ⟨h1, h2⟩ := takeN_some h
    rw [← h1]; exact takeR_itoa h2
  | none =>
    cases h2 : takeR l with
    | none => rfl
    | some v =>
      obtain ⟨h3, h4⟩ := takeR_some h2
      rw [← h3, takeN_itoa h4] at h
      cases h

end Go.Proofs.YtemojhcbhljemaaDoor.Pure

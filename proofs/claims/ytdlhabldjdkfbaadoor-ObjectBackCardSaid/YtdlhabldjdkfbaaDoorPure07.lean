/- Plain functions for layer 7 (object): what a kind is called, an object as bytes, and which object bytes are; no Go and no memory. -/
import Derived.Test.YtdlhabldjdkfbaaDoorPure01c
namespace Go.Proofs.YtdlhabldjdkfbaaDoor.Pure
set_option linter.unusedVariables false
set_option linter.unusedSimpArgs false
open Go.Lib

/-- What a kind is called. -/
def wordO (k : Int) : List UInt8 := if k = 1 then [98, 108, 111, 98] else if k = 2 then [116, 114, 101, 101] else if k = 3 then [99, 111, 109, 109, 105, 116] else []
/-- An object as bytes, whatever its length. -/
def bytesO (k : Int) (b : List UInt8) : List UInt8 := wordO k ++ [32] ++ itoa (b.length : Int) ++ [0] ++ b
/-- What stands behind the first zero; none: there is no zero. -/
def behind0 : List UInt8 → Option (List UInt8)
  | [] => none
  | c :: r => if c = 0 then some r else behind0 r
/-- The object that bytes are. -/
def parseO (b : List UInt8) : Option (Int × List UInt8) :=
  match behind0 b with
  | none => none
  | some r => if 65536 < r.length then none else if bytesO 1 r = b then some (1, r) else if bytesO 2 r = b then some (2, r) else if bytesO 3 r = b then some (3, r) else none

theorem behind_app : ∀ (a b : List UInt8), (∀ c ∈ a, c ≠ 0) → behind0 (a ++ 0 :: b) = some b
  | [], b, _ => by simp [behind0]
  | c :: a, b, h => by
    rw [List.cons_append, behind0, if_neg (h c (by simp)), behind_app a b (fun x hx => h x (by simp [hx]))]
theorem behind_len : ∀ (l r : List UInt8), behind0 l = some r → r.length < l.length
  | [], r, h => by simp [behind0] at h
  | c :: l, r, h => by
    unfold behind0 at h
    split at h
    · cases h; simp
    · have := behind_len l r h; simp only [List.length_cons]; omega
theorem behind_none : ∀ (l : List UInt8), behind0 l = none ↔ ∀ c ∈ l, c ≠ 0
  | [] => by simp [behind0]
  | c :: l => by
    unfold behind0
    by_cases h : c = 0
    · rw [if_pos h]; simp [h]
    · rw [if_neg h, behind_none l]; simp [h]
theorem digits_no0 (u : Nat) : ∀ c ∈ decDigits u, 48 ≤ c.toNat ∧ c.toNat ≤ 57 := by
  induction u using Nat.strongRecOn with
  | ind u ih =>
    by_cases h : u < 10
    · rw [decDigits_small h]
      intro c hc
      rw [List.mem_singleton] at hc
      rw [hc, UInt8.toNat_ofNat']; omega
    · rw [decDigits_big h]
      intro c hc
      rw [List.mem_append] at hc
      rcases hc with hc | hc
      · exact ih (u / 10) (by omega) c hc
      · rw [List.mem_singleton] at hc
        rw [hc, UInt8.toNat_ofNat']; omega
theorem itoa_nat (n : Nat) : itoa (n : Int) = decDigits n := by
  unfold itoa
  rw [if_neg (by omega)]
  rfl
theorem itoa_bytes (n : Nat) : ∀ c ∈ itoa (n : Int), 48 ≤ c.toNat ∧ c.toNat ≤ 57 := by rw [itoa_nat]; exact digits_no0 n
theorem word_no0 (k : Int) : ∀ c ∈ wordO k, 97 ≤ c.toNat ∧ c.toNat ≤ 122 := by
  unfold wordO
  intro c hc
  split at hc
  · simp at hc; rcases hc with rfl | rfl | rfl | rfl <;> decide
  · split at hc
    · simp at hc; rcases hc with rfl | rfl | rfl | rfl <;> decide
    · split at hc
      · simp at hc; rcases hc with rfl | rfl | rfl | rfl | rfl <;> decide
      · simp at hc
theorem ne0_of {c : UInt8} (h : 1 ≤ c.toNat) : c ≠ 0 := by rintro rfl; simp at h
theorem head_no0 (k : Int) (n : Nat) : ∀ c ∈ wordO k ++ [32] ++ itoa (n : Int), c ≠ 0 := by
  intro c hc
  simp only [List.mem_append, List.mem_singleton] at hc
  rcases hc with (hc | hc) | hc
  · exact ne0_of (by have := word_no0 k c hc; omega)
  · subst hc; decide
  · exact ne0_of (by have := itoa_bytes n c hc; omega)
theorem behind_bytes (k : Int) (b : List UInt8) : behind0 (bytesO k b) = some b := by
  unfold bytesO
  rw [List.append_assoc, List.singleton_append]
  exact behind_app _ _ (head_no0 k b.length)

theorem bytes_head {k j : Int} {a b : List UInt8} (h : bytesO k a = bytesO j b) : a = b := by
  have h1 := behind_bytes k a
  rw [h, behind_bytes] at h1
  exact (Option.some.inj h1).symm
theorem word_of {k j : Int} {a b : List UInt8} (h : bytesO k a = bytesO j b) : wordO k = wordO j := by
  have hab := bytes_head h
  subst hab
  unfold bytesO at h
  have h1 := List.append_cancel_right (List.append_cancel_right (List.append_cancel_right (List.append_cancel_right h)))
  exact h1
/-- What is printed is parsed. -/
theorem parse_bytes {k : Int} {b : List UInt8} (hk : k = 1 ∨ k = 2 ∨ k = 3) (hb : b.length ≤ 65536) : parseO (bytesO k b) = some (k, b) := by
  unfold parseO
  rw [behind_bytes]
  simp only
  rw [if_neg (by omega)]
  have key : ∀ j : Int, (j = 1 ∨ j = 2 ∨ j = 3) → j ≠ k → bytesO j b ≠ bytesO k b := by
    intro j hj hne h
    have hw := word_of h
    rcases hj with rfl | rfl | rfl <;> rcases hk with rfl | rfl | rfl <;> first | exact hne rfl | (revert hw; decide)
  rcases hk with rfl | rfl | rfl
  · rw [if_pos rfl]
  · rw [if_neg (key 1 (by simp) (by decide)), if_pos rfl]
  · rw [if_neg (key 1 (by simp) (by decide)), if_neg (key 2 (by simp) (by decide)), if_pos rfl]
/-- What is parsed, printed again, is the same bytes. -/
theorem parse_back {b r : List UInt8} {k : Int} (h : parseO b = some (k, r)) : (k = 1 ∨ k = 2 ∨ k = 3) ∧ r.length ≤ 65536 ∧ bytesO k r = b ∧ r.length < b.length := by
  unfold parseO at h
  split at h
  · cases h
  · rename_i q hq
    have hl := behind_len _ _ hq
    split at h
    · cases h
    · rename_i hn
      split at h
      · rename_i hb; simp only [Option.some.injEq, Prod.mk.injEq] at h; obtain ⟨rfl, rfl⟩ := h; exact ⟨by simp, by omega, hb, hl⟩
      · split at h
        · rename_i hb; simp only [Option.some.injEq, Prod.mk.injEq] at h; obtain ⟨rfl, rfl⟩ := h; exact ⟨by simp, by omega, hb, hl⟩
        · split at h
          · rename_i hb; simp only [Option.some.injEq, Prod.mk.injEq] at h; obtain ⟨rfl, rfl⟩ := h; exact ⟨by simp, by omega, hb, hl⟩
          · cases h

/-- Bytes whose head is another one than those of the body's length are no object. -/
theorem parse_head {h b : List UInt8} (h0 : ∀ c ∈ h, c ≠ 0) (hh : ∀ k : Int, (k = 1 ∨ k = 2 ∨ k = 3) → h ≠ wordO k ++ [32] ++ itoa (b.length : Int)) : parseO (h ++ 0 :: b) = none := by
  cases hp : parseO (h ++ 0 :: b) with
  | none => rfl
  | some q =>
    exfalso
    obtain ⟨k, r⟩ := q
    obtain ⟨hk, _, hb, _⟩ := parse_back hp
    have h1 := behind_app h b h0
    rw [← hb, behind_bytes] at h1
    have hr := Option.some.inj h1
    subst hr
    unfold bytesO at hb
    rw [List.append_assoc, List.singleton_append] at hb
    exact hh k hk (List.append_cancel_right hb).symm

/-- The heads of ObjectHeads. -/
def headsO (n : Nat) (more : Nat) : List (List UInt8) :=
  [[98, 108, 111, 98, 32] ++ itoa ((n + more : Nat) : Int), [98, 108, 111, 98, 32, 48] ++ itoa (n : Int), [98, 108, 111, 98, 32, 43] ++ itoa (n : Int), [98, 108, 111, 98, 32, 32] ++ itoa (n : Int),
   [66, 108, 111, 98, 32] ++ itoa (n : Int), [98, 108, 111, 98], [116, 97, 103, 32] ++ itoa (n : Int), [98, 108, 111, 98, 32] ++ itoa (n : Int) ++ [32]]
theorem itoa_len_ne {n m : Nat} (h : n < m) : itoa (n : Int) ≠ itoa (m : Int) := by
  rw [itoa_nat, itoa_nat]
  intro e
  have h1 := dec_digits n
  rw [e, dec_digits m] at h1
  have := Option.some.inj h1
  omega
theorem kinds3 {P : List UInt8 → Prop} {t : List UInt8} (h1 : P ([98, 108, 111, 98, 32] ++ t)) (h2 : P ([116, 114, 101, 101, 32] ++ t)) (h3 : P ([99, 111, 109, 109, 105, 116, 32] ++ t)) :
    ∀ k : Int, (k = 1 ∨ k = 2 ∨ k = 3) → P (wordO k ++ [32] ++ t) := by
  rintro k (rfl | rfl | rfl)
  · exact h1
  · exact h2
  · exact h3
theorem heads_bad (b : List UInt8) (more : Nat) (hm : 0 < more) (k : Nat) (h : List UInt8) (hk : (headsO b.length more)[k]? = some h) : parseO (h ++ 0 :: b) = none := by
  have hd := itoa_bytes b.length
  have hd2 := itoa_bytes (b.length + more)
  obtain ⟨c, r, hcr, hc1, hc2⟩ := digits_first b.length
  rw [← itoa_nat] at hcr
  have k8 : k = 0 ∨ k = 1 ∨ k = 2 ∨ k = 3 ∨ k = 4 ∨ k = 5 ∨ k = 6 ∨ k = 7 := by
    have := (List.getElem?_eq_some_iff.1 hk).1
    simp [headsO] at this
    omega
  have hz : ∀ (a : List UInt8), (∀ c ∈ a, c ≠ 0) → ∀ (n : Nat), ∀ c ∈ a ++ itoa (n : Int), c ≠ 0 := by
    intro a ha n c hc
    rcases List.mem_append.1 hc with hc | hc
    · exact ha c hc
    · exact ne0_of (by have := itoa_bytes n c hc; omega)
  rcases k8 with rfl | rfl | rfl | rfl | rfl | rfl | rfl | rfl <;> simp only [headsO, List.getElem?_cons_succ, List.getElem?_cons_zero, Option.some.injEq] at hk <;> subst hk
  · refine parse_head (hz _ (by decide) _) (kinds3 (P := fun x => _ ≠ x) ?_ ?_ ?_)
    · intro e; exact itoa_len_ne (show b.length < b.length + more by omega) (List.append_cancel_left e).symm
    · intro e; simp at e
    · intro e; simp at e
  · refine parse_head (hz _ (by decide) _) (kinds3 (P := fun x => _ ≠ x) ?_ ?_ ?_)
    · intro e; have := congrArg List.length e; simp at this
    · intro e; simp at e
    · intro e; simp at e
  · refine parse_head (hz _ (by decide) _) (kinds3 (P := fun x => _ ≠ x) ?_ ?_ ?_)
    · intro e; have := congrArg List.length e; simp at this
    · intro e; simp at e
    · intro e; simp at e
  · refine parse_head (hz _ (by decide) _) (kinds3 (P := fun x => _ ≠ x) ?_ ?_ ?_)
    · intro e; have := congrArg List.length e; simp at this
    · intro e; simp at e
    · intro e; simp at e
  · refine parse_head (hz _ (by decide) _) (kinds3 (P := fun x => _ ≠ x) ?_ ?_ ?_) <;> (intro e; simp at e)
  · refine parse_head (by decide) (kinds3 (P := fun x => _ ≠ x) ?_ ?_ ?_) <;> (intro e; simp at e)
  · refine parse_head (hz _ (by decide) _) (kinds3 (P := fun x => _ ≠ x) ?_ ?_ ?_) <;> (intro e; simp at e)
  · refine parse_head ?_ (kinds3 (P := fun x => _ ≠ x) ?_ ?_ ?_)
    · intro c hc
      rcases List.mem_append.1 hc with hc | hc
      · exact hz _ (by decide) _ c hc
      · simp at hc; subst hc; decide
    · intro e; have := congrArg List.length e; simp at this
    · intro e; simp at e
    · intro e; simp at e

end Go.Proofs.YtdlhabldjdkfbaaDoor.Pure

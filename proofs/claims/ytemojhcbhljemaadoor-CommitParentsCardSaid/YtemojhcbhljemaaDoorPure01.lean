/- Plain functions for layer 1 (hexa): digits of 16 and of 10, and how they are read back; no Go and no memory. -/
namespace Go.Proofs.YtemojhcbhljemaaDoor.Pure
set_option linter.unusedVariables false
set_option linter.unusedSimpArgs false

/-- A digit of 16. -/
def hexDigit (n : Nat) : UInt8 := if n < 10 then UInt8.ofNat (48 + n) else UInt8.ofNat (87 + n)

/-- Bytes as digits of 16. -/
def hex : List UInt8 → List UInt8
  | [] => []
  | c :: r => hexDigit (c.toNat / 16) :: hexDigit (c.toNat % 16) :: hex r

theorem hex_append (a b : List UInt8) : hex (a ++ b) = hex a ++ hex b := by
  induction a with
  | nil => rfl
  | cons c r ih => simp [hex, ih]

theorem hex_length (a : List UInt8) : (hex a).length = 2 * a.length := by
  induction a with
  | nil => rfl
  | cons c r ih => simp [hex, ih]; omega

/-- What a digit of 16 says. -/
def val (c : UInt8) : Option Nat :=
  if 48 ≤ c.toNat ∧ c.toNat ≤ 57 then some (c.toNat - 48) else if 97 ≤ c.toNat ∧ c.toNat ≤ 102 then some (c.toNat - 87) else none

/-- The bytes that digits say, the upper half of a byte at hand or not. -/
def unhexA : Option Nat → List UInt8 → Option (List UInt8)
  | none, [] => some []
  | some _, [] => none
  | none, c :: r => (val c).bind fun v => unhexA (some v) r
  | some u, c :: r => (val c).bind fun v => (unhexA none r).map (UInt8.ofNat (16 * u + v) :: ·)

/-- The bytes that digits of 16 say. -/
def unhex (l : List UInt8) : Option (List UInt8) := unhexA none l

theorem val_lt {c : UInt8} {v : Nat} (h : val c = some v) : v < 16 := by
  unfold val at h
  split at h
  · simp at h; omega
  · split at h
    · simp at h; omega
    · simp at h

theorem unhexA_length : ∀ (l : List UInt8) (u : Option Nat) (r : List UInt8), unhexA u l = some r → 2 * r.length = l.length + (if u.isSome then 1 else 0)
  | [], none, r, h => by simp [unhexA] at h; subst h; rfl
  | [], some _, r, h => by simp [unhexA] at h
  | c :: t, none, r, h => by
    simp only [unhexA, Option.bind_eq_some_iff] at h
    obtain ⟨v, _, h⟩ := h
    have := unhexA_length t (some v) r h
    simp at this ⊢
    omega
  | c :: t, some u, r, h => by
    simp only [unhexA, Option.bind_eq_some_iff, Option.map_eq_some_iff] at h
    obtain ⟨v, _, r', h, rfl⟩ := h
    have := unhexA_length t none r' h
    simp at this ⊢
    omega

theorem unhex_odd (l : List UInt8) (h : l.length % 2 = 1) : unhex l = none := by
  cases e : unhex l with
  | none => rfl
  | some r => have := unhexA_length l none r e; simp at this; omega

theorem unhex_length {l r : List UInt8} (h : unhex l = some r) : 2 * r.length = l.length := by
  have := unhexA_length l none r h
  simpa using this

end Go.Proofs.YtemojhcbhljemaaDoor.Pure

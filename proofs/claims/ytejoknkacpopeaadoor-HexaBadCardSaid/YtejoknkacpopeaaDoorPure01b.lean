/- Plain laws of layer 1 (hexa): what is written is read, what is read is written so; no Go and no memory. -/
import Derived.Test.YtejoknkacpopeaaDoorPure01
namespace Go.Proofs.YtejoknkacpopeaaDoor.Pure

theorem val_hexDigit : ∀ n : Nat, n < 16 → val (hexDigit n) = some n := by decide

theorem hexDigit_val {c : UInt8} {v : Nat} (h : val c = some v) : hexDigit v = c := by
  unfold val at h
  split at h
  · rename_i hc
    simp at h
    subst h
    unfold hexDigit
    rw [if_pos (by omega)]
    apply UInt8.toNat_inj.1
    rw [UInt8.toNat_ofNat']
    omega
  · split at h
    · rename_i hc
      simp at h
      subst h
      unfold hexDigit
      rw [if_neg (by omega)]
      apply UInt8.toNat_inj.1
      rw [UInt8.toNat_ofNat']
      omega
    · simp at h

theorem unhex_hex (l : List UInt8) : unhex (hex l) = some l := by
  induction l with
  | nil => rfl
  | cons c r ih =>
    have hc := c.toNat_lt
    have h1 := val_hexDigit (c.toNat / 16) (by omega)
    have h2 := val_hexDigit (c.toNat % 16) (by omega)
    unfold unhex at ih
    simp only [unhex, hex, unhexA, h1, h2, Option.bind_some, ih, Option.map_some]
    congr 2
    apply UInt8.toNat_inj.1
    rw [UInt8.toNat_ofNat']
    omega

theorem hex_unhexA : ∀ (s : List UInt8) (r : List UInt8), (unhexA none s = some r → hex r = s) ∧ ∀ u, u < 16 → unhexA (some u) s = some r → hex r = hexDigit u :: s
  | [], r => by
    refine ⟨fun h => ?_, fun u _ h => ?_⟩
    · simp [unhexA] at h; subst h; rfl
    · simp [unhexA] at h
  | c :: s, r => by
    refine ⟨fun h => ?_, fun u hu h => ?_⟩
    · simp only [unhexA, Option.bind_eq_some_iff] at h
      obtain ⟨v, hv, h⟩ := h
      have := (hex_unhexA s r).2 v (val_lt hv) h
      rw [this, hexDigit_val hv]
    · simp only [unhexA, Option.bind_eq_some_iff, Option.map_eq_some_iff] at h
      obtain ⟨v, hv, r', h, rfl⟩ := h
      have ih := (hex_unhexA s r').1 h
      have hv16 := val_lt hv
      have hn : (UInt8.ofNat (16 * u + v)).toNat = 16 * u + v := by rw [UInt8.toNat_ofNat']; omega
      simp only [hex, hn, ih]
      rw [show (16 * u + v) / 16 = u by omega, show (16 * u + v) % 16 = v by omega, hexDigit_val hv]

theorem hex_unhex {s r : List UInt8} (h : unhex s = some r) : hex r = s := (hex_unhexA s r).1 h

theorem unhex_none_of_bad (s : List UInt8) (i : Nat) (c : UInt8) (h : s[i]? = some c) (hc : val c = none) : unhex s = none := by
  have key : ∀ (s : List UInt8) (i : Nat) (u : Option Nat), s[i]? = some c → unhexA u s = none := by
    intro s
    induction s with
    | nil => intro i u h; simp at h
    | cons x s ih =>
      intro i u h
      cases i with
      | zero =>
        simp at h
        subst h
        cases u <;> simp [unhexA, hc]
      | succ i =>
        have h' : s[i]? = some c := by simpa using h
        cases u with
        | none =>
          simp only [unhexA]
          cases hv : val x with
          | none => rfl
          | some v => simpa using ih i (some v) h'
        | some u =>
          simp only [unhexA]
          cases hv : val x with
          | none => rfl
          | some v => simp [ih i none h']
  exact key s i none h

end Go.Proofs.YtejoknkacpopeaaDoor.Pure

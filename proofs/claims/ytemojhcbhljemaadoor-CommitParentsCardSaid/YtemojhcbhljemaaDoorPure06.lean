/- Idents as texts: plain laws. No program in sight. -/
import Derived.Test.YtemojhcbhljemaaDoorPureCut
import Derived.Test.YtemojhcbhljemaaDoorPure01c
namespace Go.Proofs.YtemojhcbhljemaaDoor.Pure

/-- A number's two digits; a zone's text. -/
def two (n : Nat) : List UInt8 := [UInt8.ofNat (48 + n / 10), UInt8.ofNat (48 + n % 10)]
def zoneT (neg : Bool) (n : Nat) : List UInt8 := (if neg then [45] else [43]) ++ two (n / 60) ++ two (n % 60)
def zoneS (z : Int) : List UInt8 := zoneT (decide (z < 0)) z.natAbs
def zoneIn (z : Int) : Prop := -840 ≤ z ∧ z ≤ 840
instance (z : Int) : Decidable (zoneIn z) := inferInstanceAs (Decidable (_ ∧ _))
def digit (c : UInt8) : Bool := decide (48 ≤ c.toNat) && decide (c.toNat ≤ 57)
def dv (c : UInt8) : Nat := c.toNat - 48
/-- The zone that five bytes are. -/
def zoneF : List UInt8 → Option Int
  | [s, a, b, c, d] => if digit a && digit b && digit c && digit d then
      let n : Int := (((dv a * 10 + dv b) * 6 + dv c) * 10 + dv d : Nat)
      let z := if s = 45 then -n else n
      if zoneIn z ∧ zoneS z = [s, a, b, c, d] then some z else none
    else none
  | _ => none

theorem two_nat {k : Nat} (h : k < 10) : (UInt8.ofNat (48 + k)).toNat = 48 + k := by rw [UInt8.toNat_ofNat']; omega
theorem zoneT_len (neg : Bool) (n : Nat) : (zoneT neg n).length = 5 := by cases neg <;> rfl
theorem zoneS_len (z : Int) : (zoneS z).length = 5 := zoneT_len _ _
theorem zoneF_S {z : Int} (h : zoneIn z) : zoneF (zoneS z) = some z := by
  obtain ⟨h1, h2⟩ := h
  have ha := @two_nat (z.natAbs / 60 / 10) (by omega)
  have hb := @two_nat (z.natAbs / 60 % 10) (by omega)
  have hc := @two_nat (z.natAbs % 60 / 10) (by omega)
  have hd := @two_nat (z.natAbs % 60 % 10) (by omega)
  have hs : zoneS z = [if decide (z < 0) then 45 else 43, UInt8.ofNat (48 + z.natAbs / 60 / 10), UInt8.ofNat (48 + z.natAbs / 60 % 10), UInt8.ofNat (48 + z.natAbs % 60 / 10), UInt8.ofNat (48 + z.natAbs % 60 % 10)] := by
    unfold zoneS zoneT two
    cases decide (z < 0) <;> rfl
  rw [hs]
  generalize UInt8.ofNat (48 + z.natAbs / 60 / 10) = a at *
  generalize UInt8.ofNat (48 + z.natAbs / 60 % 10) = b at *
  generalize UInt8.ofNat (48 + z.natAbs % 60 / 10) = c at *
  generalize UInt8.ofNat (48 + z.natAbs % 60 % 10) = d at *
  have da : digit a = true := by unfold digit; simp; omega
  have db : digit b = true := by unfold digit; simp; omega
  have dc : digit c = true := by unfold digit; simp; omega
  have dd : digit d = true := by unfold digit; simp; omega
  have hn : (((dv a * 10 + dv b) * 6 + dv c) * 10 + dv d) = z.natAbs := by unfold dv; rw [ha, hb, hc, hd]; omega
  unfold zoneF
  simp only [da, db, dc, dd, Bool.and_self, if_true, hn]
  by_cases hz : z < 0
  · have e : (-(z.natAbs : Int)) = z := by omega
    have e1 : decide (z < 0) = true := decide_eq_true hz
    simp only [e1, if_true] at hs ⊢
    rw [e, if_pos ⟨⟨h1, h2⟩, hs⟩]
  · have e : ((z.natAbs : Int)) = z := by omega
    have e1 : decide (z < 0) = false := decide_eq_false hz
    have e2 : ¬ ((43 : UInt8) = 45) := by decide
    simp only [e1, Bool.false_eq_true, if_false, if_neg e2] at hs ⊢
    rw [e, if_pos ⟨⟨h1, h2⟩, hs⟩]
theorem zoneF_some {l : List UInt8} {z : Int} (h : zoneF l = some z) : zoneIn z ∧ zoneS z = l := by
  unfold zoneF at h
  split at h
  · rename_i s a b c d
    have key : ∀ (q : Bool) (y : Int), (if q then (if zoneIn y ∧ zoneS y = [s, a, b, c, d] then some y else none) else none) = some z → zoneIn z ∧ zoneS z = [s, a, b, c, d] := by
      intro q y hq
      cases q with
      | false => cases hq
      | true =>
        simp only [if_true] at hq
        split at hq
        · rename_i hh; simp only [Option.some.injEq] at hq; subst hq; exact hh
        · cases hq
    exact key _ _ h
  · cases h
theorem zoneF_none {l : List UInt8} (h : zoneF l = none) : ∀ z, zoneIn z → zoneS z ≠ l := by
  intro z hz e
  rw [← e, zoneF_S hz] at h
  cases h
theorem zoneF_eq {l : List UInt8} {z : Int} (h : zoneIn z) (e : zoneS z = l) : zoneF l = some z := by rw [← e]; exact zoneF_S h
theorem zoneF_len {l : List UInt8} (h : l.length ≠ 5) : zoneF l = none := by
  unfold zoneF
  split
  · simp at h
  · rfl
/-- What the reference looks at. -/
theorem zoneF_ref (s a b c d : UInt8) (ha : digit a = true) (hb : digit b = true) (hc : digit c = true) (hd : digit d = true) (hs : s = 43 ∨ s = 45) :
    zoneF [s, a, b, c, d] = if 59 < dv c * 10 + dv d ∨ 840 < (dv a * 10 + dv b) * 60 + (dv c * 10 + dv d) ∨ (s = 45 ∧ (dv a * 10 + dv b) * 60 + (dv c * 10 + dv d) = 0) then none else some (if s = 45 then -(((dv a * 10 + dv b) * 60 + (dv c * 10 + dv d) : Nat) : Int) else (((dv a * 10 + dv b) * 60 + (dv c * 10 + dv d) : Nat) : Int)) := by
  unfold digit at ha hb hc hd
  simp at ha hb hc hd
  have ea : a = UInt8.ofNat (48 + dv a) := by apply UInt8.toNat_inj.1; rw [UInt8.toNat_ofNat']; unfold dv; omega
  have eb : b = UInt8.ofNat (48 + dv b) := by apply UInt8.toNat_inj.1; rw [UInt8.toNat_ofNat']; unfold dv; omega
  have ec : c = UInt8.ofNat (48 + dv c) := by apply UInt8.toNat_inj.1; rw [UInt8.toNat_ofNat']; unfold dv; omega
  have ed : d = UInt8.ofNat (48 + dv d) := by apply UInt8.toNat_inj.1; rw [UInt8.toNat_ofNat']; unfold dv; omega
  have la : dv a < 10 := by unfold dv; omega
  have lb : dv b < 10 := by unfold dv; omega
  have lc : dv c < 10 := by unfold dv; omega
  have ld : dv d < 10 := by unfold dv; omega
  by_cases h : 59 < dv c * 10 + dv d ∨ 840 < (dv a * 10 + dv b) * 60 + (dv c * 10 + dv d) ∨ (s = 45 ∧ (dv a * 10 + dv b) * 60 + (dv c * 10 + dv d) = 0)
  · rw [if_pos h]
    cases hz : zoneF [s, a, b, c, d] with
    | none => rfl
    | some z =>
      exfalso
      obtain ⟨⟨z1, z2⟩, hS⟩ := zoneF_some hz
      unfold zoneS zoneT two at hS
      have hS' : [if decide (z < 0) then (45 : UInt8) else 43, UInt8.ofNat (48 + z.natAbs / 60 / 10), UInt8.ofNat (48 + z.natAbs / 60 % 10), UInt8.ofNat (48 + z.natAbs % 60 / 10), UInt8.ofNat (48 + z.natAbs % 60 % 10)] = [s, a, b, c, d] := by
        rw [← hS]; cases decide (z < 0) <;> rfl
      simp only [List.cons.injEq, and_true] at hS'
      obtain ⟨e0, e1, e2, e3, e4⟩ := hS'
      have n1 := two_nat (k := z.natAbs / 60 / 10) (by omega)
      have n2 := two_nat (k := z.natAbs / 60 % 10) (by omega)
      have n3 := two_nat (k := z.natAbs % 60 / 10) (by omega)
      have n4 := two_nat (k := z.natAbs % 60 % 10) (by omega)
      rw [e1] at n1
      rw [e2] at n2
      rw [e3] at n3
      rw [e4] at n4
      have m1 : dv a = z.natAbs / 60 / 10 := by unfold dv; omega
      have m2 : dv b = z.natAbs / 60 % 10 := by unfold dv; omega
      have m3 : dv c = z.natAbs % 60 / 10 := by unfold dv; omega
      have m4 : dv d = z.natAbs % 60 % 10 := by unfold dv; omega
      rcases h with h | h | ⟨h, h'⟩
      · omega
      · omega
      · have : z = 0 := by omega
        subst this
        rw [← e0] at h
        revert h
        decide
  · rw [if_neg h]
    have h1 : ¬ 59 < dv c * 10 + dv d := fun x => h (.inl x)
    have h2 : ¬ 840 < (dv a * 10 + dv b) * 60 + (dv c * 10 + dv d) := fun x => h (.inr (.inl x))
    have h3 : s = 45 → ¬ ((dv a * 10 + dv b) * 60 + (dv c * 10 + dv d) = 0) := fun x y => h (.inr (.inr ⟨x, y⟩))
    obtain ⟨n, hn⟩ : ∃ n, (dv a * 10 + dv b) * 60 + (dv c * 10 + dv d) = n := ⟨_, rfl⟩
    rw [hn] at h2 h3 ⊢
    have k1 : n / 60 / 10 = dv a := by omega
    have k2 : n / 60 % 10 = dv b := by omega
    have k3 : n % 60 / 10 = dv c := by omega
    have k4 : n % 60 % 10 = dv d := by omega
    rcases hs with rfl | rfl
    · rw [if_neg (by decide)]
      refine zoneF_eq ⟨by omega, by omega⟩ ?_
      unfold zoneS zoneT two
      have : decide ((n : Int) < 0) = false := decide_eq_false (by omega)
      rw [this, show ((n : Int)).natAbs = n by omega, k1, k2, k3, k4, ← ea, ← eb, ← ec, ← ed]
      rfl
    · rw [if_pos rfl]
      have := h3 rfl
      refine zoneF_eq ⟨by omega, by omega⟩ ?_
      unfold zoneS zoneT two
      have : decide (-(n : Int) < 0) = true := decide_eq_true (by omega)
      rw [this, show (-(n : Int)).natAbs = n by omega, k1, k2, k3, k4, ← ea, ← eb, ← ec, ← ed]
      rfl

/-- An ident's text. -/
def printL (n e : List UInt8) (w z : Int) : List UInt8 := (if n = [] then [] else n ++ [32]) ++ (60 :: (e ++ (62 :: 32 :: (Lib.itoa w ++ (32 :: zoneS z)))))

theorem cut_two (a b : List UInt8) (c d : UInt8) (h : ∀ x ∈ a, x ≠ c) : Lib.cut (a ++ c :: d :: b) [c, d] = (a, b, true) := by
  have hi : Lib.index (a ++ c :: d :: b) [c, d] = (a.length : Int) := by
    refine Lib.index_first (by simp) ?_ ?_
    · simp [Lib.occAt, List.isPrefixOf]
    · intro j hj
      unfold Lib.occAt
      rw [List.drop_append_of_le_length (by omega), List.drop_eq_getElem_cons hj, List.cons_append]
      have := h _ (List.getElem_mem hj)
      simp [List.isPrefixOf]
      intro e
      exact absurd e.symm this
  unfold Lib.cut
  rw [if_pos (by omega), hi]
  simp

theorem itoa_noblank {v : Int} (h : 0 ≤ v) : ∀ x ∈ Lib.itoa v, 48 ≤ x.toNat ∧ x.toNat ≤ 57 := by
  have key : ∀ (k u : Nat), u < k → ∀ x ∈ Lib.decDigits u, 48 ≤ x.toNat ∧ x.toNat ≤ 57 := by
    intro k
    induction k with
    | zero => intro u hu; omega
    | succ k ih =>
      intro u hu x hx
      by_cases hs : u < 10
      · rw [decDigits_small hs] at hx
        simp at hx
        subst hx
        have := @two_nat u hs
        have e : (48 + UInt8.ofNat u) = UInt8.ofNat (48 + u) := by apply UInt8.toNat_inj.1; simp
        first
          | omega
          | (rw [e]; omega)
      · rw [decDigits_big hs, List.mem_append] at hx
        rcases hx with hx | hx
        · exact ih (u / 10) (by omega) x hx
        · simp only [List.mem_singleton] at hx
          subst hx
          have := @two_nat (u % 10) (by omega)
          omega
  unfold Lib.itoa
  rw [if_neg (by omega)]
  exact key _ _ (Nat.lt_succ_self _)

/-- What the program's parse cuts out of a text that was printed. -/
theorem cuts_print (n e : List UInt8) (w z : Int) (hn : ∀ x ∈ n, x ≠ 60) (he : ∀ x ∈ e, x ≠ 62) (hw : 0 ≤ w) :
    cutC 60 (printL n e w z) = some (if n = [] then [] else n ++ [32], e ++ (62 :: 32 :: (Lib.itoa w ++ (32 :: zoneS z)))) ∧
    Lib.cut (e ++ (62 :: 32 :: (Lib.itoa w ++ (32 :: zoneS z)))) [62, 32] = (e, Lib.itoa w ++ (32 :: zoneS z), true) ∧
    cutC 32 (Lib.itoa w ++ (32 :: zoneS z)) = some (Lib.itoa w, zoneS z) := by
  refine ⟨?_, cut_two _ _ _ _ he, cutC_app _ _ _ ?_⟩
  · unfold printL
    refine cutC_app _ _ _ ?_
    intro x hx
    split at hx
    · simp at hx
    · simp only [List.mem_append, List.mem_singleton] at hx
      rcases hx with hx | rfl
      · exact hn x hx
      · decide
  · intro x hx e
    subst e
    have := itoa_noblank hw _ hx
    revert this
    decide

end Go.Proofs.YtemojhcbhljemaaDoor.Pure

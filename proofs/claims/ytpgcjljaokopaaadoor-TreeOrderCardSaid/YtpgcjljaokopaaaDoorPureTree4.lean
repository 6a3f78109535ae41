/- Which tree bytes are, as the reference reads them. No function of the program. -/
import Derived.Test.YtpgcjljaokopaaaDoorPureTree3
import Derived.Test.YtpgcjljaokopaaaDoorHelpText
namespace Go.Proofs.YtpgcjljaokopaaaDoor
set_option linter.unusedVariables false
set_option linter.unusedSimpArgs false
open Go.RowKit

/-- Does a text begin with a mode's word, and a blank? -/
def begM (m : Int) (r : List UInt8) : Bool := Lib.hasPrefix r (Pure.wordM m ++ [32])
theorem prefix_iff (r p : List UInt8) : Lib.hasPrefix r p = true ↔ ∃ s, r = p ++ s := by
  have h : Lib.hasPrefix r p = p.isPrefixOf r := by first | rfl | (unfold Lib.hasPrefix; rfl)
  rw [h, List.isPrefixOf_iff_prefix]
  constructor
  · rintro ⟨s, e⟩; exact ⟨s, e.symm⟩
  · rintro ⟨s, e⟩; exact ⟨s, e.symm⟩

theorem parse_item0 {l r r' : List UInt8} {ds : List Itm} {x : Itm} (h : itemsT l.length l = (itemsT r.length r).map (ds ++ ·)) (hi : itemT r = some (x, r')) (hm : x.mode = 0) : parseT l = none := by
  rw [itemsT_step hi] at h
  cases hq : itemsT r'.length r' with
  | none => rw [hq] at h; exact parseT_none h
  | some more =>
    rw [hq] at h
    cases hp : parseT l with
    | none => rfl
    | some z =>
      exfalso
      obtain ⟨_, hr⟩ := parse_back hp
      unfold parseT at hp
      rw [h] at hp
      simp only [Option.map_some] at hp
      split at hp
      · cases hp
        have := right_modes hr x (by simp)
        omega
      · cases hp
theorem parse_nobeg {l r : List UInt8} {ds : List Itm} (h : itemsT l.length l = (itemsT r.length r).map (ds ++ ·)) (hne : r ≠ []) (hn : ∀ j : Nat, 1 ≤ j → j < 5 → begM (j : Int) r = false) : parseT l = none := by
  cases hi : itemT r with
  | none => rw [itemsT_none hne hi] at h; exact parseT_none h
  | some y =>
    obtain ⟨x, r'⟩ := y
    by_cases hm : x.mode = 0
    · exact parse_item0 h hi hm
    · exfalso
      have hb := itemT_back hi hm
      have hmm : 1 ≤ x.mode ∧ x.mode ≤ 4 := by
        unfold itemT at hi
        cases h0 : Pure.cutC 0 r with
        | none => rw [h0] at hi; cases hi
        | some y =>
          obtain ⟨hd, rr⟩ := y
          rw [h0] at hi
          simp only at hi
          cases h1 : Pure.cutC 32 hd with
          | none => rw [h1] at hi; cases hi
          | some z =>
            obtain ⟨f, n⟩ := z
            rw [h1] at hi
            simp only at hi
            split at hi
            · cases hi
            · simp only [Option.some.injEq, Prod.mk.injEq] at hi
              obtain ⟨rfl, rfl⟩ := hi
              rcases modeT_cases f with hz | ⟨a, b, _⟩
              · exact absurd hz hm
              · exact ⟨a, b⟩
      have h1 := hn x.mode.toNat (by omega) (by omega)
      rw [Int.toNat_of_nonneg (by omega)] at h1
      have h2 : begM x.mode r = true := by
        unfold begM
        rw [prefix_iff]
        exact ⟨x.name.data.toList ++ [0] ++ x.id ++ r', by rw [hb]; unfold lineI; simp⟩
      rw [h2] at h1
      cases h1
/-- What stands behind a mode's word. -/
theorem itemT_beg {r s : List UInt8} {m : Int} (hm : 1 ≤ m ∧ m ≤ 4) (hr : r = Pure.wordM m ++ 32 :: s) :
    (Pure.cutC 0 s = none → itemT r = none) ∧ ∀ n rest, Pure.cutC 0 s = some (n, rest) → itemT r = if rest.length < 20 then none else some (⟨m, ⟨n.toArray⟩, rest.take 20⟩, rest.drop 20) := by
  constructor
  · intro h
    have h0 : Pure.cutC 0 r = none := by
      rw [Pure.cutC_none] at h ⊢
      intro c hc
      rw [hr, List.mem_append, List.mem_cons] at hc
      rcases hc with hc | rfl | hc
      · exact (word_no m c hc).1
      · decide
      · exact h c hc
    unfold itemT
    rw [h0]
  · intro n rest h
    obtain ⟨e, hn⟩ := (Pure.cutC_some 0 _ _ _).1 h
    have h0 : Pure.cutC 0 r = some (Pure.wordM m ++ 32 :: n, rest) := by
      rw [Pure.cutC_some]
      refine ⟨by rw [hr, e]; simp, ?_⟩
      intro c hc
      rw [List.mem_append, List.mem_cons] at hc
      rcases hc with hc | rfl | hc
      · exact (word_no m c hc).1
      · decide
      · exact hn c hc
    have h1 : Pure.cutC 32 (Pure.wordM m ++ 32 :: n) = some (Pure.wordM m, n) := Pure.cutC_app 32 _ _ (fun c hc => (word_no m c hc).2)
    unfold itemT
    rw [h0]
    simp only
    rw [h1]
    simp only
    rw [modeT_word hm]

/-- Find of a zero, from a place on, as the cut there. -/
theorem find_zero (l : List UInt8) (k : Nat) : findFrom l [0] k = match Pure.cutC 0 (l.drop k) with | none => -1 | some (a, _) => ((k + a.length : Nat) : Int) := by
  unfold findFrom
  rw [Lib.index_one]
  have hge : -1 ≤ Lib.indexByte (l.drop k) 0 := by rw [← Lib.index_one]; exact Lib.index_ge _ _
  cases h : Pure.cutC 0 (l.drop k) with
  | none =>
    rw [Pure.cutC_none] at h
    have : Lib.indexByte (l.drop k) 0 = -1 := by
      apply Classical.byContradiction
      intro hn
      obtain ⟨i, hi⟩ := Int.eq_ofNat_of_zero_le (by omega : 0 ≤ Lib.indexByte (l.drop k) 0)
      exact h 0 (List.mem_of_getElem? (Lib.indexByte_some hi).1) rfl
    rw [this]
    rfl
  | some y =>
    obtain ⟨a, b⟩ := y
    obtain ⟨e, hn⟩ := (Pure.cutC_some 0 _ _ _).1 h
    have hi : Lib.indexByte (l.drop k) 0 = (a.length : Int) := by
      by_cases h0 : 0 ≤ Lib.indexByte (l.drop k) 0
      · obtain ⟨i, hi⟩ := Int.eq_ofNat_of_zero_le h0
        obtain ⟨h1, h2⟩ := Lib.indexByte_some hi
        have : i = a.length := by
          apply Classical.byContradiction
          intro hne
          by_cases hlt : i < a.length
          · rw [e, List.getElem?_append_left hlt, List.getElem?_eq_getElem hlt] at h1
            exact hn _ (List.getElem_mem hlt) (Option.some.inj h1)
          · refine h2 a.length (by omega) ?_
            rw [e, List.getElem?_append_right (Nat.le_refl _), Nat.sub_self]
            rfl
        rw [hi, this]
      · exfalso
        have h1 : Lib.indexByte (l.drop k) 0 = -1 := by omega
        refine Lib.indexByte_none h1 a.length ?_
        rw [e, List.getElem?_append_right (Nat.le_refl _), Nat.sub_self]
        rfl
    rw [hi]
    have : ((a.length : Int) == -1) = false := by rw [beq_eq_false_iff_ne]; omega
    simp only [this]
    simp
    omega

end Go.Proofs.YtpgcjljaokopaaaDoor

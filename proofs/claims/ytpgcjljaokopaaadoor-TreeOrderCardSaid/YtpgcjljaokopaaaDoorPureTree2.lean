/- What is printed is parsed; what is parsed, printed again, is the same bytes. No function of the program. -/
import Derived.Test.YtpgcjljaokopaaaDoorPureTree
import Derived.Test.YtpgcjljaokopaaaDoorTree4
namespace Go.Proofs.YtpgcjljaokopaaaDoor
set_option linter.unusedVariables false
set_option linter.unusedSimpArgs false
open Go.RowKit

theorem word_no (m : Int) : ∀ c ∈ Pure.wordM m, c ≠ 0 ∧ c ≠ 32 := by
  unfold Pure.wordM
  split; decide; split; decide; split; decide; split; decide; simp
theorem name_no {l : List UInt8} (h : Pure.nameI l = true) : ∀ c ∈ l, c ≠ 0 := by
  unfold Pure.nameI Pure.pathP at h
  simp only [Bool.and_eq_true, Bool.not_eq_true'] at h
  have h0 := h.1.1.1.1.2
  intro c hc e
  subst e
  have : Lib.contains l [0] = true := by
    unfold Lib.contains
    rw [Lib.index_one]
    obtain ⟨j, hj⟩ := List.mem_iff_getElem?.1 hc
    have h1 : -1 ≤ Lib.indexByte l 0 := by rw [← Lib.index_one]; exact Lib.index_ge _ _
    have h2 : Lib.indexByte l 0 ≠ -1 := fun e => Lib.indexByte_none e j hj
    first
      | (rw [decide_eq_true_eq]; omega)
      | (simp; omega)
  rw [this] at h0
  cases h0

theorem itemT_line (x : Itm) (r : List UInt8) (hi : x.id.length = 20) (hm : 1 ≤ x.mode ∧ x.mode ≤ 4) (hn : Pure.nameI x.name.data.toList = true) : itemT (lineI x ++ r) = some (x, r) := by
  have e1 : lineI x ++ r = (Pure.wordM x.mode ++ 32 :: x.name.data.toList) ++ 0 :: (x.id ++ r) := by unfold lineI; simp
  have h0 : Pure.cutC 0 (lineI x ++ r) = some (Pure.wordM x.mode ++ 32 :: x.name.data.toList, x.id ++ r) := by
    rw [e1]
    refine Pure.cutC_app 0 _ _ ?_
    intro c hc
    rw [List.mem_append, List.mem_cons] at hc
    rcases hc with h | rfl | h
    · exact (word_no _ c h).1
    · decide
    · exact name_no hn c h
  have h1 : Pure.cutC 32 (Pure.wordM x.mode ++ 32 :: x.name.data.toList) = some (Pure.wordM x.mode, x.name.data.toList) := Pure.cutC_app 32 _ _ (fun c hc => (word_no _ c hc).2)
  unfold itemT
  rw [h0]
  simp only
  rw [h1]
  simp only
  rw [if_neg (by rw [List.length_append]; omega), modeT_word hm, List.take_left' hi, List.drop_left' hi]
theorem itemT_back {b : List UInt8} {x : Itm} {r : List UInt8} (h : itemT b = some (x, r)) (hm : x.mode ≠ 0) : b = lineI x ++ r := by
  unfold itemT at h
  cases h0 : Pure.cutC 0 b with
  | none => rw [h0] at h; cases h
  | some y =>
    obtain ⟨hd, rr⟩ := y
    rw [h0] at h
    simp only at h
    cases h1 : Pure.cutC 32 hd with
    | none => rw [h1] at h; cases h
    | some z =>
      obtain ⟨f, n⟩ := z
      rw [h1] at h
      simp only at h
      split at h
      · cases h
      · simp only [Option.some.injEq, Prod.mk.injEq] at h
        obtain ⟨rfl, rfl⟩ := h
        have e0 := ((Pure.cutC_some 0 _ _ _).1 h0).1
        have e1 := ((Pure.cutC_some 32 _ _ _).1 h1).1
        rcases modeT_cases f with hz | ⟨-, -, hf⟩
        · exact absurd hz hm
        · rw [e0, e1]
          unfold lineI
          simp only
          rw [← hf]
          simp

theorem itemsT_print : ∀ (l : List Itm), (∀ x ∈ l, x.id.length = 20) → (∀ x ∈ l, 1 ≤ x.mode ∧ x.mode ≤ 4) → (∀ x ∈ l, Pure.nameI x.name.data.toList = true) → itemsT (printI l).length (printI l) = some l
  | [], _, _, _ => rfl
  | x :: r, h1, h2, h3 => by
    have ih := itemsT_print r (fun y hy => h1 y (by simp [hy])) (fun y hy => h2 y (by simp [hy])) (fun y hy => h3 y (by simp [hy]))
    have e : printI (x :: r) = lineI x ++ printI r := by unfold printI; rw [List.flatMap_cons]
    have hs := itemT_line x (printI r) (h1 x (by simp)) (h2 x (by simp)) (h3 x (by simp))
    rw [e, itemsT_step hs, ih]
    rfl
theorem itemsT_back : ∀ (n : Nat) (b : List UInt8) (l : List Itm), b.length ≤ n → itemsT b.length b = some l → (∀ x ∈ l, x.mode ≠ 0) → printI l = b
  | n, [], l, _, h, _ => by cases h; rfl
  | 0, c :: b, _, hn, _, _ => by simp at hn
  | n + 1, c :: b, l, hn, h, hm => by
    cases hi : itemT (c :: b) with
    | none => rw [itemsT_none (by simp) hi] at h; cases h
    | some y =>
      obtain ⟨x, r⟩ := y
      rw [itemsT_step hi, Option.map_eq_some_iff] at h
      obtain ⟨more, h1, rfl⟩ := h
      have hl := (itemT_some hi).1
      have ih := itemsT_back n r more (by omega) h1 (fun z hz => hm z (by simp [hz]))
      have e : printI (x :: more) = lineI x ++ printI more := by unfold printI; rw [List.flatMap_cons]
      rw [e, ih]
      exact (itemT_back hi (hm x (by simp))).symm

theorem right_modes {l : List Itm} (h : l = [] ∨ rightI l = true) : ∀ x ∈ l, 1 ≤ x.mode ∧ x.mode ≤ 4 := by
  rcases h with rfl | h
  · simp
  · unfold rightI at h; simp only [Bool.and_eq_true] at h
    have key : ∀ (l : List Itm) (p : Option Itm) (s : List (List UInt8)), goodI p s l = true → ∀ x ∈ l, 1 ≤ x.mode ∧ x.mode ≤ 4 := by
      intro l
      induction l with
      | nil => intro _ _ _; simp
      | cons y r ih =>
        intro p s h
        rw [good_cons] at h
        simp only [Bool.and_eq_true] at h
        intro x hx
        rcases List.mem_cons.1 hx with rfl | hx
        · have := h.1.1
          unfold oneI at this
          simp only [Bool.and_eq_true, decide_eq_true_eq] at this
          exact this.2
        · exact ih _ _ h.2 x hx
    exact key _ _ _ h.1.1
theorem right_names {l : List Itm} (h : l = [] ∨ rightI l = true) : ∀ x ∈ l, Pure.nameI x.name.data.toList = true := by
  rcases h with rfl | h
  · simp
  · unfold rightI at h; simp only [Bool.and_eq_true] at h; exact good_all _ _ _ h.1.1
theorem parse_print {l : List Itm} (h : l = [] ∨ rightI l = true) (h20 : ∀ x ∈ l, x.id.length = 20) : parseT (printI l) = some l :=
  parseT_of (itemsT_print l h20 (right_modes h) (right_names h)) h
theorem parse_back {b : List UInt8} {l : List Itm} (h : parseT b = some l) : printI l = b ∧ (l = [] ∨ rightI l = true) := by
  unfold parseT at h
  cases hq : itemsT b.length b with
  | none => rw [hq] at h; cases h
  | some m =>
    rw [hq] at h
    simp only at h
    split at h
    · rename_i hr
      cases h
      exact ⟨itemsT_back b.length b l (Nat.le_refl _) hq (fun x hx => by have := right_modes hr x hx; omega), hr⟩
    · cases h

end Go.Proofs.YtpgcjljaokopaaaDoor

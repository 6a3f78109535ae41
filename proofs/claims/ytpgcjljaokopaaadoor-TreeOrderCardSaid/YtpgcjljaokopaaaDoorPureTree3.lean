/- A tree's bytes, cut. No function of the program. -/
import Derived.Test.YtpgcjljaokopaaaDoorPureTree2
namespace Go.Proofs.YtpgcjljaokopaaaDoor
set_option linter.unusedVariables false
set_option linter.unusedSimpArgs false
open Go.RowKit

theorem good_take : ∀ (l : List Itm) (p : Option Itm) (s : List (List UInt8)) (k : Nat), goodI p s l = true → goodI p s (l.take k) = true
  | [], p, s, k, h => by rw [List.take_nil]; exact h
  | x :: r, p, s, 0, _ => by cases p <;> rfl
  | x :: r, p, s, k + 1, h => by
    rw [good_cons] at h
    simp only [Bool.and_eq_true] at h
    rw [List.take_succ_cons, good_cons, h.1.1, h.1.2, good_take r _ _ k h.2]
    rfl
theorem right_take {l : List Itm} (h : rightI l = true) (k : Nat) : l.take k = [] ∨ rightI (l.take k) = true := by
  unfold rightI at h
  simp only [Bool.and_eq_true, decide_eq_true_eq] at h
  by_cases h0 : (l.take k).length = 0
  · exact .inl (List.eq_nil_of_length_eq_zero h0)
  · right
    unfold rightI
    rw [good_take l none [] k h.1.1, decide_eq_true (show 1 ≤ (l.take k).length by omega), decide_eq_true (show (l.take k).length ≤ 500 by rw [List.length_take]; omega)]
    rfl
theorem line_pos (x : Itm) : 0 < (lineI x).length := by unfold lineI; simp; omega

/-- What is printed ahead of anything is where one of the items ends. -/
theorem print_ahead : ∀ (z l : List Itm) (s : List UInt8), (∀ x ∈ l, x.id.length = 20) → (∀ x ∈ l, 1 ≤ x.mode ∧ x.mode ≤ 4) → (∀ x ∈ l, Pure.nameI x.name.data.toList = true) →
    (∀ x ∈ z, x.id.length = 20) → (∀ x ∈ z, 1 ≤ x.mode ∧ x.mode ≤ 4) → (∀ x ∈ z, Pure.nameI x.name.data.toList = true) → printI z ++ s = printI l → ∃ j, j ≤ l.length ∧ z = l.take j
  | [], l, s, _, _, _, _, _, _, _ => ⟨0, Nat.zero_le _, rfl⟩
  | y :: z, [], s, _, _, _, _, _, _, h => by
    exfalso
    have h1 : (printI (y :: z) ++ s).length = 0 := by rw [h]; rfl
    have h2 := line_pos y
    have e1 : printI (y :: z) = lineI y ++ printI z := by unfold printI; rw [List.flatMap_cons]
    rw [e1, List.length_append, List.length_append] at h1
    omega
  | y :: z, x :: r, s, a1, a2, a3, b1, b2, b3, h => by
    have e1 : printI (y :: z) ++ s = lineI y ++ (printI z ++ s) := by unfold printI; rw [List.flatMap_cons, List.append_assoc]
    have e2 : printI (x :: r) = lineI x ++ printI r := by unfold printI; rw [List.flatMap_cons]
    rw [e1, e2] at h
    have t1 := itemT_line y (printI z ++ s) (b1 y (by simp)) (b2 y (by simp)) (b3 y (by simp))
    have t2 := itemT_line x (printI r) (a1 x (by simp)) (a2 x (by simp)) (a3 x (by simp))
    rw [h, t2] at t1
    simp only [Option.some.injEq, Prod.mk.injEq] at t1
    obtain ⟨rfl, h2⟩ := t1
    obtain ⟨j, hj, hz⟩ := print_ahead z r s (fun w hw => a1 w (by simp [hw])) (fun w hw => a2 w (by simp [hw])) (fun w hw => a3 w (by simp [hw])) (fun w hw => b1 w (by simp [hw])) (fun w hw => b2 w (by simp [hw])) (fun w hw => b3 w (by simp [hw])) h2.symm
    exact ⟨j + 1, by simp; omega, by rw [List.take_succ_cons, ← hz]⟩

theorem print_take (l : List Itm) (k : Nat) : printI (l.take k) ++ printI (l.drop k) = printI l := by
  unfold printI
  rw [← List.flatMap_append, List.take_append_drop]

/-- Is k a place where items end? (of the first n) -/
def wholeI (l : List Itm) (k n : Nat) : Bool := (k == 0) || (List.range n).any fun j => (printI (l.take (j + 1))).length == k
theorem wholeI_next (l : List Itm) (k n : Nat) : wholeI l k (n + 1) = (wholeI l k n || ((printI (l.take (n + 1))).length == k)) := by
  unfold wholeI
  rw [List.range_succ, List.any_append]
  simp [Bool.or_assoc]
theorem whole_iff {l : List Itm} {k : Nat} : wholeI l k l.length = true ↔ ∃ j, j ≤ l.length ∧ (printI (l.take j)).length = k := by
  unfold wholeI
  simp only [Bool.or_eq_true, beq_iff_eq, List.any_eq_true, List.mem_range]
  constructor
  · rintro (rfl | ⟨j, hj, e⟩)
    · exact ⟨0, Nat.zero_le _, rfl⟩
    · exact ⟨j + 1, by omega, e⟩
  · rintro ⟨j, hj, e⟩
    cases j with
    | zero => left; rw [← e]; rfl
    | succ j => exact .inr ⟨j, by omega, e⟩

theorem parse_cut {l : List Itm} (h : rightI l = true) (h20 : ∀ x ∈ l, x.id.length = 20) {k : Nat} (hk : k ≤ (printI l).length) :
    if wholeI l k l.length = true then ∃ j, j ≤ l.length ∧ parseT ((printI l).take k) = some (l.take j) else parseT ((printI l).take k) = none := by
  have hm := right_modes (.inr h)
  have hn := right_names (.inr h)
  split
  · rename_i hw
    obtain ⟨j, hj, e⟩ := whole_iff.1 hw
    refine ⟨j, hj, ?_⟩
    have : (printI l).take k = printI (l.take j) := by rw [← print_take l j, List.take_left' e]
    rw [this]
    exact parse_print (right_take h j) (fun x hx => h20 x (List.mem_of_mem_take hx))
  · rename_i hw
    cases hp : parseT ((printI l).take k) with
    | none => rfl
    | some z =>
      exfalso
      obtain ⟨hb, hr⟩ := parse_back hp
      have hz20 : ∀ x ∈ z, x.id.length = 20 := by
        unfold parseT at hp
        cases hq : itemsT ((printI l).take k).length ((printI l).take k) with
        | none => rw [hq] at hp; cases hp
        | some m =>
          rw [hq] at hp
          simp only at hp
          split at hp
          · cases hp
            have key : ∀ (n : Nat) (b : List UInt8) (m : List Itm), b.length ≤ n → itemsT b.length b = some m → ∀ x ∈ m, x.id.length = 20 := by
              intro n
              induction n with
              | zero =>
                intro b m hb hq
                have : b = [] := List.eq_nil_of_length_eq_zero (by omega)
                subst this
                cases hq
                simp
              | succ n ih =>
                intro b m hb hq
                cases b with
                | nil => cases hq; simp
                | cons c b =>
                  cases hi : itemT (c :: b) with
                  | none => rw [itemsT_none (by simp) hi] at hq; cases hq
                  | some y =>
                    obtain ⟨x, r⟩ := y
                    rw [itemsT_step hi, Option.map_eq_some_iff] at hq
                    obtain ⟨more, h1, rfl⟩ := hq
                    obtain ⟨hl, hx, _⟩ := itemT_some hi
                    intro w hw
                    rcases List.mem_cons.1 hw with rfl | hw
                    · exact hx
                    · exact ih r more (by omega) h1 w hw
            exact key _ _ _ (Nat.le_refl _) hq
          · cases hp
      obtain ⟨j, hj, hz⟩ := print_ahead z l ((printI l).drop k) h20 hm hn hz20 (right_modes hr) (right_names hr) (by rw [hb, List.take_append_drop])
      apply hw
      rw [whole_iff]
      refine ⟨j, hj, ?_⟩
      rw [← hz, hb, List.length_take]
      omega

end Go.Proofs.YtpgcjljaokopaaaDoor

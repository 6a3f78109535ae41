/- Extras and copies in order, and out of it. Plain: no program in sight. -/
import Derived.Test.YtkdmhflcpfekfaaDoorPure21
import Derived.Test.YtkdmhflcpfekfaaDoorChars
namespace Go.Proofs.YtkdmhflcpfekfaaDoor
set_option linter.unusedVariables false
set_option linter.unusedSimpArgs false
open Go.RowKit

def extraM (t : ByteArray) (i : Nat) : Two := ⟨⟨#[107, letter i]⟩, t ++ ⟨#[118]⟩⟩
def copyM (i : Nat) : Two := ⟨⟨#[102, 114, 111, 109]⟩, ⟨#[116, 111, letter i]⟩⟩
def extrasM (t : ByteArray) (n : Nat) : List Two := (List.range n).map (extraM t)
def copiesM (n : Nat) : List Two := (List.range n).map copyM
theorem extrasM_next (t : ByteArray) (k : Nat) : extrasM t (k + 1) = extrasM t k ++ [extraM t k] := by unfold extrasM; rw [List.range_succ, List.map_append]; rfl
theorem copiesM_next (k : Nat) : copiesM (k + 1) = copiesM k ++ [copyM k] := by unfold copiesM; rw [List.range_succ, List.map_append]; rfl
theorem extrasM_len (t : ByteArray) (k : Nat) : (extrasM t k).length = k := by unfold extrasM; rw [List.length_map, List.length_range]
theorem copiesM_len (k : Nat) : (copiesM k).length = k := by unfold copiesM; rw [List.length_map, List.length_range]

/-- Only a value's fitness counts. -/
def bareV (x : Two) : Two := ⟨x.a, ⟨#[118]⟩⟩
theorem good_bare : ∀ (l : List Two) (p : Option Two), (∀ x ∈ l, oneE (bareV x) = oneE x) → goodW oneE lessE (p.map bareV) (l.map bareV) = goodW oneE lessE p l
  | [], p, h => rfl
  | x :: r, p, h => by
    rw [List.map_cons, goodW_cons, goodW_cons, h x (by simp)]
    have ih := good_bare r (some x) (fun y hy => h y (by simp [hy]))
    rw [Option.map_some] at ih
    rw [ih]
    cases p <;> rfl
theorem one_bare {x : Two} (h0 : x.q.contains 0 = false) (h1 : x.q.length ≤ 8192) : oneE (bareV x) = oneE x := by
  unfold oneE
  rw [h0, decide_eq_true h1]
  rfl
/-- What the law makes of the extras. -/
def turnM (l : List Two) (k : Nat) (tw : Bool) (x y z : Two) : List Two := if tw then (l.set k y).set (k + 1) x else l.set k z
theorem extras_all : ∀ n < 8, extrasP (extrasM ⟨#[]⟩ n) = true ∧ copiesP (copiesM n) = true := by decide +kernel
theorem extras_bad : ∀ n < 8, 2 ≤ n → ∀ k < n - 1, ∀ tw : Bool, extrasP (turnM (extrasM ⟨#[]⟩ n) k tw (extraM ⟨#[]⟩ k) (extraM ⟨#[]⟩ (k + 1)) ⟨⟨#[49]⟩, ⟨#[118]⟩⟩) = false := by decide +kernel
theorem bare_extra (t : ByteArray) (i : Nat) : bareV (extraM t i) = extraM ⟨#[]⟩ i := rfl
theorem bare_extras (t : ByteArray) (n : Nat) : (extrasM t n).map bareV = extrasM ⟨#[]⟩ n := by unfold extrasM; rw [List.map_map]; rfl
theorem bare_turn (t : ByteArray) (n k : Nat) (tw : Bool) : (turnM (extrasM t n) k tw (extraM t k) (extraM t (k + 1)) ⟨⟨#[49]⟩, t ++ ⟨#[118]⟩⟩).map bareV = turnM (extrasM ⟨#[]⟩ n) k tw (extraM ⟨#[]⟩ k) (extraM ⟨#[]⟩ (k + 1)) ⟨⟨#[49]⟩, ⟨#[118]⟩⟩ := by
  unfold turnM
  cases tw
  · simp only [Bool.false_eq_true, if_false, List.map_set, bare_extras]; rfl
  · simp only [if_true, List.map_set, bare_extras]; rfl
theorem extras_value {t : ByteArray} {n : Nat} {x : Two} (h : x ∈ extrasM t n) : x.b = t ++ ⟨#[118]⟩ := by
  unfold extrasM at h
  obtain ⟨i, -, rfl⟩ := List.mem_map.1 h
  rfl
theorem turn_value {t : ByteArray} {n k : Nat} {tw : Bool} {x : Two} (h : x ∈ turnM (extrasM t n) k tw (extraM t k) (extraM t (k + 1)) ⟨⟨#[49]⟩, t ++ ⟨#[118]⟩⟩) : x.b = t ++ ⟨#[118]⟩ := by
  unfold turnM at h
  cases tw
  · simp only [Bool.false_eq_true, if_false] at h
    rcases List.mem_or_eq_of_mem_set h with h | rfl
    · exact extras_value h
    · rfl
  · simp only [if_true] at h
    rcases List.mem_or_eq_of_mem_set h with h | rfl
    · rcases List.mem_or_eq_of_mem_set h with h | rfl
      · exact extras_value h
      · rfl
    · rfl
theorem extrasP_bare {l : List Two} (h : ∀ x ∈ l, oneE (bareV x) = oneE x) : extrasP (l.map bareV) = extrasP l := by
  unfold extrasP
  have := good_bare l none h
  rw [Option.map_none] at this
  rw [this, List.length_map]
theorem value_ok {t v : ByteArray} (hv : v = t ++ ⟨#[118]⟩) (h0 : v.data.toList.contains 0 = false) (ht : t.size ≤ 500) {x : Two} (hx : x.b = v) : oneE (bareV x) = oneE x := by
  refine one_bare (by rw [show x.q = v.data.toList by rw [← hx]]; exact h0) ?_
  show x.b.data.toList.length ≤ 8192
  rw [hx, show v.data.toList.length = v.size from Array.length_toList, hv, ByteArray.size_append]
  show t.size + 1 ≤ 8192
  omega
theorem many_right {t : ByteArray} {n m : Nat} (hn : n < 8) (hm : m < 8) (ht : t.size ≤ 500) (h0 : n = 0 ∨ (t ++ ⟨#[118]⟩ : ByteArray).data.toList.contains 0 = false) : besideP (extrasM t n) (copiesM m) = true := by
  unfold besideP
  rw [(extras_all m hm).2, Bool.and_true]
  rcases h0 with rfl | h0
  · rfl
  · rw [← extrasP_bare (fun x hx => value_ok rfl h0 ht (extras_value hx)), bare_extras]
    exact (extras_all n hn).1
theorem many_wrong {t : ByteArray} {n k : Nat} {tw : Bool} {c : List Two} (hn : n < 8) (h2 : 2 ≤ n) (hk : k < n - 1) (ht : t.size ≤ 500) (h0 : (t ++ ⟨#[118]⟩ : ByteArray).data.toList.contains 0 = false) : besideP (turnM (extrasM t n) k tw (extraM t k) (extraM t (k + 1)) ⟨⟨#[49]⟩, t ++ ⟨#[118]⟩⟩) c = false := by
  unfold besideP
  rw [← extrasP_bare (fun x hx => value_ok rfl h0 ht (turn_value hx)), bare_turn, extras_bad n hn h2 k hk tw]
  rfl

end Go.Proofs.YtkdmhflcpfekfaaDoor

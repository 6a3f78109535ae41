/- Plain functions and laws of layer 25 (names): a ref's bookmark, and a bookmark's ref; no Go and no memory. -/
import Derived.Test.YtdiimbaibfmadaaDoorPure11b
namespace Go.Proofs.YtdiimbaibfmadaaDoor.Pure
set_option linter.unusedVariables false
set_option linter.unusedSimpArgs false
open Go.Lib

def otherL : List UInt8 := [114, 101, 102, 47]
/-- A ref's bookmark. -/
def mark (r : List UInt8) : Option (List UInt8) :=
  if right r = false then none
  else if (hasPrefix r headsL && branch (r.drop 11) && !hasPrefix (r.drop 11) otherL) = true then some (r.drop 11)
  else if branch (otherL ++ r) = true then some (otherL ++ r) else none
/-- A bookmark's ref. -/
def refOf (m : List UInt8) : Option (List UInt8) :=
  let r := if hasPrefix m otherL = true then m.drop 4 else headsL ++ m
  if mark r = some m then some r else none

theorem prefix_drop {p l : List UInt8} (h : hasPrefix l p = true) : l = p ++ l.drop p.length := by
  unfold hasPrefix at h
  rw [List.isPrefixOf_iff_prefix] at h
  obtain ⟨t, rfl⟩ := h
  simp
theorem prefix_self (p l : List UInt8) : hasPrefix (p ++ l) p = true := by
  unfold hasPrefix
  rw [List.isPrefixOf_iff_prefix]
  exact List.prefix_append p l
theorem heads_other (l : List UInt8) : hasPrefix (headsL ++ l) otherL = false := by
  simp [hasPrefix, headsL, otherL, List.isPrefixOf]

theorem mark_some {r m : List UInt8} (h : mark r = some m) : right r = true ∧ branch m = true ∧ ((r = headsL ++ m ∧ hasPrefix m otherL = false) ∨ m = otherL ++ r) := by
  unfold mark at h
  split at h
  · cases h
  rename_i h1
  rw [Bool.not_eq_false] at h1
  split at h
  · rename_i h2
    cases h
    simp only [Bool.and_eq_true, Bool.not_eq_true'] at h2
    exact ⟨h1, h2.1.2, .inl ⟨prefix_drop h2.1.1, h2.2⟩⟩
  · split at h
    · rename_i h3
      cases h
      exact ⟨h1, h3, .inr rfl⟩
    · cases h
theorem refOf_mark {r m : List UInt8} (h : mark r = some m) : refOf m = some r := by
  obtain ⟨h1, h2, h3⟩ := mark_some h
  unfold refOf
  rcases h3 with ⟨e, h3⟩ | e
  · simp only [h3, Bool.false_eq_true, if_false, ← e, h, if_true]
  · have : hasPrefix m otherL = true := by rw [e]; exact prefix_self _ _
    have e2 : m.drop 4 = r := by rw [e]; rfl
    simp only [this, if_true, e2, h]
theorem mark_refOf {r m : List UInt8} (h : refOf m = some r) : mark r = some m := by
  unfold refOf at h
  generalize (if hasPrefix m otherL = true then m.drop 4 else headsL ++ m) = q at h
  simp only at h
  by_cases h1 : mark q = some m
  · rw [if_pos h1] at h
    cases h; exact h1
  · rw [if_neg h1] at h
    cases h
theorem mark_inj {a b m n : List UInt8} (h1 : mark a = some m) (h2 : mark b = some n) : m = n ↔ a = b := by
  constructor
  · rintro rfl
    have := (refOf_mark h1).symm.trans (refOf_mark h2)
    exact Option.some.inj this
  · rintro rfl
    exact Option.some.inj (h1.symm.trans h2)
/-- A branch's own name. -/
theorem mark_own {a : List UInt8} (h : branch a = true) (h2 : hasPrefix a otherL = false) : mark (headsL ++ a) = some a := by
  have hr : right (headsL ++ a) = true := by
    unfold branch at h
    simp only [Bool.and_eq_true] at h
    exact h.2
  have hd : (headsL ++ a).drop 11 = a := rfl
  unfold mark
  rw [hr, hd, prefix_self, h, h2]
  rfl

/-- The reference's two tries. -/
theorem mark_longer (m : List UInt8) : mark m ≠ some m := by
  intro h
  obtain ⟨_, _, h3⟩ := mark_some h
  rcases h3 with ⟨e, _⟩ | e
  · have := congrArg List.length e; simp [headsL] at this; omega
  · have := congrArg List.length e; simp [otherL] at this; omega
theorem mark_other {m : List UInt8} (h : hasPrefix m otherL = true) : mark (headsL ++ m) ≠ some m := by
  intro hm
  obtain ⟨_, _, h3⟩ := mark_some hm
  rcases h3 with ⟨_, h4⟩ | e
  · rw [h] at h4; cases h4
  · have := congrArg List.length e; simp [otherL, headsL] at this; omega

/-- What the reference tries of one text. -/
def tryR (m s : List UInt8) : Option (List UInt8) := if mark (if hasPrefix s otherL = true then s.drop 4 else s) = some m then some (if hasPrefix s otherL = true then s.drop 4 else s) else none
theorem tries (m : List UInt8) : refOf m = (match tryR m (headsL ++ m) with | some r => some r | none => tryR m m) := by
  unfold tryR refOf
  rw [heads_other]
  simp only [Bool.false_eq_true, if_false]
  cases h : hasPrefix m otherL
  · simp only [Bool.false_eq_true, if_false]
    by_cases h1 : mark (headsL ++ m) = some m
    · simp only [if_pos h1]
    · simp only [if_neg h1, if_neg (mark_longer m)]
  · simp only [if_true, if_neg (mark_other h)]

/-- A ref that is no branch's, or whose branch's name is kept from it. -/
theorem mark_others {r : List UInt8} (hl : r.length ≤ 100) (h : (hasPrefix r headsL && branch (r.drop 11) && !hasPrefix (r.drop 11) otherL) = false) : mark r = if right r = true then some (otherL ++ r) else none := by
  unfold mark
  by_cases hr : right r = true
  · rw [if_neg (by rw [hr]; simp), h, if_neg (by simp), if_pos hr]
    have hb : branch (otherL ++ r) = true := by
      rw [right_body] at hr
      simp only [Bool.and_eq_true, Bool.not_eq_true', decide_eq_true_eq] at hr
      obtain ⟨⟨⟨_, h2⟩, h3⟩, _⟩ := hr
      have e : otherL ++ r = [114, 101, 102] ++ 47 :: r := rfl
      rw [branch_body, e, body_slash _ _ (by decide +kernel), h2, show body [114, 101, 102] = true by decide +kernel]
      have e2 : [114, 101, 102] ++ 47 :: r = ([114, 101, 102, 47] : List UInt8) ++ r := rfl
      rw [e2, suffix_one 46 _ _ (body_ne h2), h3, prefix_one 45 _ _ (by simp)]
      have : hasPrefix [114, 101, 102, 47] [45] = false := by decide
      rw [this]
      simp; omega
    rw [if_pos hb]
  · rw [Bool.not_eq_true] at hr
    rw [if_pos hr, if_neg (by rw [hr]; simp)]
theorem refOf_other (r : List UInt8) : refOf (otherL ++ r) = if mark r = some (otherL ++ r) then some r else none := by
  unfold refOf
  rw [prefix_self]
  rfl

end Go.Proofs.YtdiimbaibfmadaaDoor.Pure

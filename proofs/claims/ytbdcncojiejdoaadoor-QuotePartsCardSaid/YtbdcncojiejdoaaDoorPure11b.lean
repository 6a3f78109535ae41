/- Plain laws of layer 11: names of refs put together with a / between; no Go and no memory. -/
import Derived.Test.YtbdcncojiejdoaaDoorPure11
namespace Go.Proofs.YtbdcncojiejdoaaDoor.Pure
set_option linter.unusedVariables false
set_option linter.unusedSimpArgs false
open Go.Lib

/-! ### what stands in two texts, one behind the other -/
theorem contains_cons (c : UInt8) (l p : List UInt8) (hp : p ≠ []) : contains (c :: l) p = (p.isPrefixOf (c :: l) || contains l p) := by
  unfold contains
  have h := index_ge l p
  rw [index]
  split
  · rename_i h1; simp [h1]
  · rename_i h1
    rw [Bool.not_eq_true] at h1
    rw [h1, Bool.false_or]
    split
    · rename_i h2; rw [beq_iff_eq] at h2; rw [h2]
    · rename_i h2
      have : index l p ≠ -1 := by intro e; simp [e] at h2
      rw [Bool.eq_iff_iff]
      simp only [decide_eq_true_eq]
      omega
theorem contains_nil (a b : UInt8) : contains [] [a, b] = false := by
  unfold contains index
  simp
theorem contains_slash (a b : UInt8) (ha : a ≠ 47) (hb : b ≠ 47) : ∀ x y : List UInt8, contains (x ++ 47 :: y) [a, b] = (contains x [a, b] || contains y [a, b])
  | [], y => by
    rw [List.nil_append, contains_cons _ _ _ (by simp), contains_nil]
    simp [List.isPrefixOf, ha]
  | [c], y => by
    rw [List.cons_append, contains_cons _ _ _ (by simp), contains_slash a b ha hb [] y, contains_cons c [] _ (by simp), contains_nil]
    simp [List.isPrefixOf, hb]
  | c :: d :: x, y => by
    rw [List.cons_append, contains_cons _ _ _ (by simp), contains_slash a b ha hb (d :: x) y, contains_cons c (d :: x) _ (by simp)]
    simp [List.isPrefixOf, Bool.or_assoc]

theorem splitS_append : ∀ x y : List UInt8, splitS (x ++ 47 :: y) = splitS x ++ splitS y
  | [], y => by rw [List.nil_append, splitS_slash]; rfl
  | c :: x, y => by
    by_cases h : c = 47
    · subst h
      rw [List.cons_append, splitS_slash, splitS_slash, splitS_append x y]; rfl
    · rw [List.cons_append, splitS_cons h, splitS_cons h, splitS_append x y]
      rw [splitS_eq x]
      rfl

theorem suffix_one (c : UInt8) : ∀ (x y : List UInt8), y ≠ [] → hasSuffix (x ++ y) [c] = hasSuffix y [c] := by
  intro x y hy
  unfold hasSuffix
  rw [Bool.eq_iff_iff, List.isSuffixOf_iff_suffix, List.isSuffixOf_iff_suffix]
  constructor
  · rintro ⟨t, ht⟩
    have hd := List.dropLast_concat_getLast hy
    rw [← hd, ← List.append_assoc] at ht
    have h1 := congrArg List.getLast? ht
    simp only [List.getLast?_concat, Option.some.injEq] at h1
    exact ⟨y.dropLast, by rw [h1]; exact hd⟩
  · rintro ⟨t, rfl⟩
    exact ⟨x ++ t, by simp⟩

/-- A rune that is whole is the same, whatever stands behind. -/
theorem decodeN_more (n m b0 b1 b2 b3 c1 c2 c3 : Nat) (hnm : n ≤ m) (h1 : 1 < n → c1 = b1) (h2 : 2 < n → c2 = b2) (h3 : 3 < n → c3 = b3) (hne : decodeN n b0 b1 b2 b3 ≠ (65533, 1)) (hn : 1 ≤ n) :
    decodeN m b0 c1 c2 c3 = decodeN n b0 b1 b2 b3 ∧ (decodeN n b0 b1 b2 b3).2 ≤ n := by
  unfold decodeN at hne ⊢
  by_cases a0 : b0 < 128
  · rw [if_pos a0, if_pos a0]; exact ⟨rfl, hn⟩
  rw [if_neg a0] at hne
  rw [if_neg a0, if_neg a0]
  by_cases a1 : b0 / 32 = 6 ∧ (1 < n ∧ b1 / 64 = 2)
  · have e1 := h1 a1.2.1
    subst e1
    have a1' : b0 / 32 = 6 ∧ (1 < m ∧ c1 / 64 = 2) := ⟨a1.1, by omega, a1.2.2⟩
    rw [if_pos a1, if_pos a1']
    refine ⟨rfl, ?_⟩
    split <;> simp <;> omega
  rw [if_neg a1] at hne
  by_cases a2 : b0 / 16 = 14 ∧ (1 < n ∧ b1 / 64 = 2) ∧ (2 < n ∧ b2 / 64 = 2)
  · have e1 := h1 a2.2.1.1
    have e2 := h2 a2.2.2.1
    subst e1 e2
    have a2' : b0 / 16 = 14 ∧ (1 < m ∧ c1 / 64 = 2) ∧ (2 < m ∧ c2 / 64 = 2) := ⟨a2.1, ⟨by omega, a2.2.1.2⟩, by omega, a2.2.2.2⟩
    rw [if_neg (by omega : ¬ (b0 / 32 = 6 ∧ 1 < m ∧ c1 / 64 = 2)), if_pos a2', if_neg a1, if_pos a2]
    refine ⟨rfl, ?_⟩
    split <;> simp <;> omega
  rw [if_neg a2] at hne
  by_cases a3 : b0 / 8 = 30 ∧ (1 < n ∧ b1 / 64 = 2) ∧ (2 < n ∧ b2 / 64 = 2) ∧ (3 < n ∧ b3 / 64 = 2)
  · have e1 := h1 a3.2.1.1
    have e2 := h2 a3.2.2.1.1
    have e3 := h3 a3.2.2.2.1
    subst e1 e2 e3
    have a3' : b0 / 8 = 30 ∧ (1 < m ∧ c1 / 64 = 2) ∧ (2 < m ∧ c2 / 64 = 2) ∧ (3 < m ∧ c3 / 64 = 2) := ⟨a3.1, ⟨by omega, a3.2.1.2⟩, ⟨by omega, a3.2.2.1.2⟩, by omega, a3.2.2.2.2⟩
    rw [if_neg (by omega : ¬ (b0 / 32 = 6 ∧ 1 < m ∧ c1 / 64 = 2)), if_neg (by omega : ¬ (b0 / 16 = 14 ∧ (1 < m ∧ c1 / 64 = 2) ∧ (2 < m ∧ c2 / 64 = 2))), if_pos a3', if_neg a1, if_neg a2, if_pos a3]
    refine ⟨rfl, ?_⟩
    split <;> simp <;> omega
  rw [if_neg a3] at hne
  exact absurd rfl hne

theorem validD_append : ∀ (k : Nat) (x y : List UInt8), x.length ≤ k → validD x = true → validD (x ++ y) = validD y
  | 0, x, y, hk, _ => by
    have : x = [] := List.eq_nil_of_length_eq_zero (by omega)
    subst this; rfl
  | k + 1, [], y, _, _ => rfl
  | k + 1, b :: t, y, hk, hv => by
    have hne : b :: t ≠ [] := by simp
    have hne2 : (b :: t) ++ y ≠ [] := by simp
    rw [validD_step _ hne] at hv
    have hbad : ¬ ((decodeL (b :: t)).1 = 65533 ∧ (decodeL (b :: t)).2 = 1) := by
      intro h; rw [if_pos h] at hv; cases hv
    rw [if_neg hbad] at hv
    have hg : ∀ j, j < (b :: t).length → (((b :: t) ++ y).getD j 0).toNat = ((b :: t).getD j 0).toNat := fun j hj => by
      rw [List.getD_eq_getElem?_getD, List.getD_eq_getElem?_getD, List.getElem?_append_left hj]
    have key := decodeN_more (b :: t).length ((b :: t) ++ y).length ((b :: t).getD 0 0).toNat ((b :: t).getD 1 0).toNat ((b :: t).getD 2 0).toNat ((b :: t).getD 3 0).toNat
      (((b :: t) ++ y).getD 1 0).toNat (((b :: t) ++ y).getD 2 0).toNat (((b :: t) ++ y).getD 3 0).toNat (by simp) (hg 1) (hg 2) (hg 3)
      (by rw [← decodeL_N]; intro e; exact hbad ⟨by rw [e], by rw [e]⟩) (by simp)
    rw [← decodeL_N] at key
    have hd : decodeL ((b :: t) ++ y) = decodeL (b :: t) := by
      rw [decodeL_N]
      rw [show (((b :: t) ++ y).getD 0 0).toNat = ((b :: t).getD 0 0).toNat from rfl]
      exact key.1
    rw [validD_step _ hne2, hd, if_neg hbad, List.drop_append_of_le_length key.2]
    have hw := decodeL_width (b :: t)
    exact validD_append k _ y (by rw [List.length_drop]; omega) hv

/-! ### names put together -/
/-- All that a name has to be but for its length, its last sign, and how many parts it has. -/
def body (s : List UInt8) : Bool := validD s && !contains s [46, 46] && !contains s [64, 123] && s.all (fun c => !badB c) && (splitS s).all partP
theorem right_body (s : List UInt8) : right s = (decide (s.length ≤ 200) && body s && !hasSuffix s [46] && decide (2 ≤ (splitS s).length)) := by
  unfold right body
  cases decide (s.length ≤ 200) <;> cases validD s <;> cases contains s [46, 46] <;> cases contains s [64, 123] <;> cases hasSuffix s [46] <;> simp

theorem body_slash (x y : List UInt8) (hx : validD x = true) : body (x ++ 47 :: y) = (body x && body y) := by
  unfold body
  have hv : validD (x ++ 47 :: y) = validD y := by rw [validD_append _ x _ (Nat.le_refl _) hx, validD_cons 47 y (by decide)]
  rw [hv, hx, contains_slash 46 46 (by decide) (by decide), contains_slash 64 123 (by decide) (by decide), splitS_append, List.all_append, List.all_append, List.all_cons, bad47]
  cases validD y <;> cases contains x [46, 46] <;> cases contains y [46, 46] <;> cases contains x [64, 123] <;> cases contains y [64, 123] <;> simp [Bool.and_comm, Bool.and_left_comm, Bool.and_assoc]
theorem body_valid {x : List UInt8} (h : body x = true) : validD x = true := by
  unfold body at h
  cases hv : validD x
  · rw [hv] at h; simp at h
  · rfl
theorem body_ne {x : List UInt8} (h : body x = true) : x ≠ [] := by
  rintro rfl
  revert h
  decide

/-- The parts of a branch's name, and of two with a / between. -/
theorem branch_body (s : List UInt8) : branch s = (!hasPrefix s [45] && decide (s.length ≤ 189) && body s && !hasSuffix s [46]) := by
  unfold branch
  rw [right_body]
  have h1 : headsL ++ s = [114, 101, 102, 115, 47, 104, 101, 97, 100, 115] ++ 47 :: s := by simp [headsL]
  rw [h1, body_slash _ _ (by decide +kernel), splitS_append]
  have hb : body [114, 101, 102, 115, 47, 104, 101, 97, 100, 115] = true := by decide +kernel
  have hl : ([114, 101, 102, 115, 47, 104, 101, 97, 100, 115] ++ 47 :: s).length = s.length + 11 := by simp
  have h2 : (splitS s).length = (splitS s).tail.length + 1 := by rw [splitS_eq s]; rfl
  have hc : decide (2 ≤ (splitS [114, 101, 102, 115, 47, 104, 101, 97, 100, 115] ++ splitS s).length) = true := by
    rw [List.length_append, show (splitS [114, 101, 102, 115, 47, 104, 101, 97, 100, 115]).length = 2 by decide]
    simp
  rw [hb, hl, hc, Bool.true_and, Bool.and_true, show decide (s.length + 11 ≤ 200) = decide (s.length ≤ 189) from decide_eq_decide.2 (by omega)]
  cases hbs : body s
  · simp
  · have hne := body_ne hbs
    rw [show [114, 101, 102, 115, 47, 104, 101, 97, 100, 115] ++ 47 :: s = ([114, 101, 102, 115, 47, 104, 101, 97, 100, 115, 47] : List UInt8) ++ s by simp, suffix_one 46 _ _ hne]
    cases hasPrefix s [45] <;> cases decide (s.length ≤ 189) <;> simp

theorem prefix_one (c : UInt8) (x y : List UInt8) (hx : x ≠ []) : hasPrefix (x ++ y) [c] = hasPrefix x [c] := by
  cases x with
  | nil => exact absurd rfl hx
  | cons a x => simp [hasPrefix, List.isPrefixOf]

theorem branches (s t : List UInt8) (hs : s.length ≤ 80) (ht : t.length ≤ 80) (h1 : branch s = true) (h2 : branch t = true) : branch (s ++ 47 :: t) = true ∧ right (s ++ 47 :: t) = true := by
  rw [branch_body] at h1 h2
  simp only [Bool.and_eq_true, Bool.not_eq_true', decide_eq_true_eq] at h1 h2
  obtain ⟨⟨⟨p1, l1⟩, b1⟩, s1⟩ := h1
  obtain ⟨⟨⟨p2, l2⟩, b2⟩, s2⟩ := h2
  have hb : body (s ++ 47 :: t) = true := by rw [body_slash _ _ (body_valid b1), b1, b2]; rfl
  have hsuf : hasSuffix (s ++ 47 :: t) [46] = false := by
    rw [show s ++ 47 :: t = (s ++ [47]) ++ t by simp, suffix_one 46 _ _ (body_ne b2)]; exact s2
  constructor
  · rw [branch_body, hb, hsuf, prefix_one 45 _ _ (body_ne b1), p1]
    simp; omega
  · rw [right_body, hb, hsuf, splitS_append]
    have e1 : (splitS s).length = (splitS s).tail.length + 1 := by rw [splitS_eq s]; rfl
    have e2 : (splitS t).length = (splitS t).tail.length + 1 := by rw [splitS_eq t]; rfl
    simp; omega

end Go.Proofs.YtbdcncojiejdoaaDoor.Pure

/- Texts with extras and copies behind them: packed, and taken. Plain: no program in sight. -/
import Derived.Test.YtkdmhflcpfekfaaDoorPure17
import Derived.Lib.LastIndexLaws
import Derived.Lib.IndexMore
import Derived.Lib.IndexLaws
namespace Go.Proofs.YtkdmhflcpfekfaaDoor
set_option linter.unusedVariables false
set_option linter.unusedSimpArgs false
open Go.RowKit

def markM : List UInt8 := [10, 45, 45, 99, 115, 45, 98, 114, 105, 100, 103, 101, 45, 45, 10]
def bearsP (t : List UInt8) : Bool := Lib.contains t markM
/-- What Pack comes to. -/
def packP (t : List UInt8) (l c : List Two) : List UInt8 × Int :=
  if (bearsP t || !besideP l c) = true then ([], 4)
  else if 0 < l.length + c.length then (if 32768 < (t ++ markM ++ trailerP l c).length then ([], 5) else (t ++ markM ++ trailerP l c, 0))
  else (t, 0)
def lastM (t : List UInt8) : Nat := (Lib.lastIndex t markM).toNat
/-- What Take comes to. -/
def takeP (t : List UInt8) : List UInt8 × List Two × List Two × Bool :=
  if bearsP t = false then (t, [], [], true)
  else match takeG (t.drop (lastM t + 15)).length [] [] (t.drop (lastM t + 15)) with
    | none => (t, [], [], false)
    | some (l, c, r) => if r = [] ∧ packP (t.take (lastM t)) l c = (t, 0) then (t.take (lastM t), l, c, true) else (t, [], [], false)
def takeQ (t : List UInt8) : List UInt8 × List Two × List Two × Bool :=
  if bearsP t = false then (t, [], [], true)
  else match takeR (t.drop (lastM t + 15)).length [] [] (t.drop (lastM t + 15)) with
    | (l, c, r) => if r = [] ∧ packP (t.take (lastM t)) l c = (t, 0) then (t.take (lastM t), l, c, true) else (t, [], [], false)

theorem contains_last (t : List UInt8) : bearsP t = decide (0 ≤ Lib.lastIndex t markM) := by
  unfold bearsP Lib.contains
  have hm : markM.length = 15 := rfl
  rcases Lib.index_spec t markM with ⟨h1, h2⟩ | ⟨i, h1, h2, h3, h4⟩
  · have : Lib.lastIndex t markM = -1 := by
      unfold Lib.lastIndex
      split
      · rcases Lib.lastOcc_spec t markM (t.length - markM.length + 1) with ⟨e, _⟩ | ⟨j, hj, e, ho, _⟩
        · exact e
        · rw [h2 j (by omega)] at ho; cases ho
      · rfl
    rw [h1, this]
  · have hlen : i + 15 ≤ t.length := by
      unfold Lib.occAt at h3
      rw [List.isPrefixOf_iff_prefix] at h3
      obtain ⟨r, hr⟩ := h3
      have := congrArg List.length hr
      rw [List.length_append, List.length_drop, hm] at this
      omega
    have : 0 ≤ Lib.lastIndex t markM := by
      unfold Lib.lastIndex
      rw [if_pos (by omega)]
      rcases Lib.lastOcc_spec t markM (t.length - markM.length + 1) with ⟨e, hn⟩ | ⟨j, hj, e, ho, _⟩
      · rw [hn i (by omega)] at h3; cases h3
      · omega
    rw [h1, decide_eq_true this, decide_eq_true (by omega)]
theorem occ_len {t : List UInt8} {i : Nat} (h : Lib.occAt t markM i = true) : i + 15 ≤ t.length ∧ t = t.take i ++ markM ++ t.drop (i + 15) := by
  have hm : markM.length = 15 := rfl
  unfold Lib.occAt at h
  rw [List.isPrefixOf_iff_prefix] at h
  obtain ⟨r, hr⟩ := h
  have := congrArg List.length hr
  rw [List.length_append, List.length_drop, hm] at this
  refine ⟨by omega, ?_⟩
  have hd : t.drop (i + 15) = r := by rw [← List.drop_drop, ← hr, show (15 : Nat) = markM.length from rfl, List.drop_left]
  rw [hd, List.append_assoc, hr, List.take_append_drop]
/-- Where the last mark stands. -/
theorem last_occ {t : List UInt8} (h : bearsP t = true) : Lib.occAt t markM (lastM t) = true ∧ Lib.lastIndex t markM = (lastM t : Int) ∧ ∀ j, lastM t < j → Lib.occAt t markM j = false := by
  rw [contains_last, decide_eq_true_eq] at h
  have hm : markM.length = 15 := rfl
  unfold lastM
  unfold Lib.lastIndex at h ⊢
  split at h
  · rename_i hle
    rw [if_pos hle]
    rcases Lib.lastOcc_spec t markM (t.length - markM.length + 1) with ⟨e, _⟩ | ⟨j, hj, e, ho, hn⟩
    · rw [e] at h; omega
    · rw [e]
      refine ⟨by simpa using ho, by simp, fun k hk => ?_⟩
      simp only [Int.toNat_natCast] at hk
      cases hq : Lib.occAt t markM k with
      | false => rfl
      | true =>
        have := (occ_len hq).1
        rw [hn k hk (by omega)] at hq
        cases hq
  · omega
theorem pack_shape {t x : List UInt8} {l c : List Two} (h : packP x l c = (t, 0)) : bearsP x = false ∧ besideP l c = true ∧ ((l.length + c.length = 0 ∧ t = x) ∨ (0 < l.length + c.length ∧ t = x ++ markM ++ trailerP l c ∧ t.length ≤ 32768)) := by
  unfold packP at h
  split at h
  · simp at h
  rename_i h1
  simp only [Bool.or_eq_true, Bool.not_eq_true', not_or, Bool.not_eq_true, Bool.not_eq_false] at h1
  split at h
  · rename_i h2
    split at h
    · simp at h
    · rename_i h3
      simp only [Prod.mk.injEq, and_true] at h
      exact ⟨h1.1, h1.2, .inr ⟨h2, h.symm, by rw [← h]; omega⟩⟩
  · rename_i h2
    simp only [Prod.mk.injEq, and_true] at h
    exact ⟨h1.1, h1.2, .inl ⟨by omega, h.symm⟩⟩
theorem pack_split {t : List UInt8} {l c : List Two} (hb : bearsP t = true) (h : packP (t.take (lastM t)) l c = (t, 0)) : t.drop (lastM t + 15) = trailerP l c ∧ besideP l c = true := by
  obtain ⟨ho, -, -⟩ := last_occ hb
  obtain ⟨hl, hsp⟩ := occ_len ho
  obtain ⟨h1, h2, h3⟩ := pack_shape h
  refine ⟨?_, h2⟩
  rcases h3 with ⟨-, e⟩ | ⟨-, e, -⟩
  · have := congrArg List.length e
    rw [List.length_take] at this
    omega
  · have e2 := hsp.symm.trans e
    exact List.append_cancel_left e2
theorem take_same (t : List UInt8) : takeQ t = takeP t := by
  unfold takeQ takeP
  by_cases hb : bearsP t = false
  · rw [if_pos hb, if_pos hb]
  · rw [if_neg hb, if_neg hb]
    have hbt : bearsP t = true := by simpa using hb
    obtain ⟨X, hX⟩ : ∃ X, t.drop (lastM t + 15) = X := ⟨_, rfl⟩
    have key : ∀ l c, packP (t.take (lastM t)) l c = (t, 0) → takeG X.length [] [] X = some (l, c, []) ∧ takeR X.length [] [] X = (l, c, []) := by
      intro l c h
      obtain ⟨h1, h2⟩ := pack_split hbt h
      rw [hX] at h1
      have hk := beside_keys h2
      have a1 := takeG_print l [] c [] hk (.inl rfl)
      have a2 := takeR_print l [] c [] hk (.inl rfl)
      rw [List.append_nil, List.nil_append] at a1 a2
      rw [h1]
      exact ⟨a1, a2⟩
    rw [hX]
    obtain ⟨⟨l2, c2, r2⟩, hR⟩ : ∃ z, takeR X.length [] [] X = z := ⟨_, rfl⟩
    rw [hR]
    simp only
    by_cases hq : r2 = [] ∧ packP (t.take (lastM t)) l2 c2 = (t, 0)
    · rw [if_pos hq]
      obtain ⟨g1, -⟩ := key l2 c2 hq.2
      rw [g1]
      simp only
      rw [if_pos ⟨trivial, hq.2⟩]
    · rw [if_neg hq]
      cases hG : takeG X.length [] [] X with
      | none => rfl
      | some y =>
        obtain ⟨l, c, r⟩ := y
        simp only
        by_cases hg : r = [] ∧ packP (t.take (lastM t)) l c = (t, 0)
        · exfalso
          obtain ⟨-, g2⟩ := key l c hg.2
          rw [hR] at g2
          simp only [Prod.mk.injEq] at g2
          obtain ⟨rfl, rfl, rfl⟩ := g2
          exact hq ⟨rfl, hg.2⟩
        · rw [if_neg hg]

/-- Nowhere does a hyphen stand behind a line's end. -/
def freeL : List UInt8 → Bool
  | [] => true
  | a :: r => !(a == 10 && r.head? == some 45) && freeL r
theorem free_at : ∀ (l : List UInt8), freeL l = true → ∀ j : Nat, l[j]? = some 10 → l[j + 1]? ≠ some 45
  | [], _, j, h => by simp at h
  | a :: r, hf, j, h => by
    unfold freeL at hf
    rw [Bool.and_eq_true] at hf
    cases j with
    | zero =>
      simp at h
      subst h
      intro h2
      have : r.head? = some 45 := by cases r <;> simp_all
      rw [this] at hf
      simp at hf
    | succ j =>
      rw [List.getElem?_cons_succ] at h ⊢
      exact free_at r hf.2 j h
theorem free_line : ∀ (b t : List UInt8), (∀ c ∈ b, c ≠ 10) → freeL t = true → t.head? ≠ some 45 → freeL (b ++ 10 :: t) = true
  | [], t, _, h1, h2 => by
    show (!((10 : UInt8) == 10 && t.head? == some 45) && freeL t) = true
    rw [h1]
    simp [h2]
  | c :: b, t, hb, h1, h2 => by
    have hc := hb c (by simp)
    show (!(c == 10 && _) && freeL (b ++ 10 :: t)) = true
    rw [free_line b t (fun d hd => hb d (by simp [hd])) h1 h2, beq_eq_false_iff_ne.2 hc]
    rfl
theorem extra_shape {x : Two} (h : keyP x.p = true) : ∃ b, extraL x = b ++ [10] ∧ (∀ c ∈ b, c ≠ 10) ∧ b.head? = some 101 := by
  refine ⟨extraB ++ x.p ++ [32] ++ Pure.hex x.q, rfl, ?_, rfl⟩
  intro d hd
  simp only [List.mem_append, List.mem_singleton] at hd
  rcases hd with ((hd | hd) | rfl) | hd
  · revert d; decide
  · exact (key_no h d hd).1
  · decide
  · exact (hexL_no _ d hd).1
theorem copy_shape (x : Two) : ∃ b, copyL x = b ++ [10] ∧ (∀ c ∈ b, c ≠ 10) ∧ b.head? = some 99 := by
  refine ⟨copyB ++ Pure.hex x.p ++ [32] ++ Pure.hex x.q, rfl, ?_, rfl⟩
  intro d hd
  simp only [List.mem_append, List.mem_singleton] at hd
  rcases hd with ((hd | hd) | rfl) | hd
  · revert d; decide
  · exact (hexL_no _ d hd).1
  · decide
  · exact (hexL_no _ d hd).1
theorem head_app {b t : List UInt8} {c : UInt8} (h : b.head? = some c) : (b ++ t).head? = some c := by cases b <;> simp_all
theorem free_copies : ∀ c : List Two, freeL (c.flatMap copyL) = true ∧ (c.flatMap copyL).head? ≠ some 45
  | [] => ⟨rfl, by simp⟩
  | x :: r => by
    obtain ⟨h1, h2⟩ := free_copies r
    obtain ⟨b, e, hb, hh⟩ := copy_shape x
    have e2 : (x :: r).flatMap copyL = b ++ 10 :: r.flatMap copyL := by rw [List.flatMap_cons, e]; simp
    rw [e2]
    exact ⟨free_line b _ hb h1 h2, by rw [head_app hh]; decide⟩
theorem free_trailer : ∀ (l c : List Two), (∀ x ∈ l, keyP x.p = true) → freeL (trailerP l c) = true ∧ (trailerP l c).head? ≠ some 45
  | [], c, _ => by
    have e : trailerP [] c = c.flatMap copyL := by unfold trailerP; simp
    rw [e]
    exact free_copies c
  | x :: r, c, h => by
    obtain ⟨h1, h2⟩ := free_trailer r c (fun y hy => h y (by simp [hy]))
    obtain ⟨b, e, hb, hh⟩ := extra_shape (h x (by simp))
    have e2 : trailerP (x :: r) c = b ++ 10 :: trailerP r c := by unfold trailerP; rw [List.flatMap_cons, e]; simp
    rw [e2]
    exact ⟨free_line b _ hb h1 h2, by rw [head_app hh]; decide⟩
/-- The last mark of what is packed stands behind the text. -/
theorem last_packed {t : List UInt8} {l c : List Two} (hk : ∀ x ∈ l, keyP x.p = true) : bearsP (t ++ markM ++ trailerP l c) = true ∧ lastM (t ++ markM ++ trailerP l c) = t.length := by
  obtain ⟨S, hS⟩ : ∃ S, t ++ markM ++ trailerP l c = S := ⟨_, rfl⟩
  rw [hS]
  have hm : markM.length = 15 := rfl
  have hocc : Lib.occAt S markM t.length = true := by
    unfold Lib.occAt
    rw [← hS, List.append_assoc, List.drop_left, List.isPrefixOf_iff_prefix]
    exact ⟨_, rfl⟩
  have hb : bearsP S = true := by
    unfold bearsP Lib.contains
    rcases Lib.index_spec S markM with ⟨h1, h2⟩ | ⟨i, h1, _⟩
    · have := (occ_len hocc).1
      rw [h2 t.length (by omega)] at hocc
      cases hocc
    · rw [h1]; simp
  refine ⟨hb, ?_⟩
  obtain ⟨h1, h2, h3⟩ := last_occ hb
  obtain ⟨f1, f2⟩ := free_trailer l c hk
  have hfree : freeL ([45, 45, 99, 115, 45, 98, 114, 105, 100, 103, 101, 45, 45] ++ 10 :: trailerP l c) = true := free_line _ _ (by decide) f1 f2
  have hdrop : S.drop (t.length + 1) = [45, 45, 99, 115, 45, 98, 114, 105, 100, 103, 101, 45, 45] ++ 10 :: trailerP l c := by
    rw [← hS, show t ++ markM ++ trailerP l c = (t ++ [10]) ++ ([45, 45, 99, 115, 45, 98, 114, 105, 100, 103, 101, 45, 45] ++ 10 :: trailerP l c) by simp [markM], List.drop_left' (by simp)]
  by_cases hlt : lastM S < t.length
  · rw [h3 t.length hlt] at hocc; cases hocc
  by_cases hgt : t.length < lastM S
  · exfalso
    obtain ⟨j, hj⟩ : ∃ j, lastM S = t.length + 1 + j := ⟨lastM S - t.length - 1, by omega⟩
    obtain ⟨-, hsp⟩ := occ_len h1
    obtain ⟨L, hL⟩ : ∃ L, lastM S = L := ⟨_, rfl⟩
    rw [hL] at hsp hj
    have hlen : (S.take L).length = L := by
      have := (occ_len h1).1
      rw [List.length_take]
      omega
    have g0 : S[L]? = some 10 := by
      rw [hsp, List.append_assoc, List.getElem?_append_right (by omega), hlen, Nat.sub_self]
      rfl
    have g1 : S[L + 1]? = some 45 := by
      rw [hsp, List.append_assoc, List.getElem?_append_right (by omega), hlen, show L + 1 - L = 1 by omega]
      rfl
    have k0 : (S.drop (t.length + 1))[j]? = some 10 := by rw [List.getElem?_drop, ← hj]; exact g0
    have k1 : (S.drop (t.length + 1))[j + 1]? = some 45 := by rw [List.getElem?_drop, show t.length + 1 + (j + 1) = L + 1 by omega]; exact g1
    rw [hdrop] at k0 k1
    exact free_at _ hfree j k0 k1
  · omega
/-- What is packed is taken. -/
theorem take_packed {t s : List UInt8} {l c : List Two} (h : packP t l c = (s, 0)) : takeP s = (t, l, c, true) := by
  obtain ⟨h1, h2, ⟨h3, rfl⟩ | ⟨h3, rfl, h4⟩⟩ := pack_shape h
  · unfold takeP
    rw [if_pos h1, List.eq_nil_of_length_eq_zero (show l.length = 0 by omega), List.eq_nil_of_length_eq_zero (show c.length = 0 by omega)]
  · have hk := beside_keys h2
    obtain ⟨hb, hl⟩ := last_packed (t := t) (c := c) hk
    have hd : (t ++ markM ++ trailerP l c).drop (t.length + 15) = trailerP l c := List.drop_left' (by rw [List.length_append]; rfl)
    have ht : (t ++ markM ++ trailerP l c).take t.length = t := by rw [List.append_assoc, List.take_left]
    unfold takeP
    rw [if_neg (by rw [hb]; decide), hl, hd, ht]
    have a1 := takeG_print l [] c [] hk (.inl rfl)
    rw [List.append_nil, List.nil_append] at a1
    rw [a1]
    simp only
    rw [if_pos ⟨trivial, h⟩]
/-- What is taken, packed again, is the same text. -/
theorem pack_taken {s x : List UInt8} {l c : List Two} (h : takeP s = (x, l, c, true)) : packP x l c = (s, 0) := by
  unfold takeP at h
  split at h
  · rename_i hb
    simp only [Prod.mk.injEq, and_true] at h
    obtain ⟨rfl, rfl, rfl⟩ := h
    unfold packP
    rw [hb]
    rfl
  · split at h
    · simp at h
    · split at h
      · rename_i hq
        simp only [Prod.mk.injEq, and_true] at h
        obtain ⟨rfl, rfl, rfl⟩ := h
        exact hq.2
      · simp at h
theorem take_false {s x : List UInt8} {l c : List Two} (h : takeP s = (x, l, c, false)) : x = s ∧ l = [] ∧ c = [] := by
  unfold takeP at h
  split at h
  · simp at h
  · split at h
    · simp only [Prod.mk.injEq, and_true] at h
      obtain ⟨rfl, rfl, rfl⟩ := h
      exact ⟨rfl, rfl, rfl⟩
    · split at h
      · simp at h
      · simp only [Prod.mk.injEq, and_true] at h
        obtain ⟨rfl, rfl, rfl⟩ := h
        exact ⟨rfl, rfl, rfl⟩

/-- How long what is read is. -/
theorem twoG_len {w ln a b : List UInt8} (h : twoG w ln = some (a, b)) : a.length ≤ ln.length ∧ b.length ≤ ln.length := by
  unfold twoG at h
  split at h
  · have := Pure.cutC_len h
    rw [List.length_drop] at this
    omega
  · cases h
theorem twoR_len (ln : List UInt8) : (twoR ln).1.length ≤ ln.length ∧ (twoR ln).2.length ≤ ln.length := by
  unfold twoR
  cases h : Pure.cutC 32 ln with
  | none => simp
  | some y =>
    obtain ⟨a, b⟩ := y
    have := Pure.cutC_len h
    simp only
    omega
theorem unR_len (l : List UInt8) : (unR l).length ≤ l.length := by
  unfold unR
  cases h : Pure.unhex l with
  | none => simp
  | some r => have := Pure.unhex_length h; simp only [Option.getD_some]; omega
def SizesLe (n : Nat) (x : Two) : Prop := x.a.size ≤ n ∧ x.b.size ≤ n
theorem stepG_sizes {b : Bool} {s r : List UInt8} {x : Two} (h : stepG b s = .extra x r ∨ stepG b s = .copy x r) : SizesLe s.length x := by
  unfold stepG at h
  cases h0 : Pure.cutC 10 s with
  | none => rw [h0] at h; simp at h
  | some y =>
    obtain ⟨ln, rest⟩ := y
    have hl := Pure.cutC_len h0
    rw [h0] at h
    simp only at h
    cases hA : (if b = true then twoG extraB ln else none) with
    | some kv =>
      obtain ⟨k, v⟩ := kv
      rw [hA] at h
      simp only at h
      have ht : twoG extraB ln = some (k, v) := by cases b <;> simp_all
      have h2 := twoG_len ht
      cases hu : Pure.unhex v with
      | none => rw [hu] at h; simp at h
      | some bb =>
        rw [hu] at h
        simp at h
        have h3 := Pure.unhex_length hu
        rw [← h.1]
        exact ⟨by show k.toArray.size ≤ _; simp; omega, by show bb.toArray.size ≤ _; simp; omega⟩
    | none =>
      rw [hA] at h
      simp only at h
      cases hb : twoG copyB ln with
      | none => rw [hb] at h; simp at h
      | some ft =>
        obtain ⟨f, t⟩ := ft
        rw [hb] at h
        simp only at h
        have h2 := twoG_len hb
        cases hu : Pure.unhex f with
        | none => rw [hu] at h; simp at h
        | some aa =>
          cases hv : Pure.unhex t with
          | none => rw [hu, hv] at h; simp at h
          | some bb =>
            rw [hu, hv] at h
            simp at h
            have h3 := Pure.unhex_length hu
            have h4 := Pure.unhex_length hv
            rw [← h.1]
            exact ⟨by show aa.toArray.size ≤ _; simp; omega, by show bb.toArray.size ≤ _; simp; omega⟩
theorem stepR_sizes {s r : List UInt8} {x : Two} (h : stepR s = .extra x r ∨ stepR s = .copy x r) : SizesLe s.length x := by
  unfold stepR at h
  cases h0 : Pure.cutC 10 s with
  | none => rw [h0] at h; simp at h
  | some y =>
    obtain ⟨ln, rest⟩ := y
    have hl := Pure.cutC_len h0
    rw [h0] at h
    simp only at h
    by_cases h1 : Lib.hasPrefix ln extraB = true
    · rw [if_pos h1] at h
      simp at h
      have h2 := twoR_len (ln.drop 6)
      have h3 := unR_len (twoR (ln.drop 6)).2
      rw [List.length_drop] at h2
      rw [← h.1]
      exact ⟨by show (twoR (ln.drop 6)).1.toArray.size ≤ _; simp; omega, by show (unR (twoR (ln.drop 6)).2).toArray.size ≤ _; simp; omega⟩
    · rw [if_neg h1] at h
      by_cases h2 : Lib.hasPrefix ln copyB = true
      · rw [if_pos h2] at h
        simp at h
        have h2 := twoR_len (ln.drop 5)
        have h3 := unR_len (twoR (ln.drop 5)).2
        have h4 := unR_len (twoR (ln.drop 5)).1
        rw [List.length_drop] at h2
        rw [← h.1]
        exact ⟨by show (unR (twoR (ln.drop 5)).1).toArray.size ≤ _; simp; omega, by show (unR (twoR (ln.drop 5)).2).toArray.size ≤ _; simp; omega⟩
      · rw [if_neg h2] at h; simp at h
theorem SizesLe.mono {n m : Nat} (h : n ≤ m) {x : Two} (k : SizesLe n x) : SizesLe m x := ⟨Nat.le_trans k.1 h, Nat.le_trans k.2 h⟩
theorem sizes_snoc {n : Nat} {l : List Two} (h : ∀ x ∈ l, SizesLe n x) {x : Two} (hx : SizesLe n x) : ∀ y ∈ l ++ [x], SizesLe n y := by
  intro y hy
  rw [List.mem_append] at hy
  rcases hy with hy | hy
  · exact h y hy
  · simp at hy; subst hy; exact hx
theorem takeG_sizes (N : Nat) : ∀ (n : Nat) (l c l' c' : List Two) (s r : List UInt8), s.length ≤ N → (∀ x ∈ l, SizesLe N x) → (∀ x ∈ c, SizesLe N x) → takeG n l c s = some (l', c', r) → (∀ x ∈ l', SizesLe N x) ∧ (∀ x ∈ c', SizesLe N x)
  | 0, l, c, l', c', s, r, hs, h1, h2, h => by
    unfold takeG at h
    simp only [Option.some.injEq, Prod.mk.injEq] at h
    obtain ⟨rfl, rfl, -⟩ := h
    exact ⟨h1, h2⟩
  | n + 1, l, c, l', c', s, r, hs, h1, h2, h => by
    unfold takeG at h
    cases hst : stepG c.isEmpty s with
    | stop =>
      rw [hst] at h
      simp only [Option.some.injEq, Prod.mk.injEq] at h
      obtain ⟨rfl, rfl, -⟩ := h
      exact ⟨h1, h2⟩
    | bad => rw [hst] at h; cases h
    | extra x q =>
      rw [hst] at h
      simp only at h
      have h3 := stepG_len (.inl hst)
      have h4 := (stepG_sizes (.inl hst)).mono hs
      exact takeG_sizes N n _ _ _ _ q r (by omega) (sizes_snoc h1 h4) h2 h
    | copy x q =>
      rw [hst] at h
      simp only at h
      have h3 := stepG_len (.inr hst)
      have h4 := (stepG_sizes (.inr hst)).mono hs
      exact takeG_sizes N n _ _ _ _ q r (by omega) h1 (sizes_snoc h2 h4) h
theorem takeR_sizes (N : Nat) : ∀ (n : Nat) (l c l' c' : List Two) (s r : List UInt8), s.length ≤ N → (∀ x ∈ l, SizesLe N x) → (∀ x ∈ c, SizesLe N x) → takeR n l c s = (l', c', r) → (∀ x ∈ l', SizesLe N x) ∧ (∀ x ∈ c', SizesLe N x)
  | 0, l, c, l', c', s, r, hs, h1, h2, h => by
    unfold takeR at h
    simp only [Prod.mk.injEq] at h
    obtain ⟨rfl, rfl, -⟩ := h
    exact ⟨h1, h2⟩
  | n + 1, l, c, l', c', s, r, hs, h1, h2, h => by
    unfold takeR at h
    cases hst : stepR s with
    | stop =>
      rw [hst] at h
      simp only [Prod.mk.injEq] at h
      obtain ⟨rfl, rfl, -⟩ := h
      exact ⟨h1, h2⟩
    | bad =>
      rw [hst] at h
      simp only [Prod.mk.injEq] at h
      obtain ⟨rfl, rfl, -⟩ := h
      exact ⟨h1, h2⟩
    | extra x q =>
      rw [hst] at h
      simp only at h
      have h3 := stepR_len (.inl hst)
      have h4 := (stepR_sizes (.inl hst)).mono hs
      exact takeR_sizes N n _ _ _ _ q r (by omega) (sizes_snoc h1 h4) h2 h
    | copy x q =>
      rw [hst] at h
      simp only at h
      have h3 := stepR_len (.inr hst)
      have h4 := (stepR_sizes (.inr hst)).mono hs
      exact takeR_sizes N n _ _ _ _ q r (by omega) h1 (sizes_snoc h2 h4) h
theorem flat_le {f : Two → List UInt8} (B : Nat) : ∀ (l : List Two), (∀ x ∈ l, (f x).length ≤ B) → (l.flatMap f).length ≤ l.length * B
  | [], _ => by simp
  | x :: r, h => by
    have ih := flat_le B r (fun y hy => h y (by simp [hy]))
    have := h x (by simp)
    rw [List.flatMap_cons, List.length_append, List.length_cons, Nat.add_mul]
    omega
theorem trailer_le {N : Nat} {l c : List Two} (h1 : ∀ x ∈ l, SizesLe N x) (h2 : ∀ x ∈ c, SizesLe N x) : (trailerP l c).length ≤ l.length * (8 + 4 * N) + c.length * (8 + 4 * N) := by
  unfold trailerP
  rw [List.length_append]
  have e1 := flat_le (f := extraL) (8 + 4 * N) l (fun x hx => by
    obtain ⟨a, b⟩ := h1 x hx
    have k1 : x.a.data.toList.length = x.a.size := Array.length_toList
    have k2 : x.b.data.toList.length = x.b.size := Array.length_toList
    unfold extraL
    simp only [List.length_append, Pure.hex_length, List.length_cons, List.length_nil, k1, k2]
    have : extraB.length = 6 := rfl
    omega)
  have e2 := flat_le (f := copyL) (8 + 4 * N) c (fun x hx => by
    obtain ⟨a, b⟩ := h2 x hx
    have k1 : x.a.data.toList.length = x.a.size := Array.length_toList
    have k2 : x.b.data.toList.length = x.b.size := Array.length_toList
    unfold copyL
    simp only [List.length_append, Pure.hex_length, List.length_cons, List.length_nil, k1, k2]
    have : copyB.length = 5 := rfl
    omega)
  omega

end Go.Proofs.YtkdmhflcpfekfaaDoor

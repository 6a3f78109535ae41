/- Texts made clean: plain laws on runes, blanks and lengths. No program in sight. -/
import Derived.Test.YtemojhcbhljemaaDoorPure11
import Derived.Lib.MapLaws
namespace Go.Proofs.YtemojhcbhljemaaDoor.Pure
set_option linter.unusedVariables false
set_option linter.unusedSimpArgs false
open Go.Lib

/-- A byte, or a rune, that may not stand in a name. -/
def barI (c : UInt8) : Bool := c.toNat == 0 || c.toNat == 10 || c.toNat == 60 || c.toNat == 62
def barR (x : Nat) : Bool := x == 0 || x == 10 || x == 60 || x == 62
/-- A rune's bytes, whatever stands behind. -/
def UOk (u : List UInt8) : Prop := u ≠ [] ∧ (∀ m, decodeL (u ++ m) = decodeL u) ∧ (decodeL u).2 = u.length ∧ ¬ ((decodeL u).1 = 65533 ∧ (decodeL u).2 = 1)

theorem decodeL_shape (l : List UInt8) (hne : l ≠ []) : ((l.getD 0 0).toNat < 128 ∧ decodeL l = ((l.getD 0 0).toNat, 1)) ∨ (2 ≤ (decodeL l).2 ∧ 128 ≤ (decodeL l).1 ∧ 128 ≤ (l.getD 0 0).toNat ∧ (∀ j, j < (decodeL l).2 → 128 ≤ (l.getD j 0).toNat) ∧ ((decodeL l).1 = 65533 → (decodeL l).2 = 3) ∧ ∀ m, decodeL (l.take (decodeL l).2 ++ m) = decodeL l) ∨ (128 ≤ (l.getD 0 0).toNat ∧ decodeL l = (65533, 1)) := by
  have hl : 0 < l.length := List.length_pos_iff.2 hne
  have k0 := (l.getD 0 0).toNat_lt
  have k1 := (l.getD 1 0).toNat_lt
  have k2 := (l.getD 2 0).toNat_lt
  have k3 := (l.getD 3 0).toNat_lt
  have key : ∀ (k : Nat) (m : List UInt8) (j : Nat), j < k → k ≤ l.length → (l.take k ++ m).getD j 0 = l.getD j 0 := by
    intro k m j hj hk
    rw [List.getD_eq_getElem?_getD, List.getD_eq_getElem?_getD, List.getElem?_append_left (by rw [List.length_take]; omega), List.getElem?_take, if_pos hj]
  have hN := decodeL_N l
  rcases decodeN_shape l.length (l.getD 0 0).toNat (l.getD 1 0).toNat (l.getD 2 0).toNat (l.getD 3 0).toNat with ⟨c, e⟩ | ⟨c1, c2, c3, cv, e⟩ | ⟨c1, c2, c3, c4, cv, cs, e⟩ | ⟨c1, c2, c3, c4, c5, cv, cw, e⟩ | e
  · exact .inl ⟨c, by rw [hN, e]⟩
  · refine .inr (.inl ?_)
    have h2 : decodeL l = ((l.getD 0 0).toNat % 32 * 64 + (l.getD 1 0).toNat % 64, 2) := by rw [hN, e]
    rw [h2]
    refine ⟨Nat.le_refl _, cv, by omega, ?_, by omega, ?_⟩
    · intro j hj
      have : j = 0 ∨ j = 1 := by simp only at hj; omega
      rcases this with rfl | rfl <;> omega
    · intro m
      simp only
      rw [decodeL_N, key 2 m 0 (by omega) (by omega), key 2 m 1 (by omega) (by omega)]
      have hm : 1 < (l.take 2 ++ m).length := by rw [List.length_append, List.length_take]; omega
      unfold decodeN
      rw [if_neg (by omega), if_pos ⟨c1, hm, c3⟩, if_pos cv]
  · refine .inr (.inl ?_)
    have h2 : decodeL l = ((l.getD 0 0).toNat % 16 * 4096 + (l.getD 1 0).toNat % 64 * 64 + (l.getD 2 0).toNat % 64, 3) := by rw [hN, e]
    rw [h2]
    refine ⟨by simp only; omega, by simp only; omega, by omega, ?_, fun _ => rfl, ?_⟩
    · intro j hj
      have : j = 0 ∨ j = 1 ∨ j = 2 := by simp only at hj; omega
      rcases this with rfl | rfl | rfl <;> omega
    · intro m
      simp only
      rw [decodeL_N, key 3 m 0 (by omega) (by omega), key 3 m 1 (by omega) (by omega), key 3 m 2 (by omega) (by omega)]
      have hm : 2 < (l.take 3 ++ m).length := by rw [List.length_append, List.length_take]; omega
      unfold decodeN
      rw [if_neg (by omega), if_neg (by omega), if_pos ⟨c1, ⟨by omega, c3⟩, hm, c4⟩, if_pos ⟨cv, by omega⟩]
  · refine .inr (.inl ?_)
    have h2 : decodeL l = ((l.getD 0 0).toNat % 8 * 262144 + (l.getD 1 0).toNat % 64 * 4096 + (l.getD 2 0).toNat % 64 * 64 + (l.getD 3 0).toNat % 64, 4) := by rw [hN, e]
    rw [h2]
    refine ⟨by simp only; omega, by simp only; omega, by omega, ?_, fun h => by simp only at h; omega, ?_⟩
    · intro j hj
      have : j = 0 ∨ j = 1 ∨ j = 2 ∨ j = 3 := by simp only at hj; omega
      rcases this with rfl | rfl | rfl | rfl <;> omega
    · intro m
      simp only
      rw [decodeL_N, key 4 m 0 (by omega) (by omega), key 4 m 1 (by omega) (by omega), key 4 m 2 (by omega) (by omega), key 4 m 3 (by omega) (by omega)]
      have hm : 3 < (l.take 4 ++ m).length := by rw [List.length_append, List.length_take]; omega
      unfold decodeN
      rw [if_neg (by omega), if_neg (by omega), if_neg (by omega), if_pos ⟨c1, ⟨by omega, c3⟩, ⟨by omega, c4⟩, hm, c5⟩, if_pos ⟨cv, by omega⟩]
  · by_cases h : (l.getD 0 0).toNat < 128
    · exact .inl ⟨h, by rw [hN]; unfold decodeN; rw [if_pos h]⟩
    · exact .inr (.inr ⟨by omega, by rw [hN, e]⟩)

/-- What a rune that can be read leaves. -/
theorem unit_take (l : List UInt8) (hne : l ≠ []) (hv : ¬ ((decodeL l).1 = 65533 ∧ (decodeL l).2 = 1)) : UOk (l.take (decodeL l).2) ∧ decodeL (l.take (decodeL l).2) = decodeL l := by
  have hle := decodeL_le l hne
  have hw := decodeL_width l
  have hlen : (l.take (decodeL l).2).length = (decodeL l).2 := by rw [List.length_take]; omega
  have key : ∀ m, decodeL (l.take (decodeL l).2 ++ m) = decodeL l := by
    rcases decodeL_shape l hne with ⟨h, e⟩ | ⟨-, -, -, -, -, h⟩ | ⟨-, e⟩
    · intro m
      cases l with
      | nil => exact absurd rfl hne
      | cons c t =>
        rw [e]
        simp only [List.take_succ_cons, List.take_zero, List.cons_append, List.nil_append]
        rw [decodeL_ascii c _ h]
        rfl
    · exact h
    · exact absurd (by rw [e]; exact ⟨rfl, rfl⟩) hv
  have k0 := key []
  rw [List.append_nil] at k0
  refine ⟨⟨?_, ?_, ?_, ?_⟩, k0⟩
  · intro e; rw [e] at hlen; simp at hlen; omega
  · intro m; rw [key m, k0]
  · rw [k0, hlen]
  · rw [k0]; exact hv

/-- A rune's bytes: one below 128, or all from 128 on. -/
theorem UOk.bytes {u : List UInt8} (h : UOk u) : (∃ c : UInt8, u = [c] ∧ c.toNat < 128 ∧ decodeL u = (c.toNat, 1)) ∨ ((∀ c ∈ u, 128 ≤ c.toNat) ∧ 128 ≤ (decodeL u).1 ∧ 2 ≤ u.length) := by
  obtain ⟨hne, hm, hl, hv⟩ := h
  rcases decodeL_shape u hne with ⟨h, e⟩ | ⟨h2, h1, h0, hj, -, -⟩ | ⟨-, e⟩
  · rw [e] at hl
    simp only at hl
    obtain ⟨c, rfl⟩ := List.length_eq_one_iff.1 hl.symm
    exact .inl ⟨c, rfl, h, e⟩
  · refine .inr ⟨?_, h1, by omega⟩
    intro c hc
    obtain ⟨j, hj', hcj⟩ := List.mem_iff_getElem.1 hc
    have := hj j (by omega)
    rw [List.getD_eq_getElem?_getD, List.getElem?_eq_getElem hj', hcj] at this
    exact this
  · exact absurd (by rw [e]; exact ⟨rfl, rfl⟩) hv

theorem UOk.len {u : List UInt8} (h : UOk u) : 1 ≤ u.length := List.length_pos_iff.2 h.1
theorem UOk.rune {u : List UInt8} (h : UOk u) : runeLen ((decodeL u).1 : Int) = (u.length : Int) := by
  by_cases h3 : (decodeL u).1 = 65533
  · have hl := h.2.2.1
    rcases decodeL_shape u h.1 with ⟨h', e⟩ | ⟨-, -, -, -, hj, -⟩ | ⟨-, e⟩
    · rw [e] at h3
      simp only at h3
      omega
    · rw [← hl, hj h3, h3]; rfl
    · exact absurd (by rw [e]; exact ⟨rfl, rfl⟩) h.2.2.2
  · rw [runeLen_decode u h3, h.2.2.1]
theorem UOk.decode {u : List UInt8} (h : UOk u) (m : List UInt8) : decodeL (u ++ m) = ((decodeL u).1, u.length) := by rw [h.2.1 m, ← h.2.2.1]

/-- Is what stands at the beginning kept? -/
def keepU (l : List UInt8) : Bool := !(barR (decodeL l).1) && !(decide ((decodeL l).1 = 65533 ∧ (decodeL l).2 = 1))
def filtN : Nat → List UInt8 → List UInt8
  | 0, _ => []
  | n + 1, l => if l = [] then [] else (if keepU l then l.take (decodeL l).2 else []) ++ filtN n (l.drop (decodeL l).2)
theorem filtN_fuel : ∀ (n m : Nat) (l : List UInt8), l.length ≤ n → l.length ≤ m → filtN n l = filtN m l
  | 0, m, l, hn, _ => by
    have : l = [] := List.eq_nil_of_length_eq_zero (by omega)
    subst this
    cases m <;> simp [filtN]
  | n + 1, 0, l, _, hm => by
    have : l = [] := List.eq_nil_of_length_eq_zero (by omega)
    subst this
    simp [filtN]
  | n + 1, m + 1, l, hn, hm => by
    unfold filtN
    by_cases hne : l = []
    · simp [hne]
    · have hw := decodeL_width l
      have hl : 0 < l.length := List.length_pos_iff.2 hne
      rw [if_neg hne, if_neg hne, filtN_fuel n m (l.drop (decodeL l).2) (by rw [List.length_drop]; omega) (by rw [List.length_drop]; omega)]
/-- A text without what may not be in it. -/
def filt (l : List UInt8) : List UInt8 := filtN l.length l
theorem filt_nil : filt [] = [] := rfl
theorem filt_step (l : List UInt8) (hne : l ≠ []) : filt l = (if keepU l then l.take (decodeL l).2 else []) ++ filt (l.drop (decodeL l).2) := by
  have hl : 0 < l.length := List.length_pos_iff.2 hne
  have hw := decodeL_width l
  obtain ⟨n, hn⟩ : ∃ n, l.length = n + 1 := ⟨l.length - 1, by omega⟩
  unfold filt
  rw [hn]
  show (if l = [] then [] else _) = _
  rw [if_neg hne, filtN_fuel n (l.drop (decodeL l).2).length _ (by rw [List.length_drop]; omega) (Nat.le_refl _)]

/-- A rune's bytes that may be in a name. -/
def GU (u : List UInt8) : Prop := UOk u ∧ barR (decodeL u).1 = false
theorem filt_units : ∀ (n : Nat) (l : List UInt8), l.length ≤ n → ∃ us : List (List UInt8), (∀ u ∈ us, GU u) ∧ filt l = us.flatten
  | 0, l, h => by
    have : l = [] := List.eq_nil_of_length_eq_zero (by omega)
    subst this
    exact ⟨[], by simp, rfl⟩
  | n + 1, l, h => by
    by_cases hne : l = []
    · subst hne; exact ⟨[], by simp, rfl⟩
    · have hw := decodeL_width l
      have hl : 0 < l.length := List.length_pos_iff.2 hne
      obtain ⟨us, h1, h2⟩ := filt_units n (l.drop (decodeL l).2) (by rw [List.length_drop]; omega)
      rw [filt_step l hne, h2]
      by_cases hk : keepU l = true
      · rw [if_pos hk]
        unfold keepU at hk
        simp only [Bool.and_eq_true, Bool.not_eq_true', decide_eq_false_iff_not] at hk
        obtain ⟨h3, h4⟩ := unit_take l hne hk.2
        refine ⟨l.take (decodeL l).2 :: us, ?_, rfl⟩
        intro u hu
        rcases List.mem_cons.1 hu with rfl | hu
        · exact ⟨h3, by rw [h4]; exact hk.1⟩
        · exact h1 u hu
      · rw [if_neg hk]; exact ⟨us, h1, rfl⟩
theorem filt_flat : ∀ (us : List (List UInt8)), (∀ u ∈ us, GU u) → filt us.flatten = us.flatten
  | [], _ => rfl
  | u :: us, h => by
    obtain ⟨hu, hb⟩ := h u (by simp)
    have ih := filt_flat us (fun v hv => h v (by simp [hv]))
    have hd := hu.decode us.flatten
    rw [List.flatten_cons, filt_step _ (by simp [hu.1]), hd]
    have hk : keepU (u ++ us.flatten) = true := by
      unfold keepU
      rw [hd, hb]
      have := hu.2.2.2
      rw [hu.2.2.1] at this
      simp only [Bool.not_false, Bool.true_and, Bool.not_eq_true', decide_eq_false_iff_not]
      exact this
    rw [if_pos hk]
    simp only
    rw [List.take_left, List.drop_left, ih]
theorem valid_flat : ∀ (us : List (List UInt8)), (∀ u ∈ us, UOk u) → validD us.flatten = true
  | [], _ => rfl
  | u :: us, h => by
    have hu := h u (by simp)
    have hd := hu.decode us.flatten
    rw [List.flatten_cons, validD_step _ (by simp [hu.1]), hd]
    have := hu.2.2.2
    rw [hu.2.2.1] at this
    rw [if_neg this]
    simp only
    rw [List.drop_left]
    exact valid_flat us (fun v hv => h v (by simp [hv]))
theorem valid_units : ∀ (n : Nat) (l : List UInt8), l.length ≤ n → validD l = true → ∃ us : List (List UInt8), (∀ u ∈ us, UOk u) ∧ l = us.flatten
  | 0, l, h, _ => by
    have : l = [] := List.eq_nil_of_length_eq_zero (by omega)
    subst this
    exact ⟨[], by simp, rfl⟩
  | n + 1, l, h, hv => by
    by_cases hne : l = []
    · subst hne; exact ⟨[], by simp, rfl⟩
    · have hw := decodeL_width l
      have hl : 0 < l.length := List.length_pos_iff.2 hne
      rw [validD_step l hne] at hv
      by_cases hb : (decodeL l).1 = 65533 ∧ (decodeL l).2 = 1
      · rw [if_pos hb] at hv; cases hv
      · rw [if_neg hb] at hv
        obtain ⟨us, h1, h2⟩ := valid_units n (l.drop (decodeL l).2) (by rw [List.length_drop]; omega) hv
        refine ⟨l.take (decodeL l).2 :: us, ?_, ?_⟩
        · intro u hu
          rcases List.mem_cons.1 hu with rfl | hu
          · exact (unit_take l hne hb).1
          · exact h1 u hu
        · rw [List.flatten_cons, ← h2, List.take_append_drop]
theorem GU.clean {u : List UInt8} (h : GU u) : u.any barI = false := by
  rcases h.1.bytes with ⟨c, rfl, hc, hd⟩ | ⟨hc, -, -⟩
  · have := h.2
    rw [hd] at this
    simpa [barI, barR] using this
  · rw [List.any_eq_false]
    intro c hm
    have := hc c hm
    unfold barI
    simp
    omega
theorem UOk.good {u : List UInt8} (h : UOk u) (hc : u.any barI = false) : GU u := by
  refine ⟨h, ?_⟩
  rcases h.bytes with ⟨c, rfl, hc', hd⟩ | ⟨-, hd, -⟩
  · rw [hd]
    simpa [barI, barR] using hc
  · unfold barR
    simp
    omega
theorem any_flat : ∀ (us : List (List UInt8)), (∀ u ∈ us, GU u) → us.flatten.any barI = false
  | [], _ => rfl
  | u :: us, h => by rw [List.flatten_cons, List.any_append, (h u (by simp)).clean, any_flat us (fun v hv => h v (by simp [hv]))]; rfl
theorem good_units {us : List (List UInt8)} (h : ∀ u ∈ us, UOk u) (hc : us.flatten.any barI = false) : ∀ u ∈ us, GU u := by
  intro u hu
  refine (h u hu).good ?_
  rw [List.any_eq_false] at hc ⊢
  intro c hm
  exact hc c (List.mem_flatten.2 ⟨u, hu, hm⟩)
/-- A text that may be a name has nothing to be taken out. -/
theorem filt_same {l : List UInt8} (hv : validD l = true) (hc : l.any barI = false) : filt l = l := by
  obtain ⟨us, h1, h2⟩ := valid_units l.length l (Nat.le_refl _) hv
  rw [h2] at hc ⊢
  exact filt_flat us (good_units h1 hc)

/-! ### blanks at the ends -/
def trimL (l : List UInt8) : List UInt8 := l.dropWhile (· == 32)
def trimR (l : List UInt8) : List UInt8 := (l.reverse.dropWhile (· == 32)).reverse
theorem trimR_append (a b : List UInt8) : trimR (a ++ b) = if trimR b = [] then trimR a else a ++ trimR b := by
  unfold trimR
  rw [List.reverse_append, List.dropWhile_append]
  cases h : List.dropWhile (· == 32) b.reverse with
  | nil => simp
  | cons x y => simp
theorem trimR_blanks (k : Nat) : trimR (List.replicate k 32) = [] := by
  unfold trimR
  rw [List.reverse_replicate]
  induction k with
  | zero => rfl
  | succ k ih => rw [List.replicate_succ, List.dropWhile_cons_of_pos (by rfl)]; exact ih
theorem UOk.last {u : List UInt8} (h : UOk u) : u = [32] ∨ trimR u = u := by
  rcases h.bytes with ⟨c, rfl, hc, hd⟩ | ⟨hc, -, -⟩
  · by_cases e : c = 32
    · exact .inl (by rw [e])
    · right
      unfold trimR
      rw [List.reverse_singleton, List.dropWhile_cons_of_neg (by simpa using e)]
      rfl
  · right
    unfold trimR
    cases hr : u.reverse with
    | nil => have := h.1; simp_all
    | cons c r =>
      have hm : c ∈ u := by rw [← List.mem_reverse, hr]; simp
      rw [List.dropWhile_cons_of_neg, ← hr, List.reverse_reverse]
      have := hc c hm
      simp
      intro e
      subst e
      revert this
      decide
theorem UOk.head {u : List UInt8} (h : UOk u) : u = [32] ∨ ∃ c r, u = c :: r ∧ c ≠ 32 := by
  rcases h.bytes with ⟨c, rfl, hc, hd⟩ | ⟨hc, -, -⟩
  · by_cases e : c = 32
    · exact .inl (by rw [e])
    · exact .inr ⟨c, [], rfl, e⟩
  · right
    cases hu : u with
    | nil => exact absurd hu h.1
    | cons c r =>
      refine ⟨c, r, rfl, ?_⟩
      have := hc c (by rw [hu]; simp)
      intro e
      subst e
      revert this
      decide
/-- To trim a text is to leave out runes. -/
theorem trimL_units : ∀ (us : List (List UInt8)), (∀ u ∈ us, UOk u) → ∃ vs : List (List UInt8), (∀ u ∈ vs, u ∈ us) ∧ trimL us.flatten = vs.flatten ∧ ∀ c r, vs.flatten = c :: r → c ≠ 32
  | [], _ => ⟨[], by simp, rfl, by simp⟩
  | u :: us, h => by
    rcases (h u (by simp)).head with rfl | ⟨c, r, rfl, hc⟩
    · obtain ⟨vs, h1, h2, h3⟩ := trimL_units us (fun v hv => h v (by simp [hv]))
      refine ⟨vs, fun u hu => by simp [h1 u hu], ?_, h3⟩
      rw [← h2]
      rfl
    · refine ⟨(c :: r) :: us, fun u hu => hu, ?_, ?_⟩
      · unfold trimL
        rw [List.flatten_cons, List.cons_append, List.dropWhile_cons_of_neg (by simpa using hc)]
      · intro c' r' e
        simp only [List.flatten_cons, List.cons_append, List.cons.injEq] at e
        rw [← e.1]; exact hc
theorem trimR_units (us : List (List UInt8)) (h : ∀ u ∈ us, UOk u) : ∃ (vs : List (List UInt8)) (k : Nat), us = vs ++ List.replicate k [32] ∧ trimR us.flatten = vs.flatten := by
  obtain ⟨n, hn⟩ : ∃ n, us.length = n := ⟨_, rfl⟩
  induction n generalizing us with
  | zero =>
    have : us = [] := List.eq_nil_of_length_eq_zero hn
    subst this
    exact ⟨[], 0, rfl, rfl⟩
  | succ n ih =>
    obtain ⟨ws, u, rfl⟩ : ∃ ws u, us = ws ++ [u] := ⟨us.dropLast, us.getLast (by intro e; rw [e] at hn; simp at hn), (List.dropLast_concat_getLast _).symm⟩
    have hu := h u (by simp)
    rcases hu.last with rfl | hl
    · obtain ⟨vs, k, h1, h2⟩ := ih ws (fun v hv => h v (by simp [hv])) (by simpa using hn)
      refine ⟨vs, k + 1, ?_, ?_⟩
      · rw [h1, List.replicate_succ', List.append_assoc]
      · rw [List.flatten_append, trimR_append, if_pos (by rfl), h2]
    · refine ⟨ws ++ [u], 0, by simp, ?_⟩
      rw [List.flatten_append, trimR_append]
      simp only [List.flatten_cons, List.flatten_nil, List.append_nil, hl]
      rw [if_neg hu.1]

/-! ### no longer than may be -/
def prefN : Nat → Nat → List UInt8 → List UInt8
  | 0, _, _ => []
  | n + 1, k, l => if l = [] then [] else if (decodeL l).2 ≤ k then l.take (decodeL l).2 ++ prefN n (k - (decodeL l).2) (l.drop (decodeL l).2) else []
def pref (k : Nat) (l : List UInt8) : List UInt8 := prefN l.length k l
def takeU : Nat → List (List UInt8) → List (List UInt8)
  | _, [] => []
  | k, u :: us => if u.length ≤ k then u :: takeU (k - u.length) us else []
theorem prefN_flat : ∀ (n k : Nat) (us : List (List UInt8)), (∀ u ∈ us, UOk u) → us.flatten.length ≤ n → prefN n k us.flatten = (takeU k us).flatten
  | 0, k, us, h, hn => by
    cases us with
    | nil => rfl
    | cons u us =>
      exfalso
      have := (h u (by simp)).len
      simp at hn
      have := (h u (by simp)).1
      exact this hn.1
  | n + 1, k, [], h, hn => by simp [prefN, takeU]
  | n + 1, k, u :: us, h, hn => by
    have hu := h u (by simp)
    have hd := hu.decode us.flatten
    have hl := hu.len
    unfold prefN takeU
    rw [List.flatten_cons, if_neg (by simp [hu.1]), hd]
    simp only
    by_cases hk : u.length ≤ k
    · rw [if_pos hk, if_pos hk, List.take_left, List.drop_left, prefN_flat n (k - u.length) us (fun v hv => h v (by simp [hv])) (by rw [List.flatten_cons, List.length_append] at hn; omega)]
      rfl
    · rw [if_neg hk, if_neg hk]; rfl
theorem pref_flat (k : Nat) (us : List (List UInt8)) (h : ∀ u ∈ us, UOk u) : pref k us.flatten = (takeU k us).flatten := prefN_flat _ _ _ h (Nat.le_refl _)
theorem takeU_mem : ∀ (k : Nat) (us : List (List UInt8)) (u : List UInt8), u ∈ takeU k us → u ∈ us
  | _, [], _, h => by simp [takeU] at h
  | k, v :: us, u, h => by
    unfold takeU at h
    split at h
    · rcases List.mem_cons.1 h with rfl | h
      · simp
      · simp [takeU_mem _ us u h]
    · simp at h
theorem takeU_len : ∀ (k : Nat) (us : List (List UInt8)), (takeU k us).flatten.length ≤ k
  | _, [] => by simp [takeU]
  | k, v :: us => by
    unfold takeU
    split
    · have := takeU_len (k - v.length) us
      rw [List.flatten_cons, List.length_append]
      omega
    · simp
theorem takeU_all : ∀ (k : Nat) (us : List (List UInt8)), us.flatten.length ≤ k → takeU k us = us
  | _, [], _ => rfl
  | k, v :: us, h => by
    rw [List.flatten_cons, List.length_append] at h
    unfold takeU
    rw [if_pos (by omega), takeU_all _ us (by omega)]
theorem takeU_blanks : ∀ (k j : Nat), ∃ i, takeU k (List.replicate j [32]) = List.replicate i [32]
  | k, 0 => ⟨0, rfl⟩
  | k, j + 1 => by
    rw [List.replicate_succ]
    unfold takeU
    split
    · obtain ⟨i, hi⟩ := takeU_blanks (k - 1) j
      exact ⟨i + 1, by rw [List.length_singleton, hi, List.replicate_succ]⟩
    · exact ⟨0, rfl⟩
theorem flat_blanks (i : Nat) : (List.replicate i [(32 : UInt8)]).flatten = List.replicate i 32 := by
  induction i with
  | zero => rfl
  | succ i ih => rw [List.replicate_succ, List.flatten_cons, ih, List.replicate_succ]; rfl
/-- Blanks at the end are left out, before the rest is cut or behind that. -/
theorem takeU_trim : ∀ (k : Nat) (ws : List (List UInt8)) (j : Nat), trimR (takeU k (ws ++ List.replicate j [32])).flatten = trimR (takeU k ws).flatten
  | k, [], j => by
    obtain ⟨i, hi⟩ := takeU_blanks k j
    rw [List.nil_append, hi, flat_blanks, trimR_blanks]
    rfl
  | k, w :: ws, j => by
    rw [List.cons_append]
    unfold takeU
    split
    · rw [List.flatten_cons, List.flatten_cons, trimR_append, trimR_append, takeU_trim _ ws j]
    · rfl

/-- A text made clean. -/
def clean (l : List UInt8) : List UInt8 := trimR (pref 200 (trimL (filt l)))
/-- The program cuts blanks off at both ends first. -/
theorem clean_both (l : List UInt8) : ∃ us : List (List UInt8), (∀ u ∈ us, UOk u) ∧ trimR (trimL (filt l)) = us.flatten ∧ clean l = trimR (takeU 200 us).flatten := by
  obtain ⟨us, h1, h2⟩ := filt_units l.length l (Nat.le_refl _)
  obtain ⟨vs, h3, h4, -⟩ := trimL_units us (fun u hu => (h1 u hu).1)
  have h5 : ∀ u ∈ vs, UOk u := fun u hu => (h1 u (h3 u hu)).1
  obtain ⟨ws, k, h6, h7⟩ := trimR_units vs h5
  refine ⟨ws, fun u hu => h5 u (by rw [h6]; simp [hu]), ?_, ?_⟩
  · rw [h2, h4, h7]
  · unfold clean
    rw [h2, h4, pref_flat 200 vs h5, h6, takeU_trim]
theorem trimR_same {l : List UInt8} (h : ∀ a, l ≠ a ++ [32]) : trimR l = l := by
  unfold trimR
  cases hr : l.reverse with
  | nil => have : l = [] := by simpa using hr
           rw [this]; rfl
  | cons c r =>
    rw [List.dropWhile_cons_of_neg, ← hr, List.reverse_reverse]
    simp
    intro e
    subst e
    exact h r.reverse (by rw [← List.reverse_reverse l, hr, List.reverse_cons])
theorem trimL_same {l : List UInt8} (h : ∀ a, l ≠ 32 :: a) : trimL l = l := by
  unfold trimL
  cases l with
  | nil => rfl
  | cons c r => rw [List.dropWhile_cons_of_neg]; simp; intro e; subst e; exact h r rfl
/-- What may be a name stays. -/
theorem clean_same {l : List UInt8} (hv : validD l = true) (hc : l.any barI = false) (hl : l.length ≤ 200) (h0 : ∀ a, l ≠ 32 :: a) (h1 : ∀ a, l ≠ a ++ [32]) : clean l = l := by
  obtain ⟨us, h2, h3⟩ := valid_units l.length l (Nat.le_refl _) hv
  unfold clean
  rw [filt_same hv hc, trimL_same h0]
  have : pref 200 l = l := by rw [h3, pref_flat 200 us h2, takeU_all 200 us (by rw [← h3]; exact hl)]
  rw [this, trimR_same h1]
theorem trimR_end (l a : List UInt8) : trimR l ≠ a ++ [32] := by
  intro e
  unfold trimR at e
  have e2 : List.dropWhile (· == 32) l.reverse = 32 :: a.reverse := by rw [← List.reverse_reverse (List.dropWhile _ _), e]; simp
  have := List.head?_dropWhile_not (fun x : UInt8 => x == 32) l.reverse
  rw [e2] at this
  simp at this
/-- What is made clean may be a name. -/
theorem clean_called (l : List UInt8) : validD (clean l) = true ∧ (clean l).any barI = false ∧ (clean l).length ≤ 200 ∧ (∀ a, clean l ≠ 32 :: a) ∧ ∀ a, clean l ≠ a ++ [32] := by
  obtain ⟨us, h1, h2⟩ := filt_units l.length l (Nat.le_refl _)
  obtain ⟨vs, h3, h4, h4'⟩ := trimL_units us (fun u hu => (h1 u hu).1)
  have h5 : ∀ u ∈ vs, GU u := fun u hu => h1 u (h3 u hu)
  have h6 : ∀ u ∈ takeU 200 vs, GU u := fun u hu => h5 u (takeU_mem _ _ _ hu)
  obtain ⟨ws, k, h7, h8⟩ := trimR_units (takeU 200 vs) (fun u hu => (h6 u hu).1)
  have h9 : ∀ u ∈ ws, GU u := fun u hu => h6 u (by rw [h7]; simp [hu])
  have hcl : clean l = ws.flatten := by
    unfold clean
    rw [h2, h4, pref_flat 200 vs (fun u hu => (h5 u hu).1), h8]
  rw [hcl]
  refine ⟨valid_flat _ (fun u hu => (h9 u hu).1), any_flat _ h9, ?_, ?_, ?_⟩
  · have := takeU_len 200 vs
    rw [h7, List.flatten_append, List.length_append] at this
    omega
  · intro a e
    -- the first rune of ws is the first one of vs
    cases ws with
    | nil => cases e
    | cons w ws =>
      have hw : ∃ vs', vs = w :: vs' := by
        cases vs with
        | nil => simp [takeU] at h7
        | cons v vs =>
          unfold takeU at h7
          split at h7
          · rw [List.cons_append, List.cons.injEq] at h7
            exact ⟨vs, by rw [h7.1]⟩
          · simp at h7
      obtain ⟨vs', rfl⟩ := hw
      have hwne := (h9 w (by simp)).1.1
      cases w with
      | nil => exact hwne rfl
      | cons c r =>
        rw [List.flatten_cons, List.cons_append, List.cons.injEq] at e
        exact h4' c _ (by rw [List.flatten_cons, List.cons_append]) e.1
  · intro a
    rw [← h8]
    exact trimR_end _ a

end Go.Proofs.YtemojhcbhljemaaDoor.Pure

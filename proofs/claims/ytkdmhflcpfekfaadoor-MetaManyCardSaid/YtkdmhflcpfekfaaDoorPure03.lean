/- Plain functions for layer 3 (quote): which texts may be paths, which are plain, how a text is quoted, and how one is read; no Go and no memory. -/
import Derived.Test.YtkdmhflcpfekfaaDoorPure11
import Derived.Lib.Fold
namespace Go.Proofs.YtkdmhflcpfekfaaDoor.Pure
set_option linter.unusedVariables false
set_option linter.unusedSimpArgs false
open Go.Lib

def lowB (c : UInt8) : Nat := if 65 ≤ c.toNat ∧ c.toNat ≤ 90 then c.toNat + 32 else c.toNat
def gitL : List UInt8 := [46, 103, 105, 116]
def isGit (l : List UInt8) : Bool := l.map lowB == [46, 103, 105, 116]
/-- A path's part that may be. -/
def nameP (l : List UInt8) : Bool := !l.isEmpty && !(l == [46]) && !(l == [46, 46]) && !isGit l
/-- A path that may be. -/
def pathP (l : List UInt8) : Bool := decide (l.length ≤ 400) && !contains l [0] && validD l && (splitS l).all nameP && decide ((splitS l).length ≤ 16)

theorem fold_low (y : UInt8) (h : y = 46 ∨ y = 103 ∨ y = 105 ∨ y = 116) (x : UInt8) : foldEq x y = (lowB x == y.toNat) := by
  have key : ∀ n : Fin 256, ∀ y ∈ ([46, 103, 105, 116] : List UInt8), foldEq (UInt8.ofNat n.val) y = (lowB (UInt8.ofNat n.val) == y.toNat) := by decide +kernel
  have := key ⟨x.toNat, x.toNat_lt⟩ y (by simpa using h)
  simpa using this

theorem fold_git (l : List UInt8) : equalFold l gitL = isGit l := by
  unfold gitL isGit
  match l with
  | [] => rfl
  | [a] => simp [equalFold]
  | [a, b] => simp [equalFold]
  | [a, b, c] => simp [equalFold]
  | [a, b, c, d] =>
    simp only [equalFold, fold_low 46 (by simp), fold_low 103 (by simp), fold_low 105 (by simp), fold_low 116 (by simp), List.map_cons, List.map_nil]
    rfl
  | a :: b :: c :: d :: e :: r => simp [equalFold]

theorem low_high {c : UInt8} (h : 128 ≤ c.toNat) : 128 ≤ lowB c := by unfold lowB; rw [if_neg (by omega)]; exact h
theorem git_high {l : List UInt8} {c : UInt8} (hc : c ∈ l) (h : 128 ≤ c.toNat) : isGit l = false := by
  unfold isGit
  rw [beq_eq_false_iff_ne]
  intro e
  have h1 : lowB c ∈ l.map lowB := List.mem_map_of_mem hc
  rw [e] at h1
  have := low_high h
  simp at h1
  omega

theorem contains_one (l : List UInt8) (c : UInt8) : contains l [c] = l.contains c := by
  unfold contains
  rw [index_one, Bool.eq_iff_iff, decide_eq_true_iff, List.contains_iff_mem]
  constructor
  · intro h
    obtain ⟨i, hi⟩ := Int.eq_ofNat_of_zero_le h
    exact List.mem_of_getElem? (indexByte_some hi).1
  · intro hm
    apply Classical.byContradiction
    intro hn
    have h1 : -1 ≤ indexByte l c := by rw [← index_one]; exact index_ge _ _
    have h2 : indexByte l c = -1 := by omega
    obtain ⟨j, hj⟩ := List.mem_iff_getElem?.1 hm
    exact indexByte_none h2 j hj

/-- What the reference does, byte by byte: the part at hand, and how many parts there are with it. -/
def scanQ (cur : List UInt8) (n : Nat) : List UInt8 → Bool
  | [] => nameP cur && decide (n ≤ 16)
  | c :: r => if c = 0 then false else if c = 47 then nameP cur && scanQ [] (n + 1) r else scanQ (cur ++ [c]) n r
theorem scanQ_zero (cur : List UInt8) (n : Nat) (r : List UInt8) : scanQ cur n (0 :: r) = false := by simp [scanQ]
theorem scanQ_slash (cur : List UInt8) (n : Nat) (r : List UInt8) : scanQ cur n (47 :: r) = (nameP cur && scanQ [] (n + 1) r) := by simp [scanQ]
theorem scanQ_other (cur : List UInt8) (n : Nat) {c : UInt8} (h0 : c ≠ 0) (h : c ≠ 47) (r : List UInt8) : scanQ cur n (c :: r) = scanQ (cur ++ [c]) n r := by simp [scanQ, h, h0]
theorem scanQ_end (cur : List UInt8) (n : Nat) : scanQ cur n [] = (nameP cur && decide (n ≤ 16)) := rfl
theorem scanQ_eq : ∀ (l cur : List UInt8) (n : Nat), scanQ cur n l = (!l.contains 0 && (nameP (cur ++ (splitS l).headD []) && (splitS l).tail.all nameP && decide (n + (splitS l).length ≤ 17)))
  | [], cur, n => by
    have : decide (n + ([[]] : List (List UInt8)).length ≤ 17) = decide (n ≤ 16) := decide_eq_decide.2 (by simp)
    simp [scanQ, splitS]
  | c :: r, cur, n => by
    by_cases h0 : c = 0
    · subst h0; rw [scanQ_zero]; simp
    have hc : (c :: r).contains 0 = r.contains 0 := by
      rw [List.contains_cons]
      have : ((0 : UInt8) == c) = false := by rw [beq_eq_false_iff_ne]; exact fun e => h0 e.symm
      rw [this, Bool.false_or]
    by_cases h : c = 47
    · subst h
      have e2 : (splitS r).all nameP = (nameP ((splitS r).headD []) && (splitS r).tail.all nameP) := by
        conv => lhs; rw [splitS_eq r]
        simp
      rw [scanQ_slash, scanQ_eq r, splitS_slash, hc]
      simp only [List.headD_cons, List.tail_cons, List.append_nil, List.length_cons, e2, List.nil_append]
      rw [show n + 1 + (splitS r).length = n + ((splitS r).length + 1) by omega]
      cases r.contains 0 <;> cases nameP cur <;> simp
    · have e3 : (splitS r).length = (splitS r).tail.length + 1 := by rw [splitS_eq r]; rfl
      rw [scanQ_other _ _ h0 h, scanQ_eq r, splitS_cons h, hc]
      simp only [List.headD_cons, List.tail_cons, List.append_assoc, List.singleton_append, List.length_cons, e3]

theorem path_scan (l : List UInt8) : pathP l = (decide (l.length ≤ 400) && validD l && scanQ [] 1 l) := by
  have e2 : (splitS l).all nameP = (nameP ((splitS l).headD []) && (splitS l).tail.all nameP) := by
    conv => lhs; rw [splitS_eq l]
    simp
  have e4 : decide (1 + (splitS l).length ≤ 17) = decide ((splitS l).length ≤ 16) := decide_eq_decide.2 (by omega)
  rw [scanQ_eq, pathP, contains_one, e2, List.nil_append, e4]
  cases decide (l.length ≤ 400) <;> cases l.contains 0 <;> cases validD l <;> simp [Bool.and_assoc]
theorem path_nil : pathP [] = false := by decide

/-! ### plain texts, and quotes -/
def oddB (c : UInt8) : Bool := decide (c.toNat < 32) || c.toNat == 127 || c.toNat == 34 || c.toNat == 92
def plainP (l : List UInt8) : Bool := l.all (fun c => !oddB c) && (!l.isEmpty && !(l.head? == some 32))
def cleanP (l : List UInt8) : Bool := l.all fun c => !(c.toNat == 32 || decide (127 < c.toNat))
def octB (c : UInt8) : List UInt8 := [92, UInt8.ofNat (48 + c.toNat / 64), UInt8.ofNat (48 + c.toNat / 8 % 8), UInt8.ofNat (48 + c.toNat % 8)]
/-- A byte, quoted. -/
def oneQ (c : UInt8) : List UInt8 :=
  if c = 34 then [92, 34] else if c = 92 then [92, 92] else if c = 10 then [92, 110] else if c = 9 then [92, 116] else if c.toNat < 32 ∨ 127 ≤ c.toNat then octB c else [c]
def quoteB (l : List UInt8) : List UInt8 := [34] ++ (l.flatMap oneQ ++ [34])
def quoteP (l : List UInt8) : List UInt8 := if (plainP l && cleanP l) = true then l else quoteB l

/-- The byte that an escape stands for, and how many bytes it is long; 0: none. -/
def takenQ : List UInt8 → Nat × Nat
  | [] => (0, 0)
  | c :: r => if c.toNat ≠ 92 then (c.toNat, 1) else match r with
    | [] => (0, 0)
    | d :: q => if d.toNat = 34 ∨ d.toNat = 92 then (d.toNat, 2) else if d.toNat = 110 then (10, 2) else if d.toNat = 116 then (9, 2) else match q with
      | a :: b :: _ => if (48 ≤ d.toNat ∧ d.toNat ≤ 55) ∧ (48 ≤ a.toNat ∧ a.toNat ≤ 55) ∧ (48 ≤ b.toNat ∧ b.toNat ≤ 55) ∧ (d.toNat - 48) * 64 + (a.toNat - 48) * 8 + (b.toNat - 48) ≤ 255 then
          ((d.toNat - 48) * 64 + (a.toNat - 48) * 8 + (b.toNat - 48), 4) else (0, 0)
      | _ => (0, 0)

/-- What the program reads between the quotes. -/
def dec1 (l : List UInt8) : Option (List UInt8) :=
  if l = [] then some []
  else if (takenQ l).2 = 0 then none else (dec1 (l.drop (takenQ l).2)).map (UInt8.ofNat (takenQ l).1 :: ·)
termination_by l.length
decreasing_by
  have : 0 < l.length := List.length_pos_iff.2 (by assumption)
  simp only [List.length_drop]; omega

/-- The same, as the reference takes it. -/
def taken2 : List UInt8 → Nat × Nat
  | [] => (0, 0)
  | c :: r => if c.toNat ≠ 92 then (c.toNat, 1) else match r with
    | [] => (0, 0)
    | d :: q => if d.toNat = 110 then (10, 2) else if d.toNat = 116 then (9, 2) else match q with
      | a :: b :: _ => if (48 ≤ d.toNat ∧ d.toNat ≤ 51) ∧ (48 ≤ a.toNat ∧ a.toNat ≤ 55) ∧ (48 ≤ b.toNat ∧ b.toNat ≤ 55) then ((d.toNat - 48) * 64 + (a.toNat - 48) * 8 + (b.toNat - 48), 4) else (d.toNat, 2)
      | _ => (d.toNat, 2)
/-- What the reference reads between the quotes. -/
def dec2 (l : List UInt8) : List UInt8 :=
  if l = [] then []
  else if (taken2 l).2 = 0 then [] else UInt8.ofNat (taken2 l).1 :: dec2 (l.drop (taken2 l).2)
termination_by l.length
decreasing_by
  have : 0 < l.length := List.length_pos_iff.2 (by assumption)
  simp only [List.length_drop]; omega

theorem one_cases (c : UInt8) : (oneQ c = [92, c] ∧ (c = 34 ∨ c = 92)) ∨ (oneQ c = [92, 110] ∧ c = 10) ∨ (oneQ c = [92, 116] ∧ c = 9) ∨ oneQ c = octB c ∨ (oneQ c = [c] ∧ c.toNat ≠ 34 ∧ c.toNat ≠ 92) := by
  unfold oneQ
  by_cases h1 : c = 34
  · subst h1; simp
  rw [if_neg h1]
  by_cases h2 : c = 92
  · subst h2; simp
  rw [if_neg h2]
  by_cases h3 : c = 10
  · subst h3; simp
  rw [if_neg h3]
  by_cases h4 : c = 9
  · subst h4; simp
  rw [if_neg h4]
  split
  · simp
  · refine .inr (.inr (.inr (.inr ⟨rfl, ?_, ?_⟩)))
    · intro e; exact h1 (UInt8.toNat_inj.1 e)
    · intro e; exact h2 (UInt8.toNat_inj.1 e)

theorem oct_parts (c : UInt8) : ∃ d a b : UInt8, octB c = [92, d, a, b] ∧ d.toNat = 48 + c.toNat / 64 ∧ a.toNat = 48 + c.toNat / 8 % 8 ∧ b.toNat = 48 + c.toNat % 8 := by
  have := c.toNat_lt
  refine ⟨_, _, _, rfl, ?_, ?_, ?_⟩ <;> rw [UInt8.toNat_ofNat'] <;> omega

theorem taken2_one (c : UInt8) (r : List UInt8) : taken2 (oneQ c ++ r) = (c.toNat, (oneQ c).length) := by
  have hlt := c.toNat_lt
  rcases one_cases c with ⟨e, h⟩ | ⟨e, h⟩ | ⟨e, h⟩ | e | ⟨e, h, h'⟩
  · rw [e]
    have h1 : c.toNat = 34 ∨ c.toNat = 92 := by rcases h with h | h <;> subst h <;> simp
    match r with
    | [] => rcases h with rfl | rfl <;> rfl
    | [a] => rcases h with rfl | rfl <;> rfl
    | a :: b :: z =>
      rw [List.cons_append, List.cons_append, List.nil_append, taken2.eq_def]
      simp only
      rw [if_neg (by decide), if_neg (by omega), if_neg (by omega), if_neg (by omega)]
      rfl
  · subst h; rw [e]; rfl
  · subst h; rw [e]; rfl
  · obtain ⟨d, a, b, e2, hd, ha, hb⟩ := oct_parts c
    rw [e, e2, List.cons_append, List.cons_append, List.cons_append, List.cons_append, List.nil_append, taken2.eq_def]
    simp only
    rw [if_neg (by decide), if_neg (by omega), if_neg (by omega), if_pos (by omega)]
    simp only [List.length_cons, List.length_nil, Prod.mk.injEq, and_true]
    omega
  · rw [e, List.cons_append, List.nil_append, taken2.eq_def]
    simp only
    rw [if_pos h']; rfl

theorem taken_one (c : UInt8) (r : List UInt8) : takenQ (oneQ c ++ r) = (c.toNat, (oneQ c).length) := by
  have hlt := c.toNat_lt
  rcases one_cases c with ⟨e, h⟩ | ⟨e, h⟩ | ⟨e, h⟩ | e | ⟨e, h, h'⟩
  · rw [e]
    rcases h with rfl | rfl <;> rfl
  · subst h; rw [e]; rfl
  · subst h; rw [e]; rfl
  · obtain ⟨d, a, b, e2, hd, ha, hb⟩ := oct_parts c
    rw [e, e2, List.cons_append, List.cons_append, List.cons_append, List.cons_append, List.nil_append, takenQ.eq_def]
    simp only
    rw [if_neg (by decide), if_neg (by omega), if_neg (by omega), if_neg (by omega), if_pos (by omega)]
    simp only [List.length_cons, List.length_nil, Prod.mk.injEq, and_true]
    omega
  · rw [e, List.cons_append, List.nil_append, takenQ.eq_def]
    simp only
    rw [if_pos h']; rfl
theorem one_pos (c : UInt8) : 0 < (oneQ c).length := by
  rcases one_cases c with ⟨e, h⟩ | ⟨e, h⟩ | ⟨e, h⟩ | e | ⟨e, h, h'⟩ <;> rw [e] <;> simp [octB]

theorem dec1_nil : dec1 [] = some [] := by rw [dec1]; simp
theorem dec1_step {l : List UInt8} (h : l ≠ []) (h2 : (takenQ l).2 ≠ 0) : dec1 l = (dec1 (l.drop (takenQ l).2)).map (UInt8.ofNat (takenQ l).1 :: ·) := by
  rw [dec1, if_neg h, if_neg h2]
theorem dec1_stop {l : List UInt8} (h : l ≠ []) (h2 : (takenQ l).2 = 0) : dec1 l = none := by rw [dec1, if_neg h, if_pos h2]
theorem one_ne (c : UInt8) (r : List UInt8) : oneQ c ++ r ≠ [] := by
  have h0 := one_pos c
  intro e
  have := congrArg List.length e
  rw [List.length_append, List.length_nil] at this
  omega
theorem dec1_one (c : UInt8) (r : List UInt8) : dec1 (oneQ c ++ r) = (dec1 r).map (c :: ·) := by
  have h0 := one_pos c
  rw [dec1_step (one_ne c r) (by rw [taken_one]; show (oneQ c).length ≠ 0; omega), taken_one]
  simp
theorem dec2_nil : dec2 [] = [] := by rw [dec2]; simp
theorem dec2_step {l : List UInt8} (h : l ≠ []) (h2 : (taken2 l).2 ≠ 0) : dec2 l = UInt8.ofNat (taken2 l).1 :: dec2 (l.drop (taken2 l).2) := by
  rw [dec2, if_neg h, if_neg h2]
theorem dec2_one (c : UInt8) (r : List UInt8) : dec2 (oneQ c ++ r) = c :: dec2 r := by
  have h0 := one_pos c
  rw [dec2_step (one_ne c r) (by rw [taken2_one]; show (oneQ c).length ≠ 0; omega), taken2_one]
  simp
theorem dec1_all : ∀ x : List UInt8, dec1 (x.flatMap oneQ) = some x
  | [] => dec1_nil
  | c :: x => by rw [List.flatMap_cons, dec1_one, dec1_all x]; rfl
theorem dec2_all : ∀ x : List UInt8, dec2 (x.flatMap oneQ) = x
  | [] => dec2_nil
  | c :: x => by rw [List.flatMap_cons, dec2_one, dec2_all x]

/-- Where the quote that ends a text stands, behind the one that begins it; the sign: the next byte is an escape's. -/
def endG : Bool → List UInt8 → Option Nat
  | _, [] => none
  | true, _ :: r => (endG false r).map (· + 1)
  | false, c :: r => if c.toNat = 34 then some 0 else (endG (c.toNat == 92) r).map (· + 1)
abbrev endF (l : List UInt8) : Option Nat := endG false l
theorem end_nil (b : Bool) : endG b [] = none := by cases b <;> rfl
theorem end_skip (c : UInt8) (r : List UInt8) : endG true (c :: r) = (endG false r).map (· + 1) := rfl
theorem end_hit (c : UInt8) (r : List UInt8) (h : c.toNat = 34) : endF (c :: r) = some 0 := by unfold endF endG; rw [if_pos h]
theorem end_esc (c d : UInt8) (r : List UInt8) (h : c.toNat = 92) : endF (c :: d :: r) = (endF r).map (· + 2) := by
  unfold endF
  rw [endG, if_neg (by omega), beq_iff_eq.2 h, end_skip, Option.map_map]
  rfl
theorem end_esc1 (c : UInt8) (h : c.toNat = 92) : endF [c] = none := by
  unfold endF
  rw [endG, if_neg (by omega), end_nil]
  rfl
theorem end_other (c : UInt8) (r : List UInt8) (h : c.toNat ≠ 34) (h2 : c.toNat ≠ 92) : endF (c :: r) = (endF r).map (· + 1) := by
  unfold endF
  rw [endG, if_neg h, beq_eq_false_iff_ne.2 h2]
theorem end_one (c : UInt8) (r : List UInt8) : endF (oneQ c ++ r) = (endF r).map (· + (oneQ c).length) := by
  have hlt := c.toNat_lt
  rcases one_cases c with ⟨e, h⟩ | ⟨e, h⟩ | ⟨e, h⟩ | e | ⟨e, h, h'⟩
  · rw [e, List.cons_append, List.cons_append, List.nil_append, end_esc _ _ _ (by decide)]; rfl
  · rw [e, List.cons_append, List.cons_append, List.nil_append, end_esc _ _ _ (by decide)]; rfl
  · rw [e, List.cons_append, List.cons_append, List.nil_append, end_esc _ _ _ (by decide)]; rfl
  · obtain ⟨d, a, b, e2, hd, ha, hb⟩ := oct_parts c
    rw [e, e2, List.cons_append, List.cons_append, List.cons_append, List.cons_append, List.nil_append, end_esc _ _ _ (by decide), end_other _ _ (by omega) (by omega), end_other _ _ (by omega) (by omega)]
    simp only [Option.map_map, List.length_cons, List.length_nil]
    rfl
  · rw [e, List.cons_append, List.nil_append, end_other _ _ h h']; rfl
theorem end_all : ∀ (x r : List UInt8), endF (x.flatMap oneQ ++ 34 :: r) = some (x.flatMap oneQ).length
  | [], r => by rw [List.flatMap_nil, List.nil_append, end_hit _ _ (by decide)]; rfl
  | c :: x, r => by
    rw [List.flatMap_cons, List.append_assoc, end_one, end_all x r]
    simp only [Option.map_some, List.length_append, Option.some.injEq]
    omega
theorem end_lt : ∀ (l : List UInt8) (b : Bool) (e : Nat), endG b l = some e → e < l.length ∧ l[e]? = some 34
  | [], b, e, h => by rw [end_nil] at h; cases h
  | c :: r, true, e, h => by
    rw [end_skip, Option.map_eq_some_iff] at h
    obtain ⟨q, hq, rfl⟩ := h
    obtain ⟨h1, h2⟩ := end_lt r _ q hq
    exact ⟨by simp only [List.length_cons]; omega, by simpa using h2⟩
  | c :: r, false, e, h => by
    unfold endG at h
    split at h
    · rename_i h1
      have hc : c = 34 := UInt8.toNat_inj.1 h1
      cases h; subst hc; simp
    · rw [Option.map_eq_some_iff] at h
      obtain ⟨q, hq, rfl⟩ := h
      obtain ⟨h1, h2⟩ := end_lt r _ q hq
      exact ⟨by simp only [List.length_cons]; omega, by simpa using h2⟩

/-- How many bytes stand ahead of a blank, or of the end of a line. -/
def stopQ : List UInt8 → Nat
  | [] => 0
  | c :: r => if c.toNat = 32 ∨ c.toNat = 10 then 0 else stopQ r + 1
theorem stop_le : ∀ l : List UInt8, stopQ l ≤ l.length
  | [] => Nat.le_refl _
  | c :: r => by
    unfold stopQ
    split
    · exact Nat.zero_le _
    · have := stop_le r; simp only [List.length_cons]; omega
theorem stop_app : ∀ (x r : List UInt8) (b : UInt8), (∀ c ∈ x, c.toNat ≠ 32 ∧ c.toNat ≠ 10) → (b.toNat = 32 ∨ b.toNat = 10) → stopQ (x ++ b :: r) = x.length
  | [], r, b, _, hb => by simp [stopQ, hb]
  | c :: x, r, b, h, hb => by
    have h1 := h c (by simp)
    rw [List.cons_append, stopQ, if_neg (by omega), stop_app x r b (fun y hy => h y (by simp [hy])) hb]
    rfl

/-- What stands at the beginning of a text, how long it is, and the error: as the program reads it. -/
def unqQ (l : List UInt8) : List UInt8 × Nat × Int :=
  if l.head? = some 34 then
    match endF (l.drop 1) with
    | none => ([], 0, 3)
    | some e => match dec1 ((l.drop 1).take e) with
      | some x => if quoteP x = l.take (e + 2) then (x, e + 2, 0) else ([], 0, 4)
      | none => ([], 0, 4)
  else if quoteP (l.take (stopQ l)) = l.take (stopQ l) then (l.take (stopQ l), stopQ l, 0) else ([], 0, 4)
/-- As the reference reads it. -/
def unqR (l : List UInt8) : List UInt8 × Nat × Int :=
  if l.head? = some 34 then
    match endF (l.drop 1) with
    | none => ([], 0, 3)
    | some e => if quoteP (dec2 ((l.drop 1).take e)) = l.take (e + 2) then (dec2 ((l.drop 1).take e), e + 2, 0) else ([], 0, 4)
  else if quoteP (l.take (stopQ l)) = l.take (stopQ l) then (l.take (stopQ l), stopQ l, 0) else ([], 0, 4)

theorem plain_head {l : List UInt8} (h : plainP l = true) : l.head? ≠ some 34 := by
  intro e
  cases l with
  | nil => cases e
  | cons c r =>
    cases e
    unfold plainP at h
    simp [oddB] at h

theorem quote_body {x l : List UInt8} {e : Nat} (h0 : l.head? = some 34) (he : endF (l.drop 1) = some e) (h : quoteP x = l.take (e + 2)) : (l.drop 1).take e = x.flatMap oneQ := by
  cases l with
  | nil => cases h0
  | cons c r =>
    cases h0
    simp only [List.drop_succ_cons, List.drop_zero] at he ⊢
    have hlt := (end_lt r _ e he).1
    unfold quoteP at h
    split at h
    · rename_i hp
      have h1 : plainP x = true := by revert hp; cases plainP x <;> simp
      exfalso
      apply plain_head h1
      rw [h]; rfl
    · unfold quoteB at h
      rw [show e + 2 = (e + 1) + 1 from rfl, List.take_succ_cons, List.singleton_append] at h
      have h2 := (List.cons.inj h).2
      have hlen := congrArg List.length h2
      rw [List.length_append, List.length_take, List.length_singleton] at hlen
      have h3 : (x.flatMap oneQ).length = e := by omega
      have h4 := congrArg (List.take e) h2
      rw [List.take_append_of_le_length (by omega), List.take_of_length_le (by omega), List.take_take, Nat.min_eq_left (by omega)] at h4
      exact h4.symm

theorem unq_same (l : List UInt8) : unqR l = unqQ l := by
  unfold unqR unqQ
  by_cases h0 : l.head? = some 34
  · rw [if_pos h0, if_pos h0]
    cases he : endF (l.drop 1) with
    | none => rfl
    | some e =>
      simp only
      by_cases h : quoteP (dec2 ((l.drop 1).take e)) = l.take (e + 2)
      · have hb := quote_body h0 he h
        have hd : dec1 ((l.drop 1).take e) = some (dec2 ((l.drop 1).take e)) := by
          conv => lhs; rw [hb]
          exact dec1_all _
        rw [if_pos h, hd]
        simp only
        rw [if_pos h]
      · rw [if_neg h]
        cases hd : dec1 ((l.drop 1).take e) with
        | none => rfl
        | some x =>
          simp only
          by_cases h2 : quoteP x = l.take (e + 2)
          · exfalso
            have hb := quote_body h0 he h2
            apply h
            rw [hb, dec2_all]
            exact h2
          · rw [if_neg h2]
  · rw [if_neg h0, if_neg h0]

/-- What is read, quoted again, is the same. -/
theorem unq_back {t y : List UInt8} {m : Nat} (h : unqQ t = (y, m, 0)) : m ≤ t.length ∧ quoteP y = t.take m := by
  unfold unqQ at h
  split at h
  · rename_i h0
    split at h
    · simp at h
    · rename_i e he
      split at h
      · split at h
        · rename_i hq
          simp only [Prod.mk.injEq, and_true] at h
          obtain ⟨rfl, rfl⟩ := h
          have := (end_lt _ _ _ he).1
          rw [List.length_drop] at this
          exact ⟨by omega, hq⟩
        · simp at h
      · simp at h
  · split at h
    · rename_i hq
      simp only [Prod.mk.injEq, and_true] at h
      obtain ⟨rfl, rfl⟩ := h
      exact ⟨stop_le t, hq⟩
    · simp at h
theorem unq_len (t : List UInt8) : (unqQ t).2.1 ≤ t.length := by
  unfold unqQ
  split
  · split
    · exact Nat.zero_le _
    · rename_i e he
      have := (end_lt _ _ _ he).1
      rw [List.length_drop] at this
      split
      · split
        · show e + 2 ≤ _; omega
        · exact Nat.zero_le _
      · exact Nat.zero_le _
  · split
    · exact stop_le t
    · exact Nat.zero_le _
theorem unq_text_len (t : List UInt8) (h : (unqQ t).2.2 ≠ 0) : (unqQ t).1 = [] ∧ (unqQ t).2.1 = 0 := by
  unfold unqQ at h ⊢
  split
  · rename_i h0
    rw [if_pos h0] at h
    split
    · exact ⟨rfl, rfl⟩
    · rename_i e he
      rw [he] at h
      split
      · rename_i x hx
        simp only [hx] at h
        split
        · rename_i hq; rw [if_pos hq] at h; exact absurd rfl h
        · exact ⟨rfl, rfl⟩
      · exact ⟨rfl, rfl⟩
  · rename_i h0
    rw [if_neg h0] at h
    split
    · rename_i hq; rw [if_pos hq] at h; exact absurd rfl h
    · exact ⟨rfl, rfl⟩

/-- What is quoted is read again, with a blank, or the end of a line, and anything behind. -/
theorem unq_quote (s more : List UInt8) (b : UInt8) (hb : b.toNat = 32 ∨ b.toNat = 10) : unqQ (quoteP s ++ b :: more) = (s, (quoteP s).length, 0) := by
  by_cases h : (plainP s && cleanP s) = true
  · have hq : quoteP s = s := by unfold quoteP; rw [if_pos h]
    have hp : plainP s = true := by revert h; cases plainP s <;> simp
    have hc : cleanP s = true := by revert h; cases cleanP s <;> simp
    have hne : s ≠ [] := by intro e; subst e; simp [plainP] at hp
    have hh : (s ++ b :: more).head? ≠ some 34 := by
      cases s with
      | nil => exact absurd rfl hne
      | cons c r =>
        intro e
        exact plain_head hp (by simpa using e)
    have hs : stopQ (s ++ b :: more) = s.length := by
      apply stop_app _ _ _ _ hb
      intro c hcm
      unfold cleanP at hc
      rw [List.all_eq_true] at hc
      have h1 := hc c hcm
      unfold plainP at hp
      simp only [Bool.and_eq_true, List.all_eq_true] at hp
      have h2 := hp.1 c hcm
      simp [oddB] at h1 h2
      omega
    rw [hq]
    unfold unqQ
    rw [if_neg hh, hs]
    simp only [List.take_left']
    rw [if_pos hq]
  · have hq : quoteP s = quoteB s := by unfold quoteP; rw [if_neg h]
    have hl : quoteB s ++ b :: more = 34 :: (s.flatMap oneQ ++ 34 :: (b :: more)) := by unfold quoteB; simp
    have hlen : (quoteB s).length = (s.flatMap oneQ).length + 2 := by unfold quoteB; simp
    rw [hq]
    unfold unqQ
    rw [if_pos (by rw [hl]; rfl)]
    have hd : (quoteB s ++ b :: more).drop 1 = s.flatMap oneQ ++ 34 :: (b :: more) := by rw [hl]; rfl
    rw [hd, end_all]
    simp only
    rw [List.take_left' rfl, dec1_all]
    simp only
    rw [hq, if_pos]
    · rw [hlen]
    · rw [← hlen, List.take_left' rfl]

end Go.Proofs.YtkdmhflcpfekfaaDoor.Pure

/- Extras and copies as lists: which may be, how they are printed as lines, how lines are read. Plain: no program in sight. -/
import Derived.Test.YtkdmhflcpfekfaaDoorPure03
import Derived.Test.YtkdmhflcpfekfaaDoorM1
import GoSem.Op.String
namespace Go.Proofs.YtkdmhflcpfekfaaDoor
set_option linter.unusedVariables false
set_option linter.unusedSimpArgs false
open Go.RowKit

def smallB (c : UInt8) : Bool := decide (97 ≤ c.toNat ∧ c.toNat ≤ 122)
def otherB (c : UInt8) : Bool := smallB c || (c.toNat == 45 || c.toNat == 46 || decide (48 ≤ c.toNat ∧ c.toNat ≤ 57))
/-- Which keys an extra may have, but for their length. -/
def keyL : List UInt8 → Bool
  | [] => false
  | c :: r => smallB c && r.all otherB
def keyP (l : List UInt8) : Bool := keyL l && decide (l.length ≤ 40)
/-- May an extra be, by itself? -/
def oneE (x : Two) : Bool := keyP x.p && !x.q.contains 0 && decide (x.q.length ≤ 8192)
def pathC (l : List UInt8) : Bool := Pure.pathP l && !l.contains 10
/-- May a copy be, by itself? -/
def oneC (x : Two) : Bool := pathC x.p && pathC x.q && !(x.a.toList == x.b.toList)
/-- Are values right, one by one, each behind the one ahead? -/
def goodW (one : Two → Bool) (less : Two → Two → Bool) : Option Two → List Two → Bool
  | _, [] => true
  | prev, x :: r => one x && (match prev with | none => true | some p => less p x) && goodW one less (some x) r
def lessE (a b : Two) : Bool := Op.bytesLess a.p b.p
def lessC (a b : Two) : Bool := Op.bytesLess a.q b.q
def extrasP (l : List Two) : Bool := goodW oneE lessE none l && decide (l.length ≤ 40)
def copiesP (l : List Two) : Bool := goodW oneC lessC none l && decide (l.length ≤ 500)
/-- Which extras and copies may be a change's. -/
def besideP (l c : List Two) : Bool := extrasP l && copiesP c

section
variable {one : Two → Bool} {less : Two → Two → Bool}
theorem goodW_cons (p : Option Two) (x : Two) (r : List Two) : goodW one less p (x :: r) = (one x && (match p with | none => true | some p => less p x) && goodW one less (some x) r) := by
  cases p <;> rfl
def prevW (l : List Two) (k : Nat) : Option Two := if k = 0 then none else l[k - 1]?
theorem prevW_next {l : List Two} {k : Nat} {x : Two} (h : l[k]? = some x) : prevW l (k + 1) = some x := by
  unfold prevW
  rw [if_neg (by omega), Nat.add_sub_cancel, h]
theorem goodW_step {l : List Two} {k : Nat} {x : Two} (h : l[k]? = some x) : goodW one less (prevW l k) (l.drop k) = (one x && (match prevW l k with | none => true | some p => less p x) && goodW one less (prevW l (k + 1)) (l.drop (k + 1))) := by
  have hk := (List.getElem?_eq_some_iff.1 h).1
  rw [List.drop_eq_getElem_cons hk, (List.getElem?_eq_some_iff.1 h).2, goodW_cons, prevW_next h]
theorem goodW_all : ∀ (l : List Two) (p : Option Two), goodW one less p l = true → ∀ x ∈ l, one x = true
  | [], _, _ => by simp
  | y :: r, p, h => by
    rw [goodW_cons] at h
    simp only [Bool.and_eq_true] at h
    intro x hx
    rcases List.mem_cons.1 hx with rfl | hx
    · exact h.1.1
    · exact goodW_all r _ h.2 x hx
end

/-- The lines. -/
def extraB : List UInt8 := [101, 120, 116, 114, 97, 32]
def copyB : List UInt8 := [99, 111, 112, 121, 32]
def extraL (x : Two) : List UInt8 := extraB ++ x.p ++ [32] ++ Pure.hex x.q ++ [10]
def copyL (x : Two) : List UInt8 := copyB ++ Pure.hex x.p ++ [32] ++ Pure.hex x.q ++ [10]
/-- Extras and copies as lines. -/
def trailerP (l c : List Two) : List UInt8 := l.flatMap extraL ++ c.flatMap copyL
theorem flat_next {f : Two → List UInt8} {l : List Two} {k : Nat} {x : Two} (h : l[k]? = some x) : (l.take (k + 1)).flatMap f = (l.take k).flatMap f ++ f x := by
  rw [List.take_add_one, h, List.flatMap_append]
  simp

/-- The two words behind a line's first one. -/
def twoG (w ln : List UInt8) : Option (List UInt8 × List UInt8) := if Lib.hasPrefix ln w then Pure.cutC 32 (ln.drop w.length) else none
/-- One step of reading lines: nothing: stop; else what comes of it. -/
inductive StepT where
  | stop
  | bad
  | extra (x : Two) (rest : List UInt8)
  | copy (x : Two) (rest : List UInt8)
def stepG (noC : Bool) (s : List UInt8) : StepT :=
  match Pure.cutC 10 s with
  | none => .stop
  | some (ln, rest) => match (if noC then twoG extraB ln else none) with
    | some (k, v) => match Pure.unhex v with
      | none => .bad
      | some b => .extra ⟨⟨k.toArray⟩, ⟨b.toArray⟩⟩ rest
    | none => match twoG copyB ln with
      | none => .stop
      | some (f, t) => match Pure.unhex f, Pure.unhex t with
        | some a, some b => .copy ⟨⟨a.toArray⟩, ⟨b.toArray⟩⟩ rest
        | _, _ => .bad
/-- Extras and copies whose lines stand at the beginning, and what stands behind; none: there is a fault. -/
def takeG : Nat → List Two → List Two → List UInt8 → Option (List Two × List Two × List UInt8)
  | 0, l, c, s => some (l, c, s)
  | n + 1, l, c, s => match stepG c.isEmpty s with
    | .stop => some (l, c, s)
    | .bad => none
    | .extra x r => takeG n (l ++ [x]) c r
    | .copy x r => takeG n l (c ++ [x]) r
theorem stepG_len {b : Bool} {s : List UInt8} {x : Two} {r : List UInt8} (h : stepG b s = .extra x r ∨ stepG b s = .copy x r) : r.length < s.length := by
  unfold stepG at h
  cases h0 : Pure.cutC 10 s with
  | none => rw [h0] at h; simp at h
  | some y =>
    obtain ⟨ln, rest⟩ := y
    have hl := Pure.cutC_len h0
    rw [h0] at h
    simp only at h
    have hr : r = rest := by
      generalize (if b = true then twoG extraB ln else none) = A at h
      cases A with
      | some kv =>
        obtain ⟨k, v⟩ := kv
        simp only at h
        cases hu : Pure.unhex v with
        | none => rw [hu] at h; simp at h
        | some b => rw [hu] at h; simp at h; exact h.2.symm
      | none =>
        simp only at h
        cases hb : twoG copyB ln with
        | none => rw [hb] at h; simp at h
        | some ft =>
          obtain ⟨f, t⟩ := ft
          rw [hb] at h
          simp only at h
          cases hu : Pure.unhex f with
          | none => rw [hu] at h; simp at h
          | some a =>
            cases hv : Pure.unhex t with
            | none => rw [hu, hv] at h; simp at h
            | some b => rw [hu, hv] at h; simp at h; exact h.2.symm
    subst hr
    omega
theorem takeG_fuel : ∀ (n : Nat) (l c : List Two) (s : List UInt8), s.length ≤ n → takeG n l c s = takeG s.length l c s
  | 0, l, c, s, h => by
    have : s.length = 0 := by omega
    rw [this]
  | n + 1, l, c, s, h => by
    cases hs : s with
    | nil =>
      rfl
    | cons d s' =>
      rw [← hs]
      have hlen : s.length = s'.length + 1 := by rw [hs]; rfl
      rw [hlen]
      show (match stepG c.isEmpty s with | .stop => _ | .bad => _ | .extra x r => takeG n (l ++ [x]) c r | .copy x r => takeG n l (c ++ [x]) r) = (match stepG c.isEmpty s with | .stop => _ | .bad => _ | .extra x r => takeG s'.length (l ++ [x]) c r | .copy x r => takeG s'.length l (c ++ [x]) r)
      cases hst : stepG c.isEmpty s with
      | stop => rfl
      | bad => rfl
      | extra x r =>
        have := stepG_len (.inl hst)
        simp only
        rw [takeG_fuel n _ _ r (by omega), takeG_fuel s'.length _ _ r (by omega)]
      | copy x r =>
        have := stepG_len (.inr hst)
        simp only
        rw [takeG_fuel n _ _ r (by omega), takeG_fuel s'.length _ _ r (by omega)]
theorem takeG_step (l c : List Two) (s : List UInt8) : takeG s.length l c s = match stepG c.isEmpty s with
    | .stop => some (l, c, s)
    | .bad => none
    | .extra x r => takeG r.length (l ++ [x]) c r
    | .copy x r => takeG r.length l (c ++ [x]) r := by
  cases s with
  | nil => rfl
  | cons d s' =>
    have hlen : (d :: s').length = s'.length + 1 := rfl
    rw [hlen]
    show (match stepG c.isEmpty (d :: s') with | .stop => _ | .bad => _ | .extra x r => takeG s'.length (l ++ [x]) c r | .copy x r => takeG s'.length l (c ++ [x]) r) = _
    cases hst : stepG c.isEmpty (d :: s') with
    | stop => rfl
    | bad => rfl
    | extra x r =>
      have := stepG_len (.inl hst)
      simp only [List.length_cons] at this
      simp only
      rw [takeG_fuel s'.length _ _ r (by omega)]
    | copy x r =>
      have := stepG_len (.inr hst)
      simp only [List.length_cons] at this
      simp only
      rw [takeG_fuel s'.length _ _ r (by omega)]

/-- The reference's two words. -/
def twoR (l : List UInt8) : List UInt8 × List UInt8 := match Pure.cutC 32 l with | none => (l, []) | some (a, b) => (a, b)
def unR (l : List UInt8) : List UInt8 := (Pure.unhex l).getD []
def stepR (s : List UInt8) : StepT :=
  match Pure.cutC 10 s with
  | none => .stop
  | some (ln, rest) =>
    if Lib.hasPrefix ln extraB then .extra ⟨⟨(twoR (ln.drop 6)).1.toArray⟩, ⟨(unR (twoR (ln.drop 6)).2).toArray⟩⟩ rest
    else if Lib.hasPrefix ln copyB then .copy ⟨⟨(unR (twoR (ln.drop 5)).1).toArray⟩, ⟨(unR (twoR (ln.drop 5)).2).toArray⟩⟩ rest
    else .stop
def takeR : Nat → List Two → List Two → List UInt8 → List Two × List Two × List UInt8
  | 0, l, c, s => (l, c, s)
  | n + 1, l, c, s => match stepR s with
    | .extra x r => takeR n (l ++ [x]) c r
    | .copy x r => takeR n l (c ++ [x]) r
    | _ => (l, c, s)
theorem stepR_len {s : List UInt8} {x : Two} {r : List UInt8} (h : stepR s = .extra x r ∨ stepR s = .copy x r) : r.length < s.length := by
  unfold stepR at h
  cases h0 : Pure.cutC 10 s with
  | none => rw [h0] at h; simp at h
  | some y =>
    obtain ⟨ln, rest⟩ := y
    have hl := Pure.cutC_len h0
    rw [h0] at h
    simp only at h
    have hr : r = rest := by
      by_cases h1 : Lib.hasPrefix ln extraB = true
      · rw [if_pos h1] at h; simp at h; exact h.2.symm
      · rw [if_neg h1] at h
        by_cases h2 : Lib.hasPrefix ln copyB = true
        · rw [if_pos h2] at h; simp at h; exact h.2.symm
        · rw [if_neg h2] at h; simp at h
    subst hr
    omega
theorem takeR_fuel : ∀ (n : Nat) (l c : List Two) (s : List UInt8), s.length ≤ n → takeR n l c s = takeR s.length l c s
  | 0, l, c, s, h => by
    have : s.length = 0 := by omega
    rw [this]
  | n + 1, l, c, s, h => by
    cases hs : s with
    | nil => rfl
    | cons d s' =>
      rw [← hs]
      have hlen : s.length = s'.length + 1 := by rw [hs]; rfl
      rw [hlen]
      show (match stepR s with | .extra x r => takeR n (l ++ [x]) c r | .copy x r => takeR n l (c ++ [x]) r | _ => (l, c, s)) = (match stepR s with | .extra x r => takeR s'.length (l ++ [x]) c r | .copy x r => takeR s'.length l (c ++ [x]) r | _ => (l, c, s))
      cases hst : stepR s with
      | stop => rfl
      | bad => rfl
      | extra x r =>
        have := stepR_len (.inl hst)
        simp only
        rw [takeR_fuel n _ _ r (by omega), takeR_fuel s'.length _ _ r (by omega)]
      | copy x r =>
        have := stepR_len (.inr hst)
        simp only
        rw [takeR_fuel n _ _ r (by omega), takeR_fuel s'.length _ _ r (by omega)]
theorem takeR_step (l c : List Two) (s : List UInt8) : takeR s.length l c s = match stepR s with
    | .extra x r => takeR r.length (l ++ [x]) c r
    | .copy x r => takeR r.length l (c ++ [x]) r
    | _ => (l, c, s) := by
  cases s with
  | nil => rfl
  | cons d s' =>
    have hlen : (d :: s').length = s'.length + 1 := rfl
    rw [hlen]
    show (match stepR (d :: s') with | .extra x r => takeR s'.length (l ++ [x]) c r | .copy x r => takeR s'.length l (c ++ [x]) r | _ => _) = _
    cases hst : stepR (d :: s') with
    | stop => rfl
    | bad => rfl
    | extra x r =>
      have := stepR_len (.inl hst)
      simp only [List.length_cons] at this
      simp only
      rw [takeR_fuel s'.length _ _ r (by omega)]
    | copy x r =>
      have := stepR_len (.inr hst)
      simp only [List.length_cons] at this
      simp only
      rw [takeR_fuel s'.length _ _ r (by omega)]

theorem hexD_no (n : Nat) (h : n < 16) : Pure.hexDigit n ≠ 10 ∧ Pure.hexDigit n ≠ 32 ∧ Pure.hexDigit n ≠ 45 := by
  have : ∀ n : Nat, n < 16 → Pure.hexDigit n ≠ 10 ∧ Pure.hexDigit n ≠ 32 ∧ Pure.hexDigit n ≠ 45 := by decide
  exact this n h
theorem hexL_no : ∀ (l : List UInt8), ∀ c ∈ Pure.hex l, c ≠ 10 ∧ c ≠ 32 ∧ c ≠ 45
  | [] => by simp [Pure.hex]
  | x :: r => by
    have ih := hexL_no r
    unfold Pure.hex
    intro c hc
    have hx := x.toNat_lt
    rcases List.mem_cons.1 hc with rfl | hc
    · exact hexD_no _ (by omega)
    rcases List.mem_cons.1 hc with rfl | hc
    · exact hexD_no _ (by omega)
    · exact ih c hc
theorem other_no {c : UInt8} (h : otherB c = true) : c ≠ 10 ∧ c ≠ 32 := by
  exact ⟨fun e => by (subst e; exact absurd h (by decide)), fun e => by (subst e; exact absurd h (by decide))⟩
theorem small_other {c : UInt8} (h : smallB c = true) : otherB c = true := by unfold otherB; rw [h]; rfl
theorem key_no {l : List UInt8} (h : keyP l = true) : ∀ c ∈ l, c ≠ 10 ∧ c ≠ 32 := by
  unfold keyP at h
  rw [Bool.and_eq_true] at h
  have h1 := h.1
  cases l with
  | nil => simp
  | cons d r =>
    unfold keyL at h1
    rw [Bool.and_eq_true, List.all_eq_true] at h1
    intro c hc
    rcases List.mem_cons.1 hc with rfl | hc
    · exact other_no (small_other h1.1)
    · exact other_no (h1.2 c hc)
theorem oneE_parts {x : Two} (h : oneE x = true) : keyP x.p = true ∧ x.q.contains 0 = false ∧ x.q.length ≤ 8192 := by
  unfold oneE at h
  simp only [Bool.and_eq_true, Bool.not_eq_true', decide_eq_true_eq] at h
  exact ⟨h.1.1, h.1.2, h.2⟩
theorem hasP_self (a b : List UInt8) : Lib.hasPrefix (a ++ b) a = true := by unfold Lib.hasPrefix; simp
theorem two_of (a b : List UInt8) (h : ∀ c ∈ a, c ≠ 32) (w : List UInt8) : twoG w (w ++ a ++ [32] ++ b) = some (a, b) := by
  unfold twoG
  have e : w ++ a ++ [32] ++ b = w ++ (a ++ 32 :: b) := by simp
  rw [e, if_pos (hasP_self _ _), List.drop_left, Pure.cutC_app _ _ _ h]
theorem array_two (x : Two) : (⟨⟨x.p.toArray⟩, ⟨x.q.toArray⟩⟩ : Two) = x := by
  obtain ⟨⟨a⟩, ⟨b⟩⟩ := x
  rfl
theorem not_extra (a b : List UInt8) : twoG extraB (copyB ++ a ++ [32] ++ b) = none := by
  unfold twoG
  rw [if_neg]
  intro h
  have : Lib.hasPrefix (copyB ++ a ++ [32] ++ b) extraB = false := rfl
  rw [this] at h
  cases h
/-- A line that an extra is printed as. -/
theorem stepG_extra {x : Two} (h : keyP x.p = true) (r : List UInt8) : stepG true (extraL x ++ r) = .extra x r := by
  have e : extraL x ++ r = (extraB ++ x.p ++ [32] ++ Pure.hex x.q) ++ 10 :: r := by unfold extraL; simp
  have hk := key_no h
  unfold stepG
  rw [e, Pure.cutC_app]
  · simp only [if_true]
    rw [two_of _ _ (fun c hc => (hk c hc).2)]
    simp only
    rw [Pure.unhex_hex]
  · intro d hd
    simp only [List.mem_append, List.mem_singleton] at hd
    rcases hd with ((hd | hd) | rfl) | hd
    · revert d; decide
    · exact (hk d hd).1
    · decide
    · exact (hexL_no _ d hd).1
theorem stepG_copy (x : Two) (b : Bool) (r : List UInt8) : stepG b (copyL x ++ r) = .copy x r := by
  have e : copyL x ++ r = (copyB ++ Pure.hex x.p ++ [32] ++ Pure.hex x.q) ++ 10 :: r := by unfold copyL; simp
  unfold stepG
  rw [e, Pure.cutC_app]
  · simp only
    have h0 : (if b = true then twoG extraB (copyB ++ Pure.hex x.p ++ [32] ++ Pure.hex x.q) else none) = none := by
      rw [not_extra]; cases b <;> rfl
    rw [h0, two_of _ _ (fun c hc => (hexL_no _ c hc).2.1)]
    simp only
    rw [Pure.unhex_hex, Pure.unhex_hex]
  · intro d hd
    simp only [List.mem_append, List.mem_singleton] at hd
    rcases hd with ((hd | hd) | rfl) | hd
    · revert d; decide
    · exact (hexL_no _ d hd).1
    · decide
    · exact (hexL_no _ d hd).1
theorem stepR_extra {x : Two} (h : keyP x.p = true) (r : List UInt8) : stepR (extraL x ++ r) = .extra x r := by
  have e : extraL x ++ r = (extraB ++ x.p ++ [32] ++ Pure.hex x.q) ++ 10 :: r := by unfold extraL; simp
  have hk := key_no h
  unfold stepR
  rw [e, Pure.cutC_app]
  · simp only
    have e2 : extraB ++ x.p ++ [32] ++ Pure.hex x.q = extraB ++ (x.p ++ 32 :: Pure.hex x.q) := by simp
    rw [e2, if_pos (hasP_self _ _), show (6 : Nat) = extraB.length from rfl, List.drop_left]
    unfold twoR
    rw [Pure.cutC_app _ _ _ (fun c hc => (hk c hc).2)]
    simp only
    unfold unR
    rw [Pure.unhex_hex]
    simp only [Option.getD_some]
  · intro d hd
    simp only [List.mem_append, List.mem_singleton] at hd
    rcases hd with ((hd | hd) | rfl) | hd
    · revert d; decide
    · exact (hk d hd).1
    · decide
    · exact (hexL_no _ d hd).1
theorem stepR_copy (x : Two) (r : List UInt8) : stepR (copyL x ++ r) = .copy x r := by
  have e : copyL x ++ r = (copyB ++ Pure.hex x.p ++ [32] ++ Pure.hex x.q) ++ 10 :: r := by unfold copyL; simp
  unfold stepR
  rw [e, Pure.cutC_app]
  · simp only
    have e2 : copyB ++ Pure.hex x.p ++ [32] ++ Pure.hex x.q = copyB ++ (Pure.hex x.p ++ 32 :: Pure.hex x.q) := by simp
    have e3 : Lib.hasPrefix (copyB ++ (Pure.hex x.p ++ 32 :: Pure.hex x.q)) extraB = false := rfl
    rw [e2, e3, if_neg (by decide), if_pos (hasP_self _ _), show (5 : Nat) = copyB.length from rfl, List.drop_left]
    unfold twoR
    rw [Pure.cutC_app _ _ _ (fun c hc => (hexL_no _ c hc).2.1)]
    simp only
    unfold unR
    rw [Pure.unhex_hex, Pure.unhex_hex]
    simp only [Option.getD_some]
  · intro d hd
    simp only [List.mem_append, List.mem_singleton] at hd
    rcases hd with ((hd | hd) | rfl) | hd
    · revert d; decide
    · exact (hexL_no _ d hd).1
    · decide
    · exact (hexL_no _ d hd).1
/-- Behind a trailer there stands no line that is taken for one. -/
def StopsT (s : List UInt8) : Prop := s = [] ∨ s.head? = some 10
theorem stops_step {s : List UInt8} (h : StopsT s) : (∀ b, stepG b s = .stop) ∧ stepR s = .stop := by
  rcases h with rfl | h
  · exact ⟨fun b => rfl, rfl⟩
  · cases s with
    | nil => simp at h
    | cons c r =>
      simp at h
      subst h
      have hc : Pure.cutC 10 (10 :: r) = some ([], r) := by unfold Pure.cutC; rw [if_pos rfl]
      refine ⟨fun b => ?_, ?_⟩
      · unfold stepG
        rw [hc]
        simp only
        cases b <;> rfl
      · unfold stepR
        rw [hc]
        rfl
theorem takeG_copies : ∀ (c : List Two) (l cc : List Two) (s : List UInt8), StopsT s → takeG (c.flatMap copyL ++ s).length l cc (c.flatMap copyL ++ s) = some (l, cc ++ c, s)
  | [], l, cc, s, h => by
    rw [List.flatMap_nil, List.nil_append, takeG_step, (stops_step h).1]
    simp
  | x :: r, l, cc, s, h => by
    have e : (x :: r).flatMap copyL ++ s = copyL x ++ (r.flatMap copyL ++ s) := by simp
    rw [e, takeG_step, stepG_copy]
    simp only
    rw [takeG_copies r l (cc ++ [x]) s h]
    simp
theorem takeG_print : ∀ (l ll c : List Two) (s : List UInt8), (∀ x ∈ l, keyP x.p = true) → StopsT s → takeG (trailerP l c ++ s).length ll [] (trailerP l c ++ s) = some (ll ++ l, c, s)
  | [], ll, c, s, hk, h => by
    have e : trailerP [] c ++ s = c.flatMap copyL ++ s := by unfold trailerP; simp
    rw [e, takeG_copies c ll [] s h]
    simp
  | x :: r, ll, c, s, hk, h => by
    have e : trailerP (x :: r) c ++ s = extraL x ++ (trailerP r c ++ s) := by unfold trailerP; simp
    rw [e, takeG_step]
    show (match stepG true (extraL x ++ (trailerP r c ++ s)) with | .stop => _ | .bad => _ | .extra x r => _ | .copy x r => _) = _
    rw [stepG_extra (hk x (by simp))]
    simp only
    rw [takeG_print r (ll ++ [x]) c s (fun y hy => hk y (by simp [hy])) h]
    simp
theorem takeR_copies : ∀ (c : List Two) (l cc : List Two) (s : List UInt8), StopsT s → takeR (c.flatMap copyL ++ s).length l cc (c.flatMap copyL ++ s) = (l, cc ++ c, s)
  | [], l, cc, s, h => by
    rw [List.flatMap_nil, List.nil_append, takeR_step, (stops_step h).2]
    simp
  | x :: r, l, cc, s, h => by
    have e : (x :: r).flatMap copyL ++ s = copyL x ++ (r.flatMap copyL ++ s) := by simp
    rw [e, takeR_step, stepR_copy]
    simp only
    rw [takeR_copies r l (cc ++ [x]) s h]
    simp
theorem takeR_print : ∀ (l ll c : List Two) (s : List UInt8), (∀ x ∈ l, keyP x.p = true) → StopsT s → takeR (trailerP l c ++ s).length ll [] (trailerP l c ++ s) = (ll ++ l, c, s)
  | [], ll, c, s, hk, h => by
    have e : trailerP [] c ++ s = c.flatMap copyL ++ s := by unfold trailerP; simp
    rw [e, takeR_copies c ll [] s h]
    simp
  | x :: r, ll, c, s, hk, h => by
    have e : trailerP (x :: r) c ++ s = extraL x ++ (trailerP r c ++ s) := by unfold trailerP; simp
    rw [e, takeR_step, stepR_extra (hk x (by simp))]
    simp only
    rw [takeR_print r (ll ++ [x]) c s (fun y hy => hk y (by simp [hy])) h]
    simp
theorem beside_keys {l c : List Two} (h : besideP l c = true) : ∀ x ∈ l, keyP x.p = true := by
  unfold besideP extrasP at h
  simp only [Bool.and_eq_true] at h
  exact fun x hx => (oneE_parts (goodW_all _ _ h.1.1 x hx)).1

end Go.Proofs.YtkdmhflcpfekfaaDoor

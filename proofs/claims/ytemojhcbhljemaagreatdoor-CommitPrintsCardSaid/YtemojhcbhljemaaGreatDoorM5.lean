/- Several texts in one: Pure09b, Pure09c, Pure09d. -/
import Derived.Test.YtemojhcbhljemaaGreatDoorCom6
import Derived.Test.YtemojhcbhljemaaGreatDoorM1

/- A record's text, line by line: what a reader finds. No function of the program. -/
namespace Go.Proofs.YtemojhcbhljemaaGreatDoor
set_option linter.unusedVariables false
set_option linter.unusedSimpArgs false
open Go.RowKit

theorem hexDigit_no : ∀ n : Nat, n < 16 → Pure.hexDigit n ≠ 10 := by decide
theorem hex_no : ∀ l : List UInt8, ∀ x ∈ Pure.hex l, x ≠ 10
  | [], x, h => by simp [Pure.hex] at h
  | c :: r, x, h => by
    have hc := c.toNat_lt
    simp only [Pure.hex, List.mem_cons] at h
    rcases h with rfl | rfl | h
    · exact hexDigit_no _ (by omega)
    · exact hexDigit_no _ (by omega)
    · exact hex_no r x h
theorem zoneT_no : ∀ n, n < 841 → ∀ b : Bool, ((Pure.zoneT b n).all fun x => !(x == 10)) = true := by decide +kernel
theorem zoneS_no {z : Int} (h : Pure.zoneIn z) : ∀ x ∈ Pure.zoneS z, x ≠ 10 := by
  intro x hx e
  have := List.all_eq_true.1 (zoneT_no z.natAbs (by unfold Pure.zoneIn at h; omega) (decide (z < 0))) x hx
  rw [e] at this
  exact absurd this (by decide)
theorem print_no {i : Idn} (h : rightN i = true) : ∀ x ∈ printN i, x ≠ 10 := by
  obtain ⟨p1, p2, p3, p4, p5⟩ := right_parts h
  have k1 := called_no p1 10 (by rfl)
  have k2 := called_no p2 10 (by rfl)
  have k3 : ∀ x ∈ Lib.itoa i.when, x ≠ 10 := fun x hx e => by have := Pure.itoa_noblank p3 x hx; rw [e] at this; exact absurd this.1 (by decide)
  have k4 := zoneS_no p5
  intro x hx
  unfold printN Pure.printL at hx
  simp only [List.mem_append, List.mem_cons] at hx
  rcases hx with h | rfl | h | rfl | rfl | h | rfl | h
  · split at h
    · simp at h
    · rcases List.mem_append.1 h with h | h
      · exact k1 x h
      · simp at h; rw [h]; decide
  · decide
  · exact k2 x h
  · decide
  · decide
  · exact k3 x h
  · decide
  · exact k4 x h
/-- Right idents that are printed alike are alike. -/
theorem print_inj {i j : Idn} (hi : rightN i = true) (hj : rightN j = true) (h : printN i = printN j) : i = j := by
  obtain ⟨k1, k2, k3⟩ := parse_pieces hi
  obtain ⟨l1, l2, l3⟩ := parse_pieces hj
  obtain ⟨p1, p2, p3, p4, p5⟩ := right_parts hi
  obtain ⟨q1, q2, q3, q4, q5⟩ := right_parts hj
  rw [h, l1] at k1
  simp only [Prod.mk.injEq] at k1
  obtain ⟨a1, a2, a3⟩ := k1
  rw [← a2, l2] at k2
  simp only [Prod.mk.injEq] at k2
  obtain ⟨a4, a5, a6⟩ := k2
  rw [← a5, l3] at k3
  simp only [Prod.mk.injEq] at k3
  obtain ⟨a7, a8, a9⟩ := k3
  have t1 : Pure.takeN (Lib.itoa i.when) = some i.when := Pure.takeN_itoa (by unfold Pure.In64; omega)
  have t2 : Pure.takeN (Lib.itoa j.when) = some j.when := Pure.takeN_itoa (by unfold Pure.In64; omega)
  rw [← a7, t2] at t1
  have t3 := Pure.zoneF_S p5
  rw [← a8, Pure.zoneF_S q5] at t3
  refine Idn.ext' (ba_ext ?_) (ba_ext a4.symm) (Option.some.inj t1).symm (Option.some.inj t3).symm
  rw [← trim_name _ p1, ← trim_name _ q1, a1]

theorem nextL_at (word v rest : List UInt8) (hw : ∀ x ∈ word, x ≠ 10) (hv : ∀ x ∈ v, x ≠ 10) : nextL word (word ++ v ++ 10 :: rest) = some (v, rest) := by
  unfold nextL
  rw [Pure.cutC_app 10 (word ++ v) rest (fun d hd => (List.mem_append.1 hd).elim (hw d) (hv d))]
  have hp : Lib.hasPrefix (word ++ v) word = true := by simp [Lib.hasPrefix]
  show (if Lib.hasPrefix (word ++ v) word = true then some (Lib.trimPrefix (word ++ v) word, rest) else none) = _
  rw [if_pos hp]
  unfold Lib.trimPrefix
  rw [if_pos hp]
  simp
def comT : List UInt8 := [99, 111, 109, 109, 105, 116, 116, 101, 114, 32]
/-- What stands behind the parents. -/
def tailR (r : Rec) : List UInt8 := auT ++ printN r.au ++ 10 :: (comT ++ printN r.co ++ 10 :: (10 :: r.text.data.toList))
theorem printR_eq (r : Rec) : printR r = treeT ++ Pure.hex r.tree ++ 10 :: (parL r.par ++ tailR r) := by
  unfold printR tailR comT coT
  simp
theorem next_tree (r : Rec) : nextL treeT (printR r) = some (Pure.hex r.tree, parL r.par ++ tailR r) := by
  rw [printR_eq]
  exact nextL_at _ _ _ (by decide) (hex_no _)
theorem next_par (x : List UInt8) (l : List (List UInt8)) (t : List UInt8) : nextL parT (parL (x :: l) ++ t) = some (Pure.hex x, parL l ++ t) := by
  have : parL (x :: l) ++ t = parT ++ Pure.hex x ++ 10 :: (parL l ++ t) := by unfold parL; simp
  rw [this]
  exact nextL_at _ _ _ (by decide) (hex_no _)
theorem next_au {r : Rec} (h : rightN r.au = true) : nextL auT (tailR r) = some (printN r.au, comT ++ printN r.co ++ 10 :: (10 :: r.text.data.toList)) := nextL_at _ _ _ (by decide) (print_no h)
theorem next_co {r : Rec} (h : rightN r.co = true) : nextL comT (comT ++ printN r.co ++ 10 :: (10 :: r.text.data.toList)) = some (printN r.co, 10 :: r.text.data.toList) := nextL_at _ _ _ (by decide) (print_no h)
theorem next_end {r : Rec} (h : rightN r.au = true) : nextL parT (tailR r) = none := by
  unfold nextL tailR
  rw [Pure.cutC_app 10 (auT ++ printN r.au) _ (fun d hd => (List.mem_append.1 hd).elim ((by decide : ∀ x ∈ auT, x ≠ 10) d) (print_no h d))]
  have hp : Lib.hasPrefix (auT ++ printN r.au) parT = false := rfl
  show (if Lib.hasPrefix (auT ++ printN r.au) parT = true then _ else none) = _
  rw [hp]
  rfl

end Go.Proofs.YtemojhcbhljemaaGreatDoor

/- What a reader of a record's text knows at each step. No function of the program. -/
namespace Go.Proofs.YtemojhcbhljemaaGreatDoor
set_option linter.unusedVariables false
set_option linter.unusedSimpArgs false
open Go.RowKit

/-- A record that is printed as b. -/
def GoodR (b : List UInt8) (r : Rec) : Prop := r.tree.length = 20 ∧ (∀ x ∈ r.par, x.length = 20) ∧ rightR r = true ∧ printR r = b
/-- Ahead of a line of a parent. -/
def InA (b tree : List UInt8) (pars : List (List UInt8)) (bad : Bool) (rest : List UInt8) : Prop :=
  ∀ r, GoodR b r → bad = false ∧ tree = r.tree ∧ ∃ l, r.par = pars ++ l ∧ rest = parL l ++ tailR r
/-- Behind such a line. -/
def InL (b tree : List UInt8) (pars : List (List UInt8)) (p : List UInt8) (has bad : Bool) (rest : List UInt8) : Prop :=
  ∀ r, GoodR b r → bad = false ∧ tree = r.tree ∧ ((has = true ∧ ∃ l, r.par = pars ++ p :: l ∧ rest = parL l ++ tailR r) ∨ (has = false ∧ r.par = pars ∧ rest = tailR r))
theorem inA_none {b tree pars p bad rest} (h : InA b tree pars bad rest) (hn : nextL parT rest = none) : InL b tree pars p false bad rest := by
  intro r hr
  obtain ⟨h1, h2, l, h3, h4⟩ := h r hr
  cases l with
  | nil => exact ⟨h1, h2, .inr ⟨rfl, by simpa using h3, h4⟩⟩
  | cons x l => rw [h4, next_par] at hn; cases hn
theorem inA_some {b tree pars bad rest v q p} (h : InA b tree pars bad rest) (hn : nextL parT rest = some (v, q)) (hu : Pure.unhex v = some p) : InL b tree pars p true bad q := by
  intro r hr
  obtain ⟨h1, h2, l, h3, h4⟩ := h r hr
  cases l with
  | nil => rw [h4] at hn; have := next_end (rightR_parts hr.2.2.1).2.1; rw [show parL [] ++ tailR r = tailR r from rfl, this] at hn; cases hn
  | cons x l =>
    rw [h4, next_par] at hn
    cases hn
    rw [Pure.unhex_hex] at hu
    cases hu
    exact ⟨h1, h2, .inl ⟨rfl, l, h3, rfl⟩⟩
theorem inA_bad {b tree pars bad rest v q} (h : InA b tree pars bad rest) (hn : nextL parT rest = some (v, q)) (hu : ∀ l, Pure.unhex v = some l → l.length ≠ 20) : ∀ r, ¬ GoodR b r := by
  intro r hr
  obtain ⟨h1, h2, l, h3, h4⟩ := h r hr
  cases l with
  | nil => rw [h4] at hn; have := next_end (rightR_parts hr.2.2.1).2.1; rw [show parL [] ++ tailR r = tailR r from rfl, this] at hn; cases hn
  | cons x l =>
    rw [h4, next_par] at hn
    cases hn
    exact hu x (Pure.unhex_hex x) (hr.2.1 x (by rw [h3]; simp))
theorem inL_next {b tree pars p bad rest} (h : InL b tree pars p true bad rest) : InA b tree (pars ++ [p]) bad rest := by
  intro r hr
  obtain ⟨h1, h2, ⟨-, l, h3, h4⟩ | ⟨h, -⟩⟩ := h r hr
  · exact ⟨h1, h2, l, by rw [h3]; simp, h4⟩
  · cases h

/-- What a line of an id leaves, in one: the id (or zeros), whether the line was there, whether one was bad by now, what is left. -/
def LineId1 (g : Nat) (word rest : ByteArray) (bad : Bool) (w : World) (e : Ending) (w' : World) : Prop := w.grownBy w' (some g) ∧
  ∃ (t : List UInt8) (is bad' : Bool) (q : ByteArray), t.length = 20 ∧ e = .returned (.tuple #[idV t, .bool is]) ∧ LinesAt g w' q bad' ∧ q.size ≤ rest.size ∧ (is = true → q.size < rest.size) ∧
    ((is = false ∧ nextL word.data.toList rest.data.toList = none ∧ q = rest ∧ bad' = bad) ∨
     ∃ v, is = true ∧ nextL word.data.toList rest.data.toList = some (v, q.data.toList) ∧ ((Pure.unhex v = some t ∧ bad' = bad) ∨ ((∀ l, Pure.unhex v = some l → l.length ≠ 20) ∧ bad' = true)))
theorem lineId1 {g word rest bad w e w'} (h : LineIdPost g word rest bad w e w') : LineId1 g word rest bad w e w' := by
  obtain ⟨h1, ⟨hn, rfl, hl⟩ | ⟨v, r, hn, hz, ⟨l, hu, h20, rfl, hl⟩ | ⟨hu, rfl, hl⟩⟩⟩ := h
  · exact ⟨h1, zeros20, false, bad, rest, rfl, rfl, hl, Nat.le_refl _, (by simp), .inl ⟨rfl, hn, rfl, rfl⟩⟩
  · exact ⟨h1, l, true, bad, r, h20, rfl, hl, by omega, fun _ => by omega, .inr ⟨_, rfl, hn, .inl ⟨hu, rfl⟩⟩⟩
  · exact ⟨h1, zeros20, true, true, r, rfl, rfl, hl, by omega, fun _ => by omega, .inr ⟨_, rfl, hn, .inr ⟨hu, rfl⟩⟩⟩

end Go.Proofs.YtemojhcbhljemaaGreatDoor

/- What a reader of a record's text knows behind the idents, and at its end. No function of the program. -/
namespace Go.Proofs.YtemojhcbhljemaaGreatDoor
set_option linter.unusedVariables false
set_option linter.unusedSimpArgs false
open Go.RowKit

/-- What a line of an ident tells. -/
def WhoD (word rest : List UInt8) (bad : Bool) (i : Idn) (bad' : Bool) (q : List UInt8) : Prop :=
  (nextL word rest = none ∧ bad' = true) ∨ ∃ v, nextL word rest = some (v, q) ∧ ((rightN i = true ∧ printN i = v ∧ bad' = bad) ∨ ((∀ j : Idn, rightN j = true → printN j ≠ v) ∧ bad' = true))
/-- What who leaves, in one. -/
def Who1 (g : Nat) (word rest : ByteArray) (bad : Bool) (w : World) (e : Ending) (w' : World) : Prop := w.grownBy w' (some g) ∧
  ∃ (i : Idn) (bad' : Bool) (q : ByteArray), (rightN i = true ∨ i = zeroN) ∧ e = .returned (.agg i.cells.toArray) ∧ LinesAt g w' q bad' ∧ q.size ≤ rest.size ∧ WhoD word.data.toList rest.data.toList bad i bad' q.data.toList
theorem who1 {g word rest bad w e w'} (h : WhoPost g word rest bad w e w') : Who1 g word rest bad w e w' := by
  obtain ⟨h1, i, hi, he, ⟨hn, hl⟩ | ⟨v, r, hn, hs, ⟨hr, hp, hl⟩ | ⟨hu, hl⟩⟩⟩ := h
  · exact ⟨h1, i, true, rest, hi, he, hl, Nat.le_refl _, .inl ⟨hn, rfl⟩⟩
  · exact ⟨h1, i, bad, r, hi, he, hl, by omega, .inr ⟨_, hn, .inl ⟨hr, hp, rfl⟩⟩⟩
  · exact ⟨h1, i, true, r, hi, he, hl, by omega, .inr ⟨_, hn, .inr ⟨hu, rfl⟩⟩⟩
/-- Behind the author. -/
def InW1 (b t : List UInt8) (l : List (List UInt8)) (i : Idn) (bad : Bool) (rest : List UInt8) : Prop :=
  ∀ r, GoodR b r → bad = false ∧ t = r.tree ∧ r.par = l ∧ i = r.au ∧ rest = comT ++ printN r.co ++ 10 :: (10 :: r.text.data.toList)
/-- Behind the committer. -/
def InW2 (b t : List UInt8) (l : List (List UInt8)) (i j : Idn) (bad : Bool) (rest : List UInt8) : Prop :=
  ∀ r, GoodR b r → bad = false ∧ t = r.tree ∧ r.par = l ∧ i = r.au ∧ j = r.co ∧ rest = 10 :: r.text.data.toList
theorem whoD_at {word rest v q' : List UInt8} {bad : Bool} {i k : Idn} {bad' : Bool} {q : List UInt8} (h : WhoD word rest bad i bad' q) (hn : nextL word rest = some (printN k, q')) (hk : rightN k = true) : bad' = bad ∧ i = k ∧ q = q' := by
  rcases h with ⟨h, -⟩ | ⟨v, h, ⟨h1, h2, h3⟩ | ⟨h1, h2⟩⟩
  · rw [hn] at h; cases h
  · rw [hn] at h
    cases h
    exact ⟨h3, print_inj h1 hk h2, rfl⟩
  · rw [hn] at h
    cases h
    exact absurd rfl (h1 k hk)
theorem inW1 {b t l p bad rest i bad' q} (h : InL b t l p false bad rest) (hw : WhoD auT rest bad i bad' q) : InW1 b t l i bad' q := by
  intro r hr
  obtain ⟨h1, h2, ⟨hc, -⟩ | ⟨-, h3, h4⟩⟩ := h r hr
  · cases hc
  · have ha := (rightR_parts hr.2.2.1).2.1
    obtain ⟨k1, k2, k3⟩ := whoD_at (v := []) hw (by rw [h4]; exact next_au ha) ha
    exact ⟨k1.trans h1, h2, h3, k2, k3⟩
theorem inW2 {b t l i bad rest j bad' q} (h : InW1 b t l i bad rest) (hw : WhoD comT rest bad j bad' q) : InW2 b t l i j bad' q := by
  intro r hr
  obtain ⟨h1, h2, h3, h4, h5⟩ := h r hr
  have ha := (rightR_parts hr.2.2.1).2.2.1
  obtain ⟨k1, k2, k3⟩ := whoD_at (v := []) hw (by rw [h5]; exact next_co ha) ha
  exact ⟨k1.trans h1, h2, h3, h4, k2, k3⟩
theorem zeroN_short : zeroN.name.size = 0 ∧ zeroN.email.size = 0 := ⟨rfl, rfl⟩
theorem right_short {i : Idn} (h : rightN i = true ∨ i = zeroN) : i.name.size ≤ 1099511627776 ∧ i.email.size ≤ 1099511627776 := by
  rcases h with h | rfl
  · obtain ⟨p1, p2, -⟩ := right_parts h
    have l1 := called_len p1
    have l2 := called_len p2
    rw [Lib.size_eq, Lib.size_eq]
    omega
  · exact ⟨by decide, by decide⟩
theorem rec_eq {r : Rec} {t l i j x} (h1 : t = r.tree) (h2 : r.par = l) (h3 : i = r.au) (h4 : j = r.co) (h5 : r.text = x) : r = ⟨t, l, i, j, x⟩ := by
  obtain ⟨a, b, c, d, e⟩ := r
  simp only at *
  subst h1 h2 h3 h4 h5
  rfl
/-- At the end: what is read off is the record, if there is one. -/
theorem inEnd {b t l i j bad rest x} (h : InW2 b t l i j bad rest) (hx : ∀ r : Rec, rest = 10 :: r.text.data.toList → r.text = x) : ∀ r, GoodR b r → bad = false ∧ r = ⟨t, l, i, j, x⟩ ∧ ∃ q, rest = 10 :: q := by
  intro r hr
  obtain ⟨h1, h2, h3, h4, h5, h6⟩ := h r hr
  exact ⟨h1, rec_eq h2 h3 h4 h5 (hx r h6), _, h6⟩

/-- What a line of an id tells. -/
def LineD (word rest : List UInt8) (bad : Bool) (t : List UInt8) (is bad' : Bool) (q : List UInt8) : Prop :=
  (is = false ∧ nextL word rest = none ∧ q = rest ∧ bad' = bad) ∨
    ∃ v, is = true ∧ nextL word rest = some (v, q) ∧ ((Pure.unhex v = some t ∧ bad' = bad) ∨ ((∀ l, Pure.unhex v = some l → l.length ≠ 20) ∧ bad' = true))
theorem inA_start {b t is bad q} (h : LineD treeT b false t is bad q) : (∀ r, GoodR b r → is = true) ∧ InA b t [] bad q := by
  have key : ∀ r, GoodR b r → is = true ∧ bad = false ∧ t = r.tree ∧ q = parL r.par ++ tailR r := by
    intro r hr
    have hn := next_tree r
    rw [hr.2.2.2] at hn
    rcases h with ⟨-, h, -⟩ | ⟨v, h1, h2, ⟨h3, h4⟩ | ⟨h3, -⟩⟩
    · rw [hn] at h; cases h
    · rw [hn] at h2
      cases h2
      rw [Pure.unhex_hex] at h3
      cases h3
      exact ⟨h1, h4, rfl, rfl⟩
    · rw [hn] at h2
      cases h2
      exact absurd hr.1 (h3 _ (Pure.unhex_hex _))
  exact ⟨fun r hr => (key r hr).1, fun r hr => ⟨(key r hr).2.1, (key r hr).2.2.1, r.par, rfl, (key r hr).2.2.2⟩⟩
theorem inL_of {b t l bad rest p has bad' q} (h : InA b t l bad rest) (hd : LineD parT rest bad p has bad' q) : InL b t l p has bad' q := by
  rcases hd with ⟨rfl, hn, rfl, rfl⟩ | ⟨v, rfl, hn, ⟨hu, rfl⟩ | ⟨hu, -⟩⟩
  · exact inA_none h hn
  · exact inA_some h hn hu
  · exact fun r hr => absurd hr (inA_bad h hn hu r)
theorem lineD_of {word rest : ByteArray} {bad : Bool} {t : List UInt8} {is bad' : Bool} {q : ByteArray}
    (h : (is = false ∧ nextL word.data.toList rest.data.toList = none ∧ q = rest ∧ bad' = bad) ∨
     ∃ v, is = true ∧ nextL word.data.toList rest.data.toList = some (v, q.data.toList) ∧ ((Pure.unhex v = some t ∧ bad' = bad) ∨ ((∀ l, Pure.unhex v = some l → l.length ≠ 20) ∧ bad' = true))) :
    LineD word.data.toList rest.data.toList bad t is bad' q.data.toList := by
  rcases h with ⟨h1, h2, rfl, h4⟩ | h
  · exact .inl ⟨h1, h2, rfl, h4⟩
  · exact .inr h

end Go.Proofs.YtemojhcbhljemaaGreatDoor

/- Texts that are nearly a record's. No function of the program. -/
import Derived.Test.YtemojhcbhljemaaDoorM5
namespace Go.Proofs.YtemojhcbhljemaaDoor
set_option linter.unusedVariables false
set_option linter.unusedSimpArgs false
open Go.RowKit

abbrev lT : List UInt8 := [116, 114, 101, 101, 32, 48, 49, 48, 48, 48, 48, 48, 48, 48, 48, 48, 48, 48, 48, 48, 48, 48, 48, 48, 48, 48, 48, 48, 48, 48, 48, 48, 48, 48, 48, 48, 48, 48, 48, 48, 48, 48, 48, 48, 48]
abbrev lP : List UInt8 := [112, 97, 114, 101, 110, 116, 32, 48, 50, 48, 48, 48, 48, 48, 48, 48, 48, 48, 48, 48, 48, 48, 48, 48, 48, 48, 48, 48, 48, 48, 48, 48, 48, 48, 48, 48, 48, 48, 48, 48, 48, 48, 48, 48, 48, 48, 48]
abbrev lA : List UInt8 := [97, 117, 116, 104, 111, 114, 32, 65, 32, 60, 97, 62, 32, 53, 32, 43, 48, 48, 48, 48]
abbrev lC : List UInt8 := [99, 111, 109, 109, 105, 116, 116, 101, 114, 32, 66, 32, 60, 98, 62, 32, 54, 32, 45, 48, 49, 48, 48]
abbrev lE : List UInt8 := [101, 110, 99, 111, 100, 105, 110, 103, 32, 117, 116, 102, 45, 56]
abbrev lG : List UInt8 := [103, 112, 103, 115, 105, 103, 32, 120]

theorem nextL_line (word l rest : List UInt8) (hl : ∀ x ∈ l, x ≠ 10) : nextL word (l ++ 10 :: rest) = if Lib.hasPrefix l word then some (Lib.trimPrefix l word, rest) else none := by
  unfold nextL
  rw [Pure.cutC_app 10 l rest hl]
theorem step_tree {b rest : List UInt8} {r : Rec} (h : GoodR b r) {l : List UInt8} (hl : ∀ x ∈ l, x ≠ 10) (hp : Lib.hasPrefix l treeT = true) (hb : b = l ++ 10 :: rest) : rest = parL r.par ++ tailR r := by
  have h1 := next_tree r
  rw [h.2.2.2, hb, nextL_line _ _ _ hl, if_pos hp] at h1
  simp only [Option.some.injEq, Prod.mk.injEq] at h1
  exact h1.2
theorem no_tree {b rest : List UInt8} {l : List UInt8} (hl : ∀ x ∈ l, x ≠ 10) (hp : Lib.hasPrefix l treeT = false) (hb : b = l ++ 10 :: rest) (r : Rec) : ¬ GoodR b r := by
  intro h
  have h1 := next_tree r
  rw [h.2.2.2, hb, nextL_line _ _ _ hl, if_neg (by rw [hp]; decide)] at h1
  cases h1
theorem step_par {r : Rec} {ps : List (List UInt8)} {rest l : List UInt8} (hl : ∀ x ∈ l, x ≠ 10) (hp : Lib.hasPrefix l parT = true) (ha : rightN r.au = true) (h : l ++ 10 :: rest = parL ps ++ tailR r) : ∃ x qs, ps = x :: qs ∧ rest = parL qs ++ tailR r ∧ Lib.trimPrefix l parT = Pure.hex x := by
  have h1 := nextL_line parT l rest hl
  rw [if_pos hp, h] at h1
  cases ps with
  | nil => rw [show parL [] ++ tailR r = tailR r from rfl, next_end ha] at h1; cases h1
  | cons x qs =>
    rw [next_par] at h1
    simp only [Option.some.injEq, Prod.mk.injEq] at h1
    exact ⟨x, qs, rfl, h1.2.symm, h1.1.symm⟩
theorem no_par {r : Rec} {ps : List (List UInt8)} {rest l : List UInt8} (hl : ∀ x ∈ l, x ≠ 10) (hp : Lib.hasPrefix l parT = false) (h : l ++ 10 :: rest = parL ps ++ tailR r) : l ++ 10 :: rest = tailR r ∧ ps = [] := by
  cases ps with
  | nil => exact ⟨h, rfl⟩
  | cons x qs =>
    have h1 := nextL_line parT l rest hl
    rw [if_neg (by rw [hp]; decide), h, next_par] at h1
    cases h1
theorem step_au {r : Rec} {rest l : List UInt8} (hl : ∀ x ∈ l, x ≠ 10) (ha : rightN r.au = true) (h : l ++ 10 :: rest = tailR r) : Lib.hasPrefix l auT = true ∧ rest = comT ++ printN r.co ++ 10 :: (10 :: r.text.data.toList) := by
  have h1 := nextL_line auT l rest hl
  rw [h, next_au ha] at h1
  split at h1
  · next hp => simp only [Option.some.injEq, Prod.mk.injEq] at h1; exact ⟨hp, h1.2.symm⟩
  · cases h1
theorem step_co {r : Rec} {rest l : List UInt8} (hl : ∀ x ∈ l, x ≠ 10) (hc : rightN r.co = true) (h : l ++ 10 :: rest = comT ++ printN r.co ++ 10 :: (10 :: r.text.data.toList)) : Lib.hasPrefix l comT = true ∧ rest = 10 :: r.text.data.toList := by
  have h1 := nextL_line comT l rest hl
  rw [h, next_co hc] at h1
  split at h1
  · next hp => simp only [Option.some.injEq, Prod.mk.injEq] at h1; exact ⟨hp, h1.2.symm⟩
  · cases h1

theorem nT : ∀ x ∈ lT, x ≠ 10 := by decide
theorem nP : ∀ x ∈ lP, x ≠ 10 := by decide
theorem nA : ∀ x ∈ lA, x ≠ 10 := by decide
theorem nC : ∀ x ∈ lC, x ≠ 10 := by decide
theorem nE : ∀ x ∈ lE, x ≠ 10 := by decide
theorem nG : ∀ x ∈ lG, x ≠ 10 := by decide

/-- The nine texts. -/
def badL (t : List UInt8) : Nat → List UInt8
  | 0 => lP ++ 10 :: (lT ++ 10 :: (lA ++ 10 :: (lC ++ 10 :: (10 :: t))))
  | 1 => lT ++ 10 :: (lP ++ 10 :: (lC ++ 10 :: (lA ++ 10 :: (10 :: t))))
  | 2 => lT ++ 10 :: (lP ++ 10 :: (lA ++ 10 :: (lC ++ 10 :: (lG ++ 10 :: (10 :: t)))))
  | 3 => lT ++ 10 :: (lT ++ 10 :: (lA ++ 10 :: (lC ++ 10 :: (10 :: t))))
  | 4 => lT ++ 10 :: (lP ++ 10 :: (lP ++ 10 :: (lA ++ 10 :: (lC ++ 10 :: (10 :: t)))))
  | 5 => lT ++ 10 :: (lP ++ 10 :: (lA ++ 10 :: (lA ++ 10 :: (lC ++ 10 :: (10 :: t)))))
  | 6 => lT ++ 10 :: (lP ++ 10 :: (lA ++ 10 :: (lC ++ 10 :: [])))
  | 7 => lT ++ 10 :: (lP ++ 10 :: (lA ++ 10 :: ([] ++ 10 :: t)))
  | _ => lT ++ 10 :: (lE ++ 10 :: (lA ++ 10 :: (lC ++ 10 :: (10 :: t))))
theorem bad_none (t : List UInt8) : ∀ K, K < 9 → ∀ r, ¬ GoodR (badL t K) r := by
  intro K hK r h
  have ha := (rightR_parts h.2.2.1).2.1
  have hc := (rightR_parts h.2.2.1).2.2.1
  match K, hK with
  | 0, _ => exact no_tree nP (by decide +kernel) rfl r h
  | 1, _ =>
    have h1 := step_tree h nT (by decide +kernel) rfl
    obtain ⟨x, qs, -, h2, -⟩ := step_par nP (by decide +kernel) ha h1
    obtain ⟨h3, -⟩ := no_par nC (by decide +kernel) h2
    obtain ⟨h4, -⟩ := step_au nC ha h3
    exact absurd h4 (by decide +kernel)
  | 2, _ =>
    have h1 := step_tree h nT (by decide +kernel) rfl
    obtain ⟨x, qs, -, h2, -⟩ := step_par nP (by decide +kernel) ha h1
    obtain ⟨h3, -⟩ := no_par nA (by decide +kernel) h2
    obtain ⟨-, h4⟩ := step_au nA ha h3
    obtain ⟨-, h5⟩ := step_co nC hc h4
    simp at h5
  | 3, _ =>
    have h1 := step_tree h nT (by decide +kernel) rfl
    obtain ⟨h3, -⟩ := no_par nT (by decide +kernel) h1
    obtain ⟨h4, -⟩ := step_au nT ha h3
    exact absurd h4 (by decide +kernel)
  | 4, _ =>
    have h1 := step_tree h nT (by decide +kernel) rfl
    obtain ⟨x, qs, e1, h2, e2⟩ := step_par nP (by decide +kernel) ha h1
    obtain ⟨y, rs, e3, h3, e4⟩ := step_par nP (by decide +kernel) ha h2
    have hxy : x = y := by have := congrArg Pure.unhex (e2.symm.trans e4); rw [Pure.unhex_hex, Pure.unhex_hex] at this; exact Option.some.inj this
    have hp : parOk [] r.par = true := by have := h.2.2.1; unfold rightR at this; rw [Bool.and_eq_true] at this; exact this.1
    rw [e1, e3, hxy] at hp
    simp [parOk] at hp
  | 5, _ =>
    have h1 := step_tree h nT (by decide +kernel) rfl
    obtain ⟨x, qs, -, h2, -⟩ := step_par nP (by decide +kernel) ha h1
    obtain ⟨h3, -⟩ := no_par nA (by decide +kernel) h2
    obtain ⟨-, h4⟩ := step_au nA ha h3
    obtain ⟨h5, -⟩ := step_co nA hc h4
    exact absurd h5 (by decide +kernel)
  | 6, _ =>
    have h1 := step_tree h nT (by decide +kernel) rfl
    obtain ⟨x, qs, -, h2, -⟩ := step_par nP (by decide +kernel) ha h1
    obtain ⟨h3, -⟩ := no_par nA (by decide +kernel) h2
    obtain ⟨-, h4⟩ := step_au nA ha h3
    obtain ⟨-, h5⟩ := step_co nC hc h4
    cases h5
  | 7, _ =>
    have h1 := step_tree h nT (by decide +kernel) rfl
    obtain ⟨x, qs, -, h2, -⟩ := step_par nP (by decide +kernel) ha h1
    obtain ⟨h3, -⟩ := no_par nA (by decide +kernel) h2
    obtain ⟨-, h4⟩ := step_au nA ha h3
    obtain ⟨h5, -⟩ := step_co (l := []) (by simp) hc h4
    exact absurd h5 (by decide +kernel)
  | 8, _ =>
    have h1 := step_tree h nT (by decide +kernel) rfl
    obtain ⟨h3, -⟩ := no_par nE (by decide +kernel) h1
    obtain ⟨h4, -⟩ := step_au nE ha h3
    exact absurd h4 (by decide +kernel)
/-- The good one. -/
def goodRec (t : ByteArray) : Rec := ⟨1 :: List.replicate 19 0, [2 :: List.replicate 19 0], ⟨⟨#[65]⟩, ⟨#[97]⟩, 5, 0⟩, ⟨⟨#[66]⟩, ⟨#[98]⟩, 6, -60⟩, t⟩
def goodL (t : List UInt8) : List UInt8 := lT ++ 10 :: (lP ++ 10 :: (lA ++ 10 :: (lC ++ 10 :: (10 :: t))))
theorem good_head : treeT ++ Pure.hex (1 :: List.replicate 19 0) ++ [10] ++ parL [2 :: List.replicate 19 0] ++ (auT ++ printN ⟨⟨#[65]⟩, ⟨#[97]⟩, 5, 0⟩ ++ coT ++ printN ⟨⟨#[66]⟩, ⟨#[98]⟩, 6, -60⟩ ++ [10, 10]) = lT ++ 10 :: (lP ++ 10 :: (lA ++ 10 :: (lC ++ 10 :: [10]))) := by decide +kernel
theorem good_right (t : ByteArray) (h : t.size ≤ 500) (h0 : Lib.contains t.data.toList [0] = false) : rightR (goodRec t) = true := by
  have e1 : parOk [] (goodRec t).par = true := by show parOk [] [2 :: List.replicate 19 0] = true; decide +kernel
  have e2 : rightN (goodRec t).au = true := by show rightN ⟨⟨#[65]⟩, ⟨#[97]⟩, 5, 0⟩ = true; decide +kernel
  have e3 : rightN (goodRec t).co = true := by show rightN ⟨⟨#[66]⟩, ⟨#[98]⟩, 6, -60⟩ = true; decide +kernel
  have e4 : ((goodRec t).tree == zeros20) = false := by show ((1 :: List.replicate 19 0 : List UInt8) == zeros20) = false; decide +kernel
  have e5 : decide ((goodRec t).par.length ≤ 16) = true := by show decide (([2 :: List.replicate 19 0] : List (List UInt8)).length ≤ 16) = true; decide
  have e6 : decide ((goodRec t).text.size ≤ 32768) = true := decide_eq_true (by show t.size ≤ _; omega)
  unfold rightR rightRest
  rw [e1, e2, e3, e4, e5, e6]
  show (true && (!false && true && true && true && !(Lib.contains t.data.toList [0]) && true)) = true
  rw [h0]
  rfl
theorem good_text (t : ByteArray) (h : t.size ≤ 500) (h0 : Lib.contains t.data.toList [0] = false) : GoodR (goodL t.data.toList) (goodRec t) := by
  refine ⟨rfl, ?_, good_right t h h0, ?_⟩
  · intro x hx
    have : x = 2 :: List.replicate 19 0 := by simpa [goodRec] using hx
    rw [this]; rfl
  · have := congrArg (· ++ t.data.toList) good_head
    simp only [List.append_assoc, List.cons_append, List.nil_append] at this
    unfold printR goodL
    simp only [List.append_assoc, List.cons_append, List.nil_append]
    exact this

end Go.Proofs.YtemojhcbhljemaaDoor

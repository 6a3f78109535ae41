/- Files as lists: which may be a tree's, or a manifest's; how they are printed; which files a text is. No function of the program. -/
import Derived.Test.YtgjnnoamhmmcnaaDoorM1
import Derived.Test.YtgjnnoamhmmcnaaDoorPure08
import Derived.Lib.Strings
import Derived.Lib.IndexLaws
namespace Go.Proofs.YtgjnnoamhmmcnaaDoor
set_option linter.unusedVariables false
set_option linter.unusedSimpArgs false
open Go.RowKit

/-- A file's path, as bytes. -/
abbrev Fil.p (f : Fil) : List UInt8 := f.path.data.toList
/-- A flag. -/
def flagF (m : Int) : List UInt8 := if m = 2 then [120] else if m = 3 then [108] else []
theorem flagF_len (m : Int) : (flagF m).length ≤ 1 := by unfold flagF; split; decide; split <;> decide
/-- A file as bytes. -/
def lineF (f : Fil) : List UInt8 := f.p ++ [0] ++ Pure.hex f.id ++ flagF f.mode ++ [10]
/-- Files as bytes. -/
def printF (l : List Fil) : List UInt8 := l.flatMap lineF
theorem printF_next {l : List Fil} {k : Nat} {x : Fil} (h : l[k]? = some x) : printF (l.take (k + 1)) = printF (l.take k) ++ lineF x := by
  unfold printF
  rw [List.take_add_one, h, List.flatMap_append]
  simp
/-- May a file be, by itself? -/
def oneF (f : Fil) : Bool := Pure.pathP f.p && decide (1 ≤ f.mode ∧ f.mode ≤ 3) && !(f.id == zeros20)
def lessF (a b : Fil) : Bool := Op.bytesLess a.p b.p
/-- Are files right, one by one, behind one? -/
def goodF : Option Fil → List Fil → Bool
  | _, [] => true
  | prev, x :: r => oneF x && (match prev with | none => true | some p => lessF p x) && goodF (some x) r
/-- Does b lie in a folder that is called as a? -/
def underF (a b : Fil) : Bool := Lib.hasPrefix b.p (a.p ++ [47])
/-- Is there a file that lies in one that stands ahead of it? -/
def clashF : List Fil → List Fil → Bool
  | _, [] => false
  | seen, x :: r => seen.any (fun y => underF y x) || clashF (seen ++ [x]) r
/-- Which files may be a tree's. -/
def rightF (l : List Fil) : Bool := goodF none l && !clashF [] l && decide (l.length ≤ 500)
/-- Which may be a manifest's. -/
def rightM (l : List Fil) : Bool := l.all (fun f => !f.p.contains 10) && rightF l

theorem goodF_cons (p : Option Fil) (x : Fil) (r : List Fil) : goodF p (x :: r) = (oneF x && (match p with | none => true | some p => lessF p x) && goodF (some x) r) := by
  cases p <;> rfl
def prevF (l : List Fil) (k : Nat) : Option Fil := if k = 0 then none else l[k - 1]?
theorem prevF_next {l : List Fil} {k : Nat} {x : Fil} (h : l[k]? = some x) : prevF l (k + 1) = some x := by
  unfold prevF
  rw [if_neg (by omega), Nat.add_sub_cancel, h]
theorem goodF_step {l : List Fil} {k : Nat} {x : Fil} (h : l[k]? = some x) : goodF (prevF l k) (l.drop k) = (oneF x && (match prevF l k with | none => true | some p => lessF p x) && goodF (prevF l (k + 1)) (l.drop (k + 1))) := by
  have hk := (List.getElem?_eq_some_iff.1 h).1
  rw [List.drop_eq_getElem_cons hk, (List.getElem?_eq_some_iff.1 h).2, goodF_cons, prevF_next h]
theorem goodF_all : ∀ (l : List Fil) (p : Option Fil), goodF p l = true → ∀ x ∈ l, oneF x = true
  | [], _, _ => by simp
  | y :: r, p, h => by
    rw [goodF_cons] at h
    simp only [Bool.and_eq_true] at h
    intro x hx
    rcases List.mem_cons.1 hx with rfl | hx
    · exact h.1.1
    · exact goodF_all r _ h.2 x hx
theorem oneF_parts {x : Fil} (h : oneF x = true) : Pure.pathP x.p = true ∧ (1 ≤ x.mode ∧ x.mode ≤ 3) ∧ (x.id == zeros20) = false := by
  unfold oneF at h
  simp only [Bool.and_eq_true, decide_eq_true_eq, Bool.not_eq_true'] at h
  exact ⟨h.1.1, h.1.2, h.2⟩
theorem path_len {l : List UInt8} (h : Pure.pathP l = true) : l.length ≤ 400 := by
  unfold Pure.pathP at h
  simp only [Bool.and_eq_true, decide_eq_true_eq] at h
  exact h.1.1.1.1
theorem path_zero {l : List UInt8} (h : Pure.pathP l = true) : ∀ c ∈ l, c ≠ 0 := by
  unfold Pure.pathP at h
  simp only [Bool.and_eq_true, Bool.not_eq_true'] at h
  have h2 := h.1.1.1.2
  rw [Pure.contains_one] at h2
  intro c hc e
  subst e
  have : l.contains 0 = true := by simpa using hc
  rw [this] at h2
  cases h2

/-- The folders of a path, behind what stands ahead. -/
def foldA : List UInt8 → List UInt8 → List (List UInt8)
  | _, [] => []
  | pre, c :: r => if c = 47 then pre :: foldA (pre ++ [c]) r else foldA (pre ++ [c]) r
theorem mem_foldA (d : List UInt8) : ∀ (l pre : List UInt8), d ∈ foldA pre l ↔ ∃ a b, l = a ++ 47 :: b ∧ d = pre ++ a
  | [], pre => by simp [foldA]
  | c :: r, pre => by
    have ih := mem_foldA d r (pre ++ [c])
    unfold foldA
    by_cases h : c = 47
    · rw [if_pos h, List.mem_cons, ih]
      subst h
      constructor
      · rintro (rfl | ⟨a, b, rfl, rfl⟩)
        · exact ⟨[], r, rfl, by simp⟩
        · exact ⟨47 :: a, b, rfl, by simp⟩
      · rintro ⟨a, b, e, rfl⟩
        cases a with
        | nil => left; simp
        | cons y a =>
          simp only [List.cons_append, List.cons.injEq] at e
          obtain ⟨rfl, e⟩ := e
          exact .inr ⟨a, b, e, by simp⟩
    · rw [if_neg h, ih]
      constructor
      · rintro ⟨a, b, rfl, rfl⟩
        exact ⟨c :: a, b, rfl, by simp⟩
      · rintro ⟨a, b, e, rfl⟩
        cases a with
        | nil => simp only [List.nil_append, List.cons.injEq] at e; exact absurd e.1 h
        | cons y a =>
          simp only [List.cons_append, List.cons.injEq] at e
          obtain ⟨rfl, e⟩ := e
          exact ⟨a, b, e, by simp⟩
theorem foldA_len : ∀ (l pre : List UInt8), (foldA pre l).length ≤ l.length
  | [], pre => by simp [foldA]
  | c :: r, pre => by
    have := foldA_len r (pre ++ [c])
    unfold foldA
    split
    · simp only [List.length_cons]; omega
    · simp only [List.length_cons]; omega
theorem hasP_iff (l p : List UInt8) : Lib.hasPrefix l p = true ↔ ∃ r, l = p ++ r := by
  unfold Lib.hasPrefix
  rw [List.isPrefixOf_iff_prefix]
  constructor
  · rintro ⟨r, h⟩; exact ⟨r, h.symm⟩
  · rintro ⟨r, rfl⟩; exact ⟨r, rfl⟩
theorem mem_fold {d p : List UInt8} : d ∈ foldA [] p ↔ Lib.hasPrefix p (d ++ [47]) = true := by
  rw [mem_foldA, hasP_iff]
  constructor
  · rintro ⟨a, b, rfl, rfl⟩; exact ⟨b, by simp⟩
  · rintro ⟨r, rfl⟩; exact ⟨d, r, by simp, by simp⟩
/-- Is one of a file's folders among the files? -/
def foundF (l : List Fil) (f : Fil) : Bool := (foldA [] f.p).any fun d => (l.map Fil.p).contains d

theorem lessB_trans : ∀ a b c : List UInt8, Op.bytesLess a b = true → Op.bytesLess b c = true → Op.bytesLess a c = true
  | _, [], _ => by intro h; unfold Op.bytesLess at h; simp at h
  | _, b :: q, [] => by intro _ h; unfold Op.bytesLess at h; simp at h
  | [], b :: q, c :: r => by intro _ _; rfl
  | a :: p, b :: q, c :: r => by
    have ih := lessB_trans p q r
    rw [Pure.less_cons, Pure.less_cons, Pure.less_cons]
    simp only [Bool.or_eq_true, decide_eq_true_eq, Bool.and_eq_true, beq_iff_eq, UInt8.lt_iff_toNat_lt]
    rintro (h | ⟨rfl, h⟩) (k | ⟨rfl, k⟩)
    · exact .inl (by omega)
    · exact .inl h
    · exact .inl k
    · exact .inr ⟨rfl, ih h k⟩
theorem less_pre : ∀ (a : List UInt8) (c : UInt8) (b : List UInt8), Op.bytesLess a (a ++ c :: b) = true
  | [], c, b => rfl
  | x :: a, c, b => by
    rw [List.cons_append, Pure.less_cons, less_pre a c b]
    simp
theorem goodF_pair : ∀ (l : List Fil) (p : Option Fil), goodF p l = true → l.Pairwise (fun a b => lessF a b = true) ∧ ∀ q, p = some q → ∀ x ∈ l, lessF q x = true
  | [], _, _ => ⟨List.Pairwise.nil, by simp⟩
  | x :: r, p, h => by
    rw [goodF_cons] at h
    simp only [Bool.and_eq_true] at h
    obtain ⟨h1, h2⟩ := goodF_pair r (some x) h.2
    refine ⟨List.pairwise_cons.2 ⟨fun y hy => h2 x rfl y hy, h1⟩, ?_⟩
    rintro q rfl y hy
    rcases List.mem_cons.1 hy with rfl | hy
    · exact h.1.2
    · exact lessB_trans _ _ _ h.1.2 (h2 x rfl y hy)
theorem clash_iff : ∀ (r seen : List Fil), clashF seen r = true ↔ ∃ a x b, r = a ++ x :: b ∧ ∃ y ∈ seen ++ a, underF y x = true
  | [], seen => by simp [clashF]
  | z :: r, seen => by
    have ih := clash_iff r (seen ++ [z])
    unfold clashF
    rw [Bool.or_eq_true, ih, List.any_eq_true]
    constructor
    · rintro (⟨y, hy, h⟩ | ⟨a, x, b, rfl, y, hy, h⟩)
      · exact ⟨[], z, r, rfl, y, by simpa using hy, h⟩
      · exact ⟨z :: a, x, b, rfl, y, by simpa using hy, h⟩
    · rintro ⟨a, x, b, e, y, hy, h⟩
      cases a with
      | nil =>
        simp only [List.nil_append, List.cons.injEq] at e
        obtain ⟨rfl, rfl⟩ := e
        exact .inl ⟨y, by simpa using hy, h⟩
      | cons c a =>
        simp only [List.cons_append, List.cons.injEq] at e
        obtain ⟨rfl, rfl⟩ := e
        exact .inr ⟨a, x, b, rfl, y, by simpa using hy, h⟩
theorem under_less {y x : Fil} (h : underF y x = true) : lessF y x = true := by
  obtain ⟨r, hr⟩ := (hasP_iff _ _).1 h
  unfold lessF
  rw [hr, List.append_assoc]
  exact less_pre _ _ _
theorem clash_found {l : List Fil} (hg : goodF none l = true) : clashF [] l = l.any (foundF l) := by
  have hp := (goodF_pair l none hg).1
  rw [Bool.eq_iff_iff, clash_iff, List.any_eq_true]
  constructor
  · rintro ⟨a, x, b, e, y, hy, h⟩
    refine ⟨x, by rw [e]; simp, ?_⟩
    unfold foundF
    rw [List.any_eq_true]
    refine ⟨y.p, mem_fold.2 h, ?_⟩
    have : y ∈ l := by rw [e]; simp at hy; simp [hy]
    simpa using ⟨y, this, rfl⟩
  · rintro ⟨x, hx, h⟩
    unfold foundF at h
    rw [List.any_eq_true] at h
    obtain ⟨d, hd, hc⟩ := h
    have hc2 : d ∈ l.map Fil.p := by simpa using hc
    rw [List.mem_map] at hc2
    obtain ⟨y, hy, rfl⟩ := hc2
    have hu : underF y x = true := mem_fold.1 hd
    obtain ⟨a, b, e⟩ := List.append_of_mem hx
    refine ⟨a, x, b, e, y, ?_, hu⟩
    rw [e] at hy
    have hl := under_less hu
    rcases List.mem_append.1 hy with h | h
    · simpa using h
    rcases List.mem_cons.1 h with rfl | h
    · unfold lessF at hl
      rw [Pure.less_irr] at hl
      cases hl
    · rw [e] at hp
      have := (List.pairwise_cons.1 (List.pairwise_append.1 hp).2.1).1 y h
      have h2 := Pure.less_asym _ _ hl
      unfold lessF at this
      rw [this] at h2
      cases h2

/-- The mode that a flag is. -/
def modeM (f : List UInt8) : Option Int := if f = [] then some 1 else if f = [120] then some 2 else if f = [108] then some 3 else none
theorem modeM_some {f : List UInt8} {m : Int} (h : modeM f = some m) : 1 ≤ m ∧ m ≤ 3 ∧ f = flagF m := by
  unfold modeM at h
  split at h
  · rename_i e; cases h; exact ⟨by decide, by decide, e⟩
  split at h
  · rename_i e; cases h; exact ⟨by decide, by decide, e⟩
  split at h
  · rename_i e; cases h; exact ⟨by decide, by decide, e⟩
  · cases h
theorem modeM_flag {m : Int} (h : 1 ≤ m ∧ m ≤ 3) : modeM (flagF m) = some m := by
  have : m = 1 ∨ m = 2 ∨ m = 3 := by omega
  rcases this with rfl | rfl | rfl <;> decide
/-- The file that a line is. -/
def fileM (ln : List UInt8) : Option Fil :=
  match Pure.cutC 0 ln with
  | none => none
  | some (p, r) => match Pure.unhex (r.take 40) with
    | none => none
    | some id => if id.length = 20 then (modeM (r.drop 40)).map fun m => ⟨⟨p.toArray⟩, m, id⟩ else none
/-- The file of the first line, and what stands behind it. -/
def lineM (b : List UInt8) : Option (Fil × List UInt8) :=
  match Pure.cutC 10 b with
  | none => none
  | some (ln, r) => (fileM ln).map fun f => (f, r)
theorem fileM_some {ln : List UInt8} {x : Fil} (h : fileM ln = some x) : x.id.length = 20 ∧ x.path.size ≤ ln.length ∧ 1 ≤ x.mode ∧ x.mode ≤ 3 := by
  unfold fileM at h
  cases h0 : Pure.cutC 0 ln with
  | none => rw [h0] at h; cases h
  | some y =>
    obtain ⟨p, r⟩ := y
    rw [h0] at h
    simp only at h
    have hl := Pure.cutC_len h0
    cases h1 : Pure.unhex (r.take 40) with
    | none => rw [h1] at h; cases h
    | some id =>
      rw [h1] at h
      simp only at h
      split at h
      · rename_i h20
        rw [Option.map_eq_some_iff] at h
        obtain ⟨m, hm, rfl⟩ := h
        obtain ⟨h1, h2, _⟩ := modeM_some hm
        exact ⟨h20, by show p.toArray.size ≤ _; simp; omega, h1, h2⟩
      · cases h
theorem lineM_some {b : List UInt8} {x : Fil} {r : List UInt8} (h : lineM b = some (x, r)) : r.length < b.length ∧ x.id.length = 20 ∧ x.path.size ≤ b.length ∧ 1 ≤ x.mode ∧ x.mode ≤ 3 := by
  unfold lineM at h
  cases h0 : Pure.cutC 10 b with
  | none => rw [h0] at h; cases h
  | some y =>
    obtain ⟨ln, rr⟩ := y
    rw [h0] at h
    simp only [Option.map_eq_some_iff, Prod.mk.injEq] at h
    obtain ⟨f, hf, rfl, rfl⟩ := h
    have hl := Pure.cutC_len h0
    obtain ⟨h1, h2, h3, h4⟩ := fileM_some hf
    exact ⟨by omega, h1, by omega, h3, h4⟩
/-- The files of a text. -/
def linesM : Nat → List UInt8 → Option (List Fil)
  | _, [] => some []
  | 0, _ :: _ => none
  | n + 1, c :: b => match lineM (c :: b) with
    | none => none
    | some (x, r) => (linesM n r).map (x :: ·)
theorem linesM_fuel : ∀ (n : Nat) (b : List UInt8), b.length ≤ n → linesM n b = linesM b.length b
  | 0, [], _ => rfl
  | n + 1, [], _ => rfl
  | 0, c :: b, h => by simp at h
  | n + 1, c :: b, h => by
    show (match lineM (c :: b) with | none => none | some (x, r) => (linesM n r).map (x :: ·)) = (match lineM (c :: b) with | none => none | some (x, r) => (linesM b.length r).map (x :: ·))
    cases hi : lineM (c :: b) with
    | none => rfl
    | some y =>
      obtain ⟨x, r⟩ := y
      have hl := (lineM_some hi).1
      simp only [List.length_cons] at hl h
      simp only
      rw [linesM_fuel n r (by omega), linesM_fuel b.length r (by omega)]
theorem linesM_step {b : List UInt8} {x : Fil} {r : List UInt8} (h : lineM b = some (x, r)) : linesM b.length b = (linesM r.length r).map (x :: ·) := by
  cases b with
  | nil => exfalso; have := (lineM_some h).1; simp at this
  | cons c b =>
    have hl := (lineM_some h).1
    simp only [List.length_cons] at hl
    show (match lineM (c :: b) with | none => none | some (x, r) => (linesM b.length r).map (x :: ·)) = _
    rw [h]
    simp only
    rw [linesM_fuel b.length r (by omega)]
theorem linesM_none {b : List UInt8} (hne : b ≠ []) (h : lineM b = none) : linesM b.length b = none := by
  cases b with
  | nil => exact absurd rfl hne
  | cons c b =>
    show (match lineM (c :: b) with | none => none | some (x, r) => (linesM b.length r).map (x :: ·)) = _
    rw [h]
/-- May files be printed as these bytes? -/
def PrintsM (l : List Fil) (b : List UInt8) : Prop := rightM l = true ∧ b.length ≤ 65536 ∧ printF l = b
/-- The manifest that a text is. -/
noncomputable def parseM (b : List UInt8) : Option (List Fil) := match linesM b.length b with
  | none => none
  | some l => open Classical in if PrintsM l b then some l else none
theorem parseM_of {b : List UInt8} {l : List Fil} (h : linesM b.length b = some l) (hr : PrintsM l b) : parseM b = some l := by
  unfold parseM
  rw [h]
  simp only
  rw [if_pos hr]
theorem parseM_bad {b : List UInt8} {l : List Fil} (h : linesM b.length b = some l) (hr : ¬ PrintsM l b) : parseM b = none := by
  unfold parseM
  rw [h]
  simp only
  rw [if_neg hr]
theorem parseM_none {b : List UInt8} (h : linesM b.length b = none) : parseM b = none := by unfold parseM; rw [h]
theorem parseM_some {b : List UInt8} {l : List Fil} (h : parseM b = some l) : linesM b.length b = some l ∧ PrintsM l b := by
  unfold parseM at h
  split at h
  · cases h
  · rename_i l' hl
    split at h
    · rename_i hp; cases h; exact ⟨hl, hp⟩
    · cases h
theorem parse_stopM {l r : List UInt8} {ds : List Fil} (h : linesM l.length l = (linesM r.length r).map (ds ++ ·)) (hne : r ≠ []) (hi : lineM r = none) : parseM l = none := by
  rw [linesM_none hne hi] at h
  exact parseM_none h

theorem digit_no (n : Nat) (h : n < 16) : Pure.hexDigit n ≠ 0 ∧ Pure.hexDigit n ≠ 10 := by
  have : ∀ n : Nat, n < 16 → Pure.hexDigit n ≠ 0 ∧ Pure.hexDigit n ≠ 10 := by decide
  exact this n h
theorem hex_no : ∀ (l : List UInt8), ∀ c ∈ Pure.hex l, c ≠ 0 ∧ c ≠ 10
  | [] => by simp [Pure.hex]
  | x :: r => by
    have ih := hex_no r
    unfold Pure.hex
    intro c hc
    have hx := x.toNat_lt
    rcases List.mem_cons.1 hc with rfl | hc
    · exact digit_no _ (by omega)
    rcases List.mem_cons.1 hc with rfl | hc
    · exact digit_no _ (by omega)
    · exact ih c hc
theorem flag_no (m : Int) : ∀ c ∈ flagF m, c ≠ 0 ∧ c ≠ 10 := by
  unfold flagF
  split
  · decide
  split
  · decide
  · simp
theorem lineM_line (x : Fil) (r : List UInt8) (hi : x.id.length = 20) (hm : 1 ≤ x.mode ∧ x.mode ≤ 3) (h0 : ∀ c ∈ x.p, c ≠ 0) (hn : ∀ c ∈ x.p, c ≠ 10) : lineM (lineF x ++ r) = some (x, r) := by
  have e1 : lineF x ++ r = (x.p ++ [0] ++ Pure.hex x.id ++ flagF x.mode) ++ 10 :: r := by unfold lineF; simp
  have e2 : x.p ++ [0] ++ Pure.hex x.id ++ flagF x.mode = x.p ++ 0 :: (Pure.hex x.id ++ flagF x.mode) := by simp
  have hh : (Pure.hex x.id).length = 40 := by rw [Pure.hex_length, hi]
  unfold lineM
  rw [e1, Pure.cutC_app]
  · simp only
    unfold fileM
    rw [e2, Pure.cutC_app _ _ _ h0]
    simp only
    rw [List.take_left' hh, Pure.unhex_hex]
    simp only
    rw [if_pos hi, List.drop_left' hh, modeM_flag hm]
    rfl
  · intro d hd
    simp only [List.mem_append, List.mem_singleton] at hd
    rcases hd with ((hd | rfl) | hd) | hd
    · exact hn d hd
    · decide
    · exact (hex_no _ d hd).2
    · exact (flag_no _ d hd).2
theorem linesM_print : ∀ (l : List Fil), (∀ x ∈ l, x.id.length = 20) → (∀ x ∈ l, 1 ≤ x.mode ∧ x.mode ≤ 3) → (∀ x ∈ l, ∀ c ∈ x.p, c ≠ 0) → (∀ x ∈ l, ∀ c ∈ x.p, c ≠ 10) → linesM (printF l).length (printF l) = some l
  | [], _, _, _, _ => rfl
  | x :: r, h1, h2, h3, h4 => by
    have hi : lineM (printF (x :: r)) = some (x, printF r) := lineM_line x _ (h1 x (by simp)) (h2 x (by simp)) (h3 x (by simp)) (h4 x (by simp))
    rw [linesM_step hi, linesM_print r (fun y hy => h1 y (by simp [hy])) (fun y hy => h2 y (by simp [hy])) (fun y hy => h3 y (by simp [hy])) (fun y hy => h4 y (by simp [hy]))]
    rfl
theorem rightM_parts {l : List Fil} (h : rightM l = true) : (∀ x ∈ l, oneF x = true) ∧ (∀ x ∈ l, ∀ c ∈ x.p, c ≠ 10) ∧ l.length ≤ 500 ∧ rightF l = true := by
  unfold rightM at h
  rw [Bool.and_eq_true, List.all_eq_true] at h
  obtain ⟨h1, h2⟩ := h
  have h3 := h2
  unfold rightF at h3
  simp only [Bool.and_eq_true, decide_eq_true_eq] at h3
  refine ⟨goodF_all _ _ h3.1.1, fun x hx c hc e => ?_, h3.2, h2⟩
  subst e
  have := h1 x hx
  simp at this
  exact this (by simpa using hc)
/-- What is printed is parsed. -/
theorem parse_printM {l : List Fil} (h : rightM l = true) (h20 : ∀ x ∈ l, x.id.length = 20) (hl : (printF l).length ≤ 65536) : parseM (printF l) = some l := by
  obtain ⟨h1, h2, h3, h4⟩ := rightM_parts h
  exact parseM_of (linesM_print l h20 (fun x hx => (oneF_parts (h1 x hx)).2.1) (fun x hx => path_zero (oneF_parts (h1 x hx)).1) h2) ⟨h, hl, rfl⟩
theorem line_lenF {x : Fil} (hi : x.id.length = 20) (hn : Pure.pathP x.p = true) : (lineF x).length ≤ 443 := by
  have h1 := flagF_len x.mode
  have h2 := path_len hn
  unfold lineF
  simp only [List.length_append, List.length_cons, List.length_nil, Pure.hex_length, hi]
  omega
theorem printF_len : ∀ (l : List Fil), (∀ x ∈ l, x.id.length = 20) → (∀ x ∈ l, Pure.pathP x.p = true) → (printF l).length ≤ l.length * 443
  | [], _, _ => by simp [printF]
  | x :: r, h, hn => by
    have ih := printF_len r (fun y hy => h y (by simp [hy])) (fun y hy => hn y (by simp [hy]))
    have := line_lenF (h x (by simp)) (hn x (by simp))
    unfold printF at ih ⊢
    rw [List.flatMap_cons, List.length_append, List.length_cons]
    omega

/-- Where a byte stands first, and what is cut there. -/
theorem index_cut (l : List UInt8) (c : UInt8) : match Pure.cutC c l with | none => Lib.index l [c] = -1 | some (a, b) => Lib.index l [c] = (a.length : Int) := by
  have h := Pure.cut_one l c
  unfold Lib.cut at h
  cases hq : Pure.cutC c l with
  | none =>
    simp only
    rw [hq] at h
    simp only at h
    split at h
    · simp at h
    · have := Lib.index_ge l [c]
      omega
  | some y =>
    obtain ⟨a, b⟩ := y
    simp only
    rw [hq] at h
    simp only at h
    split at h
    · rename_i h0
      simp only [Prod.mk.injEq] at h
      have h1 := h.1
      have hl := Pure.cutC_len hq
      have h2 := congrArg List.length h1
      have h3 := congrArg List.length h.2.1
      rw [List.length_take] at h2
      rw [List.length_drop] at h3
      simp only [List.length_cons, List.length_nil] at h3
      omega
    · simp at h

end Go.Proofs.YtgjnnoamhmmcnaaDoor

/- Plain functions for layer 11 (names of refs): which bytes may not stand in a name, its parts, which texts are names; no Go and no memory. -/
import Derived.Lib.ValidLaws
import Derived.Lib.IndexMore
import Derived.Lib.Split
import Derived.Lib.SplitLaws
import Derived.Lib.Strings
import Derived.Laws.RangeAny
namespace Go.Proofs.YtkdmhflcpfekfaaDoor.Pure
set_option linter.unusedVariables false
set_option linter.unusedSimpArgs false
open Go.Lib

/-- A byte that may not stand in a name. -/
def badB (c : UInt8) : Bool := decide (c.toNat ≤ 32) || c.toNat == 127 || ([126, 94, 58, 63, 42, 91, 92] : List UInt8).contains c
/-- A name cut at each /. -/
def splitS : List UInt8 → List (List UInt8)
  | [] => [[]]
  | c :: r => if c = 47 then [] :: splitS r else (c :: (splitS r).headD []) :: (splitS r).tail
/-- A part that may be. -/
def partP (p : List UInt8) : Bool := !p.isEmpty && !hasPrefix p [46] && !hasSuffix p [46, 108, 111, 99, 107]
/-- A ref's name that may be. -/
def right (s : List UInt8) : Bool :=
  decide (s.length ≤ 200) && validD s && !contains s [46, 46] && !contains s [64, 123] && !hasSuffix s [46] && s.all (fun c => !badB c) && (splitS s).all partP && decide (2 ≤ (splitS s).length)
def headsL : List UInt8 := [114, 101, 102, 115, 47, 104, 101, 97, 100, 115, 47]
/-- A branch's name that may be. -/
def branch (s : List UInt8) : Bool := !hasPrefix s [45] && right (headsL ++ s)

theorem splitS_ne (l : List UInt8) : splitS l ≠ [] := by
  cases l with
  | nil => simp [splitS]
  | cons c r => unfold splitS; split <;> simp
theorem splitS_eq (l : List UInt8) : splitS l = (splitS l).headD [] :: (splitS l).tail := by
  cases h : splitS l with
  | nil => exact absurd h (splitS_ne l)
  | cons a b => rfl

theorem splitS_cons {c : UInt8} (h : c ≠ 47) (r : List UInt8) : splitS (c :: r) = (c :: (splitS r).headD []) :: (splitS r).tail := by simp [splitS, h]
theorem splitS_slash (r : List UInt8) : splitS (47 :: r) = [] :: splitS r := by simp [splitS]

/-- Cut at the first /. -/
theorem splitS_hit : ∀ (a b : List UInt8), (∀ c ∈ a, c ≠ 47) → splitS (a ++ 47 :: b) = a :: splitS b
  | [], b, _ => by simp [splitS]
  | c :: a, b, h => by
    have hc : c ≠ 47 := h c (by simp)
    rw [List.cons_append, splitS_cons hc, splitS_hit a b (fun x hx => h x (by simp [hx]))]
    rfl
theorem splitS_none : ∀ (a : List UInt8), (∀ c ∈ a, c ≠ 47) → splitS a = [a]
  | [], _ => rfl
  | c :: a, h => by
    have hc : c ≠ 47 := h c (by simp)
    rw [splitS_cons hc, splitS_none a (fun x hx => h x (by simp [hx]))]
    rfl

theorem splitS_len : ∀ (l : List UInt8), ∀ p ∈ splitS l, p.length ≤ l.length
  | [], p, h => by simp [splitS] at h; subst h; simp
  | c :: r, p, h => by
    have ih := splitS_len r
    by_cases hc : c = 47
    · subst hc
      rw [splitS_slash, List.mem_cons] at h
      rcases h with rfl | h
      · simp
      · have := ih p h; simp; omega
    · rw [splitS_cons hc, List.mem_cons] at h
      rcases h with rfl | h
      · have := ih ((splitS r).headD []) (by rw [splitS_eq r]; simp)
        simp only [List.length_cons]; omega
      · have := ih p (List.mem_of_mem_tail h)
        simp only [List.length_cons]; omega

theorem splitK_eq : ∀ (k : Nat) (l : List UInt8), l.count 47 = k → splitK [47] 0 k l = splitS l
  | 0, l, h => by
    rw [List.count_eq_zero] at h
    exact (splitS_none l (fun c hc e => h (e ▸ hc))).symm
  | k + 1, l, h => by
    have hm : (47 : UInt8) ∈ l := by
      apply Classical.byContradiction
      intro hn
      have := List.count_eq_zero.2 hn
      omega
    have hix : ∃ i : Nat, indexByte l 47 = i := by
      cases hq : indexByte l 47 with
      | ofNat i => exact ⟨i, rfl⟩
      | negSucc i =>
        exfalso
        have h1 : -1 ≤ indexByte l 47 := by rw [← index_one]; exact index_ge _ _
        have h2 : indexByte l 47 = -1 := by omega
        obtain ⟨j, hj⟩ := List.mem_iff_getElem?.1 hm
        exact indexByte_none h2 j hj
    obtain ⟨i, hi⟩ := hix
    obtain ⟨h1, h2⟩ := indexByte_some hi
    have hlt : i < l.length := (List.getElem?_eq_some_iff.1 h1).1
    have hd : l.drop i = 47 :: l.drop (i + 1) := by
      rw [List.drop_eq_getElem_cons hlt, (List.getElem?_eq_some_iff.1 h1).2]
    have hl : l = l.take i ++ 47 :: l.drop (i + 1) := by
      conv => lhs; rw [← List.take_append_drop i l, hd]
    have ha : ∀ c ∈ l.take i, c ≠ 47 := by
      intro c hc e
      subst e
      obtain ⟨j, hj⟩ := List.mem_iff_getElem?.1 hc
      rw [List.getElem?_take] at hj
      split at hj
      · rename_i hji; exact h2 j hji hj
      · cases hj
    have hc : (l.drop (i + 1)).count 47 = k := by
      rw [hl, List.count_append, List.count_cons_self, List.count_eq_zero.2 (fun hm => ha _ hm rfl)] at h
      omega
    rw [splitK, index_one, hi, if_neg (by simp)]
    have e1 : ((i : Int)).toNat = i := by omega
    simp only [e1, Nat.add_zero, List.length_cons, List.length_nil, Nat.zero_add]
    rw [splitK_eq k _ hc]
    conv => rhs; rw [hl]
    rw [splitS_hit _ _ ha]

/-- strings.Split at /. -/
theorem splitB_eq (s : ByteArray) : (splitB ⟨#[47]⟩ 0 (countB s ⟨#[47]⟩) s).map (·.data.toList) = splitS s.data.toList := by
  rw [splitB_data]
  apply splitK_eq
  show List.count 47 s.data.toList = count s.data.toList [47]
  rw [count_one]

/-- What the reference does, byte by byte: the part at hand, and how many stand ahead of it. -/
def scan (cur : List UInt8) (n : Nat) : List UInt8 → Bool
  | [] => partP cur && decide (2 ≤ n + 1)
  | c :: r => if c = 47 then partP cur && scan [] (n + 1) r else !badB c && scan (cur ++ [c]) n r

theorem scan_slash (cur : List UInt8) (n : Nat) (r : List UInt8) : scan cur n (47 :: r) = (partP cur && scan [] (n + 1) r) := by simp [scan]
theorem scan_other (cur : List UInt8) (n : Nat) {c : UInt8} (h : c ≠ 47) (r : List UInt8) : scan cur n (c :: r) = (!badB c && scan (cur ++ [c]) n r) := by simp [scan, h]
theorem scan_end (cur : List UInt8) (n : Nat) : scan cur n [] = (partP cur && decide (2 ≤ n + 1)) := rfl
theorem piece_next (l : List UInt8) (f i : Nat) (hf : f ≤ i) (hi : i < l.length) : (l.take (i + 1)).drop f = (l.take i).drop f ++ [l[i]] := by
  rw [List.take_succ_eq_append_getElem hi, List.drop_append_of_le_length (by rw [List.length_take]; omega)]

theorem bad47 : badB 47 = false := by decide
theorem scan_eq : ∀ (l cur : List UInt8) (n : Nat), scan cur n l = (l.all (fun c => !badB c) && (partP (cur ++ (splitS l).headD []) && (splitS l).tail.all partP && decide (2 ≤ n + (splitS l).length)))
  | [], cur, n => by simp [scan, splitS]
  | c :: r, cur, n => by
    unfold scan
    by_cases h : c = 47
    · subst h
      have e : splitS (47 :: r) = [] :: splitS r := by simp [splitS]
      rw [if_pos rfl, scan_eq r, e]
      have e2 : (splitS r).all partP = (partP ((splitS r).headD []) && (splitS r).tail.all partP) := by
        conv => lhs; rw [splitS_eq r]
        simp
      simp only [List.all_cons, bad47, Bool.not_false, Bool.true_and, List.headD_cons, List.tail_cons, List.append_nil, List.length_cons, e2, List.nil_append]
      rw [show n + 1 + (splitS r).length = n + ((splitS r).length + 1) by omega]
      cases r.all (fun c => !badB c) <;> cases partP cur <;> simp
    · have e : splitS (c :: r) = (c :: (splitS r).headD []) :: (splitS r).tail := by simp [splitS, h]
      rw [if_neg h, scan_eq r, e]
      have e3 : (splitS r).length = (splitS r).tail.length + 1 := by rw [splitS_eq r]; rfl
      simp only [List.all_cons, List.headD_cons, List.tail_cons, List.append_assoc, List.singleton_append, List.length_cons, e3, Bool.and_assoc]

theorem scan_right (l : List UInt8) : scan [] 0 l = (l.all (fun c => !badB c) && (splitS l).all partP && decide (2 ≤ (splitS l).length)) := by
  have e2 : (splitS l).all partP = (partP ((splitS l).headD []) && (splitS l).tail.all partP) := by
    conv => lhs; rw [splitS_eq l]
    simp
  rw [scan_eq, e2, List.nil_append, Nat.zero_add]
  simp only [Bool.and_assoc]

theorem right_nil : right [] = false := by decide
/-- Which texts are names, as the reference asks it. -/
theorem right_scan (s : List UInt8) : right s = (decide (s.length ≤ 200) && validD s && !contains s [46, 46] && !contains s [64, 123] && !hasSuffix s [46] && scan [] 0 s) := by
  rw [scan_right]
  unfold right
  cases decide (s.length ≤ 200) && validD s && !contains s [46, 46] && !contains s [64, 123] && !hasSuffix s [46] <;> simp [Bool.and_assoc]

/-! ### runes and bytes -/
theorem decodeN_high (n b0 b1 b2 b3 : Nat) (h : 128 ≤ b0) : (decodeN n b0 b1 b2 b3).2 = 1 ∨ ((decodeN n b0 b1 b2 b3).2 = 2 ∧ 1 < n ∧ b1 / 64 = 2) ∨ ((decodeN n b0 b1 b2 b3).2 = 3 ∧ 2 < n ∧ b1 / 64 = 2 ∧ b2 / 64 = 2) ∨ ((decodeN n b0 b1 b2 b3).2 = 4 ∧ 3 < n ∧ b1 / 64 = 2 ∧ b2 / 64 = 2 ∧ b3 / 64 = 2) := by
  unfold decodeN
  rw [if_neg (by omega)]
  repeat' split
  all_goals simp_all

theorem get_bang (s : ByteArray) (k : Nat) : (s.get! k).toNat = ((s.data.toList).getD k 0).toNat := by
  rw [getD_get!']

/-- The bytes of a rune that is not ASCII are all from 128 on. -/
theorem decode_bytes (s : ByteArray) (pos : Nat) (hp : pos < s.size) (h : 128 ≤ (s[pos]'hp).toNat) : ∀ c ∈ (s.data.toList.drop pos).take (Utf8.decode s pos).2, 128 ≤ c.toNat := by
  have hg0 : (s.get! pos).toNat = (s[pos]'hp).toNat := by
    have e : s.get! pos = s[pos]'hp := by simp [ByteArray.get!, getElem!_pos, hp]; rfl
    rw [e]
  have key := decodeN_high (s.size - pos) (s.get! pos).toNat (s.get! (pos + 1)).toNat (s.get! (pos + 2)).toNat (s.get! (pos + 3)).toNat (by omega)
  rw [← decode_at] at key
  intro c hc
  obtain ⟨j, hj⟩ := List.mem_iff_getElem?.1 hc
  rw [List.getElem?_take] at hj
  split at hj
  · rename_i hlt
    rw [List.getElem?_drop] at hj
    have hcj : (s.get! (pos + j)).toNat = c.toNat := by rw [get_bang, List.getD_eq_getElem?_getD, hj]; rfl
    rcases key with k | ⟨k, -, k1⟩ | ⟨k, -, k1, k2⟩ | ⟨k, -, k1, k2, k3⟩
    · have : j = 0 := by omega
      subst this; rw [Nat.add_zero] at hcj; omega
    · have : j = 0 ∨ j = 1 := by omega
      rcases this with rfl | rfl <;> (try rw [Nat.add_zero] at hcj) <;> omega
    · have : j = 0 ∨ j = 1 ∨ j = 2 := by omega
      rcases this with rfl | rfl | rfl <;> (try rw [Nat.add_zero] at hcj) <;> omega
    · have : j = 0 ∨ j = 1 ∨ j = 2 ∨ j = 3 := by omega
      rcases this with rfl | rfl | rfl | rfl <;> (try rw [Nat.add_zero] at hcj) <;> omega
  · cases hj

theorem bad_high {c : UInt8} (h : 128 ≤ c.toNat) : badB c = false := by
  have key : ∀ n : Fin 256, 128 ≤ n.val → badB (UInt8.ofNat n.val) = false := by decide +kernel
  have := key ⟨c.toNat, c.toNat_lt⟩ h
  simpa using this

theorem all_skip (s : ByteArray) (pos : Nat) (hp : pos < s.size) (h : 128 ≤ (s[pos]'hp).toNat) :
    (s.data.toList.drop pos).all (fun c => !badB c) = (s.data.toList.drop (pos + (Utf8.decode s pos).2)).all (fun c => !badB c) := by
  have hb := decode_bytes s pos hp h
  conv => lhs; rw [← List.take_append_drop (Utf8.decode s pos).2 (s.data.toList.drop pos), List.all_append, List.drop_drop]
  have : ((s.data.toList.drop pos).take (Utf8.decode s pos).2).all (fun c => !badB c) = true := by
    rw [List.all_eq_true]
    intro c hc
    rw [bad_high (hb c hc)]; rfl
  rw [this, Bool.true_and]

end Go.Proofs.YtkdmhflcpfekfaaDoor.Pure

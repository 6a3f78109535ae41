/- Items that are put in order by steps: which list comes out, and that it is a tree in that order alone. No function of the program. -/
import Derived.Test.YtpgcjljaokopaaaDoorTree8
import Derived.Test.YtpgcjljaokopaaaDoorInts
namespace Go.Proofs.YtpgcjljaokopaaaDoor
set_option linter.unusedVariables false
set_option linter.unusedSimpArgs false
open Go.RowKit

theorem less_trans : ∀ a b c : List UInt8, Op.bytesLess a b = true → Op.bytesLess b c = true → Op.bytesLess a c = true
  | _, _, [] => by intro _ h; unfold Op.bytesLess at h; simp at h
  | _, [], z :: r => by intro h _; unfold Op.bytesLess at h; simp at h
  | [], y :: q, z :: r => by intro _ _; rfl
  | x :: p, y :: q, z :: r => by
    rw [Pure.less_cons, Pure.less_cons, Pure.less_cons]
    have ih := less_trans p q r
    simp only [Bool.or_eq_true, decide_eq_true_eq, Bool.and_eq_true, beq_iff_eq]
    rintro (h | ⟨rfl, h⟩) (k | ⟨rfl, k⟩)
    · left; rw [UInt8.lt_iff_toNat_lt] at *; omega
    · exact .inl h
    · exact .inl k
    · exact .inr ⟨rfl, ih h k⟩
theorem less_total : ∀ a b : List UInt8, a ≠ b → Op.bytesLess a b = false → Op.bytesLess b a = true
  | [], [] => by intro h; exact absurd rfl h
  | [], y :: q => by intro _ h; unfold Op.bytesLess at h; simp at h
  | x :: p, [] => by intro _ _; rfl
  | x :: p, y :: q => by
    rw [Pure.less_cons, Pure.less_cons]
    have ih := less_total p q
    intro hne h
    simp only [Bool.or_eq_false_iff, decide_eq_false_iff_not, Bool.and_eq_false_iff, beq_eq_false_iff_ne] at h
    simp only [Bool.or_eq_true, decide_eq_true_eq, Bool.and_eq_true, beq_iff_eq]
    by_cases e : x = y
    · subst e
      rcases h.2 with k | k
      · exact absurd rfl k
      · exact .inr ⟨rfl, ih (fun e => hne (by rw [e])) k⟩
    · left
      have h1 := h.1
      have : x.toNat ≠ y.toNat := fun k => e (UInt8.toNat_inj.1 k)
      rw [UInt8.lt_iff_toNat_lt] at *
      omega

/-- The names that are drawn from. -/
def names7 : List (List UInt8) := [[97], [97, 46, 98], [97, 45, 98], [97, 98], [98], [65], [97, 48]]
/-- An item that is made of one of them. -/
def PoolI (x : Itm) : Prop := x.name.data.toList ∈ names7 ∧ (x.mode = 1 ∨ x.mode = 4) ∧ x.id.length = 20 ∧ (x.id == zeros20) = false
theorem PoolI.fine {x : Itm} (h : PoolI x) : FineI x := by
  refine ⟨h.2.2.1, ?_⟩
  have : ∀ l ∈ names7, l.length ≤ 5 := by decide
  have := this _ h.1
  have e : x.name.data.toList.length = x.name.size := Array.length_toList
  omega
def keyL (n : List UInt8) (m : Int) : List UInt8 := if m = 4 then n ++ [47] else n
theorem key_list (x : Itm) : (keyS x).toList = keyL x.name.data.toList x.mode := by
  unfold keyS keyL
  rw [ByteArray.toList_eq]
  split
  · rw [append_list]
  · rfl
theorem keys_apart : ∀ a ∈ names7, ∀ b ∈ names7, a ≠ b → ∀ m ∈ [(1 : Int), 4], ∀ k ∈ [(1 : Int), 4], keyL a m ≠ keyL b k := by decide
theorem names_good : ∀ a ∈ names7, Pure.nameI a = true := by decide +kernel
theorem PoolI.key {x y : Itm} (hx : PoolI x) (hy : PoolI y) (hn : x.name.data.toList ≠ y.name.data.toList) : (keyS x).toList ≠ (keyS y).toList := by
  rw [key_list, key_list]
  exact keys_apart _ hx.1 _ hy.1 hn _ (by simpa using hx.2.1) _ (by simpa using hy.2.1)
theorem before_total {x y : Itm} (hx : PoolI x) (hy : PoolI y) (hn : x.name.data.toList ≠ y.name.data.toList) (h : beforeI x y = false) : beforeI y x = true := less_total _ _ (hx.key hy hn) h
theorem before_trans {x y z : Itm} (h : beforeI x y = true) (k : beforeI y z = true) : beforeI x z = true := less_trans _ _ _ h k
theorem PoolI.one {x : Itm} (h : PoolI x) {seen : List (List UInt8)} (hs : x.name.data.toList ∉ seen) : oneI seen x = true := by
  unfold oneI
  rw [names_good _ h.1, h.2.2.2]
  have : seen.contains x.name.data.toList = false := by simpa using hs
  rw [this]
  have := h.2.1
  simp only [Bool.not_false, Bool.and_true, Bool.true_and, decide_eq_true_eq]
  omega
/-- The names that items have. -/
def namesOf (l : List Itm) : List (List UInt8) := l.map fun x => x.name.data.toList
/-- Items of the pool, no name twice. -/
def Pool (l : List Itm) : Prop := (∀ x ∈ l, PoolI x) ∧ (namesOf l).Nodup
theorem Pool.perm {l m : List Itm} (h : Pool l) (p : List.Perm m l) : Pool m := ⟨fun x hx => h.1 x (p.mem_iff.1 hx), by unfold namesOf; exact (p.map _).nodup_iff.2 h.2⟩
theorem Pool.nil : Pool [] := ⟨by simp, by simp [namesOf]⟩
theorem Pool.add {l : List Itm} (h : Pool l) {x : Itm} (hx : PoolI x) (hn : l.any (fun y => y.name.data.toList == x.name.data.toList) = false) : Pool (l ++ [x]) := by
  refine ⟨fun y hy => ?_, ?_⟩
  · rw [List.mem_append] at hy
    rcases hy with hy | hy
    · exact h.1 y hy
    · simp at hy; subst hy; exact hx
  · unfold namesOf
    rw [List.map_append, List.nodup_append]
    refine ⟨h.2, by simp, ?_⟩
    intro a ha b hb
    simp at hb
    subst hb
    rw [List.any_eq_false] at hn
    obtain ⟨y, hy, rfl⟩ := List.mem_map.1 ha
    have := hn y hy
    simpa using this

theorem good_of : ∀ (l : List Itm) (p : Option Itm) (seen : List (List UInt8)), (∀ x ∈ l, PoolI x) → l.Pairwise (fun x y => beforeI x y = true) → (∀ x ∈ l, x.name.data.toList ∉ seen) → (namesOf l).Nodup → (∀ y, p = some y → ∀ x ∈ l, beforeI y x = true) → goodI p seen l = true
  | [], p, seen, _, _, _, _, _ => by cases p <;> rfl
  | x :: r, p, seen, h1, h2, h3, h4, h5 => by
    rw [good_cons, (h1 x (by simp)).one (h3 x (by simp))]
    unfold namesOf at h4
    rw [List.map_cons, List.nodup_cons] at h4
    rw [List.pairwise_cons] at h2
    have ih := good_of r (some x) (x.name.data.toList :: seen) (fun y hy => h1 y (by simp [hy])) h2.2 (fun y hy => by
      rw [List.mem_cons]
      rintro (e | e)
      · exact h4.1 (List.mem_map.2 ⟨y, hy, e⟩)
      · exact h3 y (by simp [hy]) e) h4.2 (fun y hy z hz => by cases hy; exact h2.1 z hz)
    rw [ih]
    cases p with
    | none => rfl
    | some y => simp [h5 y rfl x (by simp)]
theorem good_nodup : ∀ (l : List Itm) (p : Option Itm) (seen : List (List UInt8)), goodI p seen l = true → (∀ x ∈ l, x.name.data.toList ∉ seen) ∧ (namesOf l).Nodup
  | [], p, seen, _ => ⟨by simp, by simp [namesOf]⟩
  | x :: r, p, seen, h => by
    rw [good_cons] at h
    simp only [Bool.and_eq_true] at h
    obtain ⟨⟨h1, -⟩, h2⟩ := h
    obtain ⟨i1, i2⟩ := good_nodup r _ _ h2
    have hx : x.name.data.toList ∉ seen := by
      unfold oneI at h1
      simp only [Bool.and_eq_true, Bool.not_eq_true'] at h1
      simpa using h1.1.1.1
    refine ⟨fun y hy => ?_, ?_⟩
    · rw [List.mem_cons] at hy
      rcases hy with rfl | hy
      · exact hx
      · intro e; exact i1 y hy (by simp [e])
    · unfold namesOf
      rw [List.map_cons, List.nodup_cons]
      refine ⟨fun e => ?_, i2⟩
      obtain ⟨y, hy, e⟩ := List.mem_map.1 e
      exact i1 y hy (by simp [e])

/-- In order up to n. -/
def Upto (l : List Itm) (n : Nat) : Prop := ∀ (p q : Nat) (x y : Itm), p < q → q < n → l[p]? = some x → l[q]? = some y → beforeI x y = true
/-- In order up to n (and with it), but for the one at k. -/
def But (l : List Itm) (n k : Nat) : Prop := ∀ (p q : Nat) (x y : Itm), p < q → q ≤ n → q ≠ k → l[p]? = some x → l[q]? = some y → beforeI x y = true
theorem Upto.one (l : List Itm) : Upto l 1 := fun p q x y h1 h2 => by omega
theorem Upto.but {l : List Itm} {n : Nat} (h : Upto l n) : But l n n := fun p q x y h1 h2 h3 => h p q x y h1 (by omega)
theorem But.zero {l : List Itm} {n : Nat} (h : But l n 0) : Upto l (n + 1) := fun p q x y h1 h2 => h p q x y h1 (by omega) (by omega)
theorem names_ne {l : List Itm} (h : Pool l) {p q : Nat} {x y : Itm} (hpq : p ≠ q) (hx : l[p]? = some x) (hy : l[q]? = some y) : x.name.data.toList ≠ y.name.data.toList := by
  obtain ⟨hp, ep⟩ := List.getElem?_eq_some_iff.1 hx
  obtain ⟨hq, eq⟩ := List.getElem?_eq_some_iff.1 hy
  intro e
  have h2 := h.2
  unfold namesOf at h2
  rw [List.nodup_iff_pairwise_ne, List.pairwise_iff_getElem] at h2
  rcases Nat.lt_or_gt_of_ne hpq with k | k
  · refine h2 p q (by simpa using hp) (by simpa using hq) k ?_
    simp [ep, eq, e]
  · refine h2 q p (by simpa using hq) (by simpa using hp) k ?_
    simp [ep, eq, e]
theorem But.done {l : List Itm} {n k : Nat} {x y : Itm} (h : But l n (k + 1)) (hP : Pool l) (hx : l[k]? = some x) (hy : l[k + 1]? = some y) (hb : beforeI y x = false) : Upto l (n + 1) := by
  have hxy : beforeI x y = true := before_total (hP.1 y (List.mem_of_getElem? hy)) (hP.1 x (List.mem_of_getElem? hx)) (names_ne hP (by omega) hy hx) hb
  intro p q u v h1 h2 hu hv
  by_cases e : q = k + 1
  · subst e
    rw [hy] at hv; cases hv
    by_cases e2 : p = k
    · subst e2; rw [hx] at hu; cases hu; exact hxy
    · exact before_trans (h p k u x (by omega) (by omega) (by omega) hu hx) hxy
  · exact h p q u v h1 (by omega) e hu hv
/-- Two neighbours, changed for each other, as the program does it. -/
def swapI (l : List Itm) (k : Nat) (x y : Itm) : List Itm := (l.set (k + 1) x).set k y
theorem swap_get {l : List Itm} {k : Nat} {x y : Itm} (hx : l[k]? = some x) (hy : l[k + 1]? = some y) (p : Nat) : (swapI l k x y)[p]? = if p = k then some y else if p = k + 1 then some x else l[p]? := by
  have h1 := (List.getElem?_eq_some_iff.1 hy).1
  unfold swapI
  rw [List.getElem?_set, List.getElem?_set]
  simp only [List.length_set]
  by_cases e1 : p = k
  · rw [if_pos e1, if_pos e1.symm, if_pos (by omega)]
  · rw [if_neg e1, if_neg (fun e => e1 e.symm)]
    by_cases e2 : p = k + 1
    · rw [if_pos e2, if_pos e2.symm, if_pos h1]
    · rw [if_neg e2, if_neg (fun e => e2 e.symm)]
theorem swap_len {l : List Itm} {k : Nat} {x y : Itm} : (swapI l k x y).length = l.length := by simp [swapI]
theorem swap_perm {l : List Itm} {k : Nat} {x y : Itm} (hx : l[k]? = some x) (hy : l[k + 1]? = some y) : List.Perm (swapI l k x y) l := by
  obtain ⟨h1, rfl⟩ := List.getElem?_eq_some_iff.1 hx
  obtain ⟨h2, rfl⟩ := List.getElem?_eq_some_iff.1 hy
  exact List.set_set_perm h2 h1
theorem But.swap {l : List Itm} {n k : Nat} {x y : Itm} (h : But l n (k + 1)) (hkn : k + 1 ≤ n) (hx : l[k]? = some x) (hy : l[k + 1]? = some y) (hb : beforeI y x = true) : But (swapI l k x y) n k := by
  intro p q u v h1 h2 h3 hu hv
  rw [swap_get hx hy] at hu hv
  rw [if_neg h3] at hv
  split at hv
  · cases hv
    subst_vars
    split at hu
    · cases hu; exact hb
    · rw [if_neg (by omega)] at hu
      exact h p k u x (by omega) (by omega) (by omega) hu hx
  · split at hu
    · cases hu
      subst_vars
      exact before_trans hb (h p q x v h1 (by omega) (by omega) hx hv)
    · split at hu
      · cases hu
        exact h k q x v (by omega) (by omega) (by omega) hx hv
      · exact h p q u v h1 (by omega) (by omega) hu hv
theorem right_of {l : List Itm} (hP : Pool l) (h : Upto l l.length) (h1 : l ≠ []) (h2 : l.length ≤ 500) : rightI l = true := by
  unfold rightI
  rw [good_of l none [] hP.1 ?_ (by simp) hP.2 (fun y hy => by cases hy), decide_eq_true (show 1 ≤ l.length from List.length_pos_iff.2 h1), decide_eq_true h2]
  · rfl
  · rw [List.pairwise_iff_getElem]
    intro i j hi hj hij
    exact h i j _ _ hij hj (List.getElem?_eq_getElem hi) (List.getElem?_eq_getElem hj)
theorem right_twice {l : List Itm} {x : Itm} (hx : x ∈ l) : rightI (l ++ [x]) = false := by
  cases h : rightI (l ++ [x]) with
  | false => rfl
  | true =>
    unfold rightI at h
    simp only [Bool.and_eq_true] at h
    have h2 := (good_nodup _ _ _ h.1.1).2
    unfold namesOf at h2
    rw [List.map_append, List.nodup_append] at h2
    exact absurd rfl (h2.2.2 _ (List.mem_map.2 ⟨x, hx, rfl⟩) x.name.data.toList (by simp))
theorem right_swapped {l : List Itm} {x y : Itm} (h : Upto l l.length) (hx : l[0]? = some x) (hy : l[0 + 1]? = some y) : rightI (swapI l 0 x y) = false := by
  have hxy := h 0 1 x y (by omega) (List.getElem?_eq_some_iff.1 hy).1 hx hy
  have hyx : beforeI y x = false → True := fun _ => trivial
  have hn := Pure.less_asym _ _ hxy
  have h0 := swap_get hx hy 0
  have h1 := swap_get hx hy 1
  simp at h0 h1
  generalize swapI l 0 x y = m at *
  match m, h0, h1 with
  | a :: b :: r, h0, h1 =>
    simp at h0 h1
    subst h0
    subst h1
    unfold rightI
    rw [good_cons, good_cons]
    have : beforeI a b = false := hn
    simp [this]

/-- A row of values with some set from a place on. -/
def setL : List Value → Nat → List Value → List Value
  | xs, _, [] => xs
  | xs, o, v :: r => setL (xs.set o v) (o + 1) r
theorem setL_len : ∀ (vs : List Value) (xs : List Value) (o : Nat), (setL xs o vs).length = xs.length
  | [], _, _ => rfl
  | v :: r, xs, o => by unfold setL; rw [setL_len r, List.length_set]
theorem setL_get : ∀ (vs : List Value) (xs : List Value) (o j : Nat), o + vs.length ≤ xs.length → (setL xs o vs)[j]? = if o ≤ j ∧ j < o + vs.length then vs[j - o]? else xs[j]?
  | [], xs, o, j, h => by unfold setL; rw [if_neg (by simp)]
  | v :: r, xs, o, j, h => by
    unfold setL
    rw [List.length_cons] at h
    rw [setL_get r (xs.set o v) (o + 1) j (by rw [List.length_set]; omega), List.getElem?_set, List.length_cons]
    by_cases h1 : o + 1 ≤ j ∧ j < o + 1 + r.length
    · rw [if_pos h1, if_pos (by omega), show j - o = (j - (o + 1)) + 1 by omega, List.getElem?_cons_succ]
    · rw [if_neg h1]
      by_cases h2 : o = j
      · subst h2
        rw [if_pos rfl, if_pos (by omega), if_pos (by omega), Nat.sub_self]
        rfl
      · rw [if_neg h2, if_neg (by omega)]
theorem rowI_set (l : List Itm) (hl : ∀ x ∈ l, x.id.length = 20) (k : Nat) (hk : k < l.length) (x : Itm) (hx : x.id.length = 20) : setL (rowI l) (k * 22) x.cells = rowI (l.set k x) := by
  have hl2 : ∀ y ∈ l.set k x, y.id.length = 20 := fun y hy => by
    rcases List.mem_or_eq_of_mem_set hy with h | rfl
    · exact hl y h
    · exact hx
  have hlen := rowI_len l hl
  have hlen2 := rowI_len _ hl2
  rw [List.length_set] at hlen2
  have hxl := x.len hx
  apply List.ext_getElem?
  intro j
  rw [setL_get _ _ _ _ (by rw [hlen, hxl]; omega), hxl]
  by_cases hj : j < l.length * 22
  · obtain ⟨a, b, hb, rfl⟩ : ∃ a b, b < 22 ∧ j = a * 22 + b := ⟨j / 22, j % 22, Nat.mod_lt _ (by omega), by omega⟩
    have ha : a < l.length := by omega
    by_cases e : a = k
    · subst e
      rw [if_pos (by omega), rowI_get _ hl2 a x (by simp [List.getElem?_set, ha]) b hb, Nat.add_sub_cancel_left]
    · rw [if_neg (by omega), rowI_get _ hl a l[a] (List.getElem?_eq_getElem ha) b hb, rowI_get _ hl2 a l[a] (by rw [List.getElem?_set, if_neg (fun e2 => e e2.symm)]; exact List.getElem?_eq_getElem ha) b hb]
  · rw [if_neg (by omega), List.getElem?_eq_none (by omega), List.getElem?_eq_none (by omega)]
theorem owns_cells {base g cap n : Nat} {e : TypeId} {size : Nat} : ∀ (vs : List Value) (w : World) (xs : List Value) (o : Nat), w.ownsRow base e size (.slice (some ⟨g, 0, none⟩) n cap) n xs →
    (w.setCells g o vs).ownsRow base e size (.slice (some ⟨g, 0, none⟩) n cap) n (setL xs o vs) ∧ w.grownBy (w.setCells g o vs) (some g)
  | [], w, xs, o, h => ⟨h, ⟨rfl, rfl, rfl, Nat.le_refl _, fun _ _ _ => rfl⟩⟩
  | v :: r, w, xs, o, h => by
    obtain ⟨h1, h2⟩ := h.stored o v
    obtain ⟨h3, h4⟩ := owns_cells r _ _ (o + 1) h1
    exact ⟨h3, h2.trans h4⟩
/-- One of a slice's items is set. -/
theorem OwnI.store {w : World} {base g cap : Nat} {l : List Itm} (h : OwnI w base (.slice (some ⟨g, 0, none⟩) l.length cap) l) {k : Nat} (hk : k < l.length) (x : Itm) (hx : x.id.length = 20) :
    w.there g (k * 22) 22 ∧ OwnI (w.setCells g (k * 22) x.cells) base (.slice (some ⟨g, 0, none⟩) (l.set k x).length cap) (l.set k x) ∧ w.grownBy (w.setCells g (k * 22) x.cells) (some g) := by
  obtain ⟨h1, h2⟩ := h
  obtain ⟨h3, h4⟩ := owns_cells x.cells w _ (k * 22) h2
  refine ⟨fun j hj => ⟨?_, h2.frozenAt _⟩, ⟨fun y hy => ?_, ?_⟩, h4⟩
  · have hl : k * 22 + j < l.length * 22 := by omega
    rw [h2.cellAt _ hl, List.getElem?_eq_getElem (by rw [rowI_len l h1]; exact hl)]
    rfl
  · rcases List.mem_or_eq_of_mem_set hy with h | rfl
    · exact h1 y h
    · exact hx
  · rw [← rowI_set l h1 k hk x hx, List.length_set]
    exact h3
theorem OwnI.form {w : World} {base : Nat} {v : Value} {l : List Itm} (h : OwnI w base v l) (hn : l ≠ []) : ∃ g cap, v = .slice (some ⟨g, 0, none⟩) l.length cap ∧ base ≤ g ∧ l.length ≤ cap := by
  obtain ⟨h1, h2, h3⟩ := h
  rcases h3 with ⟨rfl, h0⟩ | ⟨g, cap, cur, rfl, hb, hg, hnc, hcm, hcs, ht⟩
  · exact absurd (List.eq_nil_of_length_eq_zero h0) hn
  · exact ⟨g, cap, rfl, hb, hnc⟩
theorem OwnI.range {w : World} {base g cap : Nat} {l : List Itm} (h : OwnI w base (.slice (some ⟨g, 0, none⟩) l.length cap) l) {k : Nat} {x : Itm} (hx : l[k]? = some x) : w.rangeAt g (k * 22) x.cells := by
  obtain ⟨p, c, hv, hr, hc⟩ := h.val
  cases hv
  rcases hr with rfl | ⟨b, o, e, hr⟩
  · simp at hx
  · cases e
    have := hr k x hx
    rwa [Nat.zero_add] at this
/-- Several cells are read, in a region that draws. -/
theorem step_load_at {P : Program} {ops : Array Oper} {op : Oper} {a : Act} {w : World} {K : Act → World → Prop} {Q : Exit → Act → World → Prop} {E : Prop} (hgd : op.guard = none) (ty : TypeId) (x : Operand) (ho : op.op = .load ty x)
    (b o : Nat) (hx : a.eval x = .pointer (some ⟨b, o, none⟩)) (cs : List Value) (d : TypeDesc) (hc : w.rangeAt b o cs) (hu : P.underlying ty = some d) (hd : d.isRow = true) (hi : (P.info? ty).map (·.size) = some cs.length)
    (h : K (a.put op.dst (.agg cs.toArray)) w) : if Region.wanted op (yielded ops a.tmps) = true then Oper.wp P op a w K Q else E := by
  have hw : Region.wanted op (yielded ops a.tmps) = true := by simp [Region.wanted, hgd]
  rw [if_pos hw]
  exact wp_load_mid ty x ho b o hx cs d hc hu hd hi h
/-- The same, as an operation of a region that draws. -/
theorem step_store_I {ops : Array Oper} {o : Oper} {a : Act} {w : World} {K : Act → World → Prop} {Q : Exit → Act → World → Prop} {E : Prop} (hgd : o.guard = none) (x y : Operand) (ho : o.op = .store 25 x y)
    (base g cap : Nat) (l : List Itm) (k : Nat) (i : Itm) (hx : a.eval x = .pointer (some ⟨g, k * 22, none⟩)) (hy : a.eval y = .agg i.cells.toArray) (hown : OwnI w base (.slice (some ⟨g, 0, none⟩) l.length cap) l) (hk : k < l.length) (hi20 : i.id.length = 20)
    (h : ∀ w', OwnI w' base (.slice (some ⟨g, 0, none⟩) (l.set k i).length cap) (l.set k i) → w.grownBy w' (some g) → K (a.put o.dst undef) w') : if Region.wanted o (yielded ops a.tmps) = true then Oper.wp Tryd.prog o a w K Q else E := by
  have hw : Region.wanted o (yielded ops a.tmps) = true := by simp [Region.wanted, hgd]
  rw [if_pos hw]
  obtain ⟨h1, h2, h3⟩ := hown.store hk i hi20
  refine wp_store_mid 25 x y ho g (k * 22) i.cells.toArray hx hy (by simpa [i.len hi20] using h1) (by simpa using infoItem i hi20) (all_oneCell_toArray i.one) ?_
  exact h _ (by simpa using h2) (by simpa using h3)

/-- append(v, m...) of items, in a region that draws. -/
theorem step_append_Is {ops : Array Oper} {o : Oper} {a : Act} {w : World} {K : Act → World → Prop} {Q : Exit → Act → World → Prop} {E : Prop} (hgd : o.guard = none) (s x : Operand)
    (ho : o.op = .call { callee := .builtin .append, args := #[s, x], argTypes := #[31, 31] }) (base : Nat) (v : Value) (l m : List Itm) (g n c : Nat) (hn : m.length = n) (hs : a.eval s = v) (hx : a.eval x = .slice (some ⟨g, 0, none⟩) n c)
    (hown : OwnI w base v l) (hm20 : ∀ x ∈ m, x.id.length = 20) (hr : ∀ k x, m[k]? = some x → w.rangeAt g (k * 22) x.cells) (hbase : base ≤ w.heap.size) (h63 : l.length + n ≤ 1073741824)
    (h : ∀ v' w', OwnI w' base v' (l ++ m) → Below base w w' → w.grownBy w' v.ownBlock → K (a.put o.dst v') w') : if Region.wanted o (yielded ops a.tmps) = true then Oper.wp Tryd.prog o a w K Q else E := by
  have hw : Region.wanted o (yielded ops a.tmps) = true := by simp [Region.wanted, hgd]
  rw [if_pos hw]
  obtain ⟨i0, hi, hz0, hz1, hz2⟩ := info_parts infoItemZ
  have hlm := rowI_len m hm20
  refine wp_append_own w s x 31 ho base 25 i0 zeroItem 22 48 Tryd.underlying31 hi hz0 hz1 hz2 rfl (by decide) v l.length (rowI l) hs hown.2 ⟨g, 0, none⟩ n c (rowI m) hx (by rw [hlm, hn]) (fun j u hu => ?_) (rowI_one m) (by unfold maxLen; omega) (by omega) hbase fun v' w' h2 h3 h4 => h v' w' ⟨?_, ?_⟩ ((Below.refl _ _).grown h3 hbase (fun k hk => (hown.lt k hk).1)) h3
  · have hj := (List.getElem?_eq_some_iff.1 hu).1
    rw [hlm] at hj
    rw [Addr.add_mid, Nat.zero_add]
    obtain ⟨a, b, hb, rfl⟩ : ∃ a b, b < 22 ∧ j = a * 22 + b := ⟨j / 22, j % 22, Nat.mod_lt _ (by omega), by omega⟩
    have ha : a < m.length := by omega
    rw [rowI_get m hm20 a m[a] (List.getElem?_eq_getElem ha) b hb] at hu
    exact hr a _ (List.getElem?_eq_getElem ha) b u hu
  · intro y hy
    rw [List.mem_append] at hy
    rcases hy with hy | hy
    · exact hown.1 y hy
    · exact hm20 y hy
  · have e1 : (l ++ m).length = l.length + n := by simp [hn]
    have e2 : rowI (l ++ m) = rowI l ++ rowI m := by unfold rowI; rw [List.flatMap_append]
    rw [e1, e2]
    exact h2
theorem wpList_append_Is {ops : Array Oper} {rest : List Oper} {o : Oper} {a : Act} {w : World} {Q : Exit → Act → World → Prop} (hgd : o.guard = none) (s x : Operand)
    (ho : o.op = .call { callee := .builtin .append, args := #[s, x], argTypes := #[31, 31] }) (base : Nat) (v : Value) (l m : List Itm) (g n c : Nat) (hn : m.length = n) (hs : a.eval s = v) (hx : a.eval x = .slice (some ⟨g, 0, none⟩) n c)
    (hown : OwnI w base v l) (hm20 : ∀ x ∈ m, x.id.length = 20) (hr : ∀ k x, m[k]? = some x → w.rangeAt g (k * 22) x.cells) (hbase : base ≤ w.heap.size) (h63 : l.length + n ≤ 1073741824)
    (h : ∀ v' w', OwnI w' base v' (l ++ m) → Below base w w' → w.grownBy w' v.ownBlock → wpList Tryd.prog ops Q rest (a.put o.dst v') w') : wpList Tryd.prog ops Q (o :: rest) a w := by
  refine wpList_plain hgd fun K hK => ?_
  have hw : Region.wanted o (yielded ops a.tmps) = true := by simp [Region.wanted, hgd]
  have := step_append_Is (ops := ops) (E := False) (K := K) (Q := Q) hgd s x ho base v l m g n c hn hs hx hown hm20 hr hbase h63 (fun v' w' h1 h2 h3 => hK _ _ (h v' w' h1 h2 h3))
  rw [if_pos hw] at this
  exact this

end Go.Proofs.YtpgcjljaokopaaaDoor

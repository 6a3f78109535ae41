/- bytes.Equal, bytes.Cut at a zero, bytes.Clone, over bytes in memory as the walks of this seat read them. Conditions: at most 2^31 bytes; a nil slice has no capacity. -/
import Derived.Test.YtdlhabldjdkfbaaDoorBuf
import Derived.Test.YtdlhabldjdkfbaaDoorTabs
import Derived.Test.YtdlhabldjdkfbaaDoorShelf
namespace Go.Proofs.YtdlhabldjdkfbaaDoor
set_option linter.unusedVariables false
set_option linter.unusedSimpArgs false
open Go.RowKit

def nums (l : List UInt8) : List Int := l.map fun b => (b.toNat : Int)
theorem nums_len (l : List UInt8) : (nums l).length = l.length := List.length_map _
theorem bytesOf_nums (l : List UInt8) : Lib.bytesOf (nums l) = l := by
  unfold Lib.bytesOf nums
  rw [List.map_map]
  conv => rhs; rw [← List.map_id l]
  apply List.map_congr_left
  intro b _
  simp
theorem nums_get (l : List UInt8) (i : Nat) (h : i < l.length) : (nums l).getD i 0 = ((l.getD i 0).toNat : Int) := by
  unfold nums
  rw [List.getD_eq_getElem?_getD, List.getElem?_map, List.getElem?_eq_getElem h, List.getD_eq_getElem?_getD, List.getElem?_eq_getElem h]
  rfl
theorem nums_byte (l : List UInt8) : ∀ x ∈ nums l, 0 ≤ x ∧ x < 256 := by
  intro x hx
  unfold nums at hx
  rw [List.mem_map] at hx
  obtain ⟨b, _, rfl⟩ := hx
  have := b.toNat_lt
  omega
theorem Rd.bytesIn {w : World} {p : Option Addr} {l : List UInt8} (h : Rd w p l) : Lib.BytesIn w p l.length (nums l) := by
  intro hn
  rcases h with rfl | ⟨b, o, rfl, _, hc⟩
  · simp at hn
  · exact ⟨b, o, rfl, fun i hi => by rw [hc i hi, nums_get l i hi]⟩

theorem bytes_Equal' (p q : Option Addr) (l m : List UInt8) (c d : Nat) (w : World) (h1 : Rd w p l) (h2 : Rd w q m) :
    Calls Tryd.prog 26 #[.slice p l.length c, .slice q m.length d] w fun e w' => e = .returned (.bool (l == m)) ∧ w = w' := by
  refine (Tryd.bytes_Equal_strs _ _ _ _ w (conv_string c h1) (conv_string d h2)).mono ?_
  rintro e w' ⟨rfl, rfl⟩
  refine ⟨?_, rfl⟩
  rw [ByteArray.toList_eq, ByteArray.toList_eq]

/-- What stands ahead of the first zero, and behind it. -/
def cut0 : List UInt8 → Option (List UInt8 × List UInt8)
  | [] => none
  | c :: r => if c = 0 then some ([], r) else (cut0 r).map fun x => (c :: x.1, x.2)
theorem cut0_none : ∀ (l : List UInt8), cut0 l = none ↔ ∀ c ∈ l, c ≠ 0
  | [] => by simp [cut0]
  | c :: r => by
    unfold cut0
    by_cases h : c = 0
    · rw [if_pos h]; simp [h]
    · rw [if_neg h, Option.map_eq_none_iff, cut0_none r]; simp [h]
theorem cut0_some : ∀ (l a b : List UInt8), cut0 l = some (a, b) ↔ l = a ++ 0 :: b ∧ ∀ c ∈ a, c ≠ 0
  | [], a, b => by simp [cut0]
  | c :: r, a, b => by
    unfold cut0
    by_cases h : c = 0
    · rw [if_pos h]
      subst h
      constructor
      · intro e; cases e; exact ⟨rfl, by simp⟩
      · rintro ⟨e, hn⟩
        cases a with
        | nil => simp at e; rw [e]
        | cons x a => simp at e; exact absurd e.1.symm (hn x (by simp))
    · rw [if_neg h, Option.map_eq_some_iff]
      constructor
      · rintro ⟨⟨x, y⟩, hxy, e⟩
        obtain ⟨h1, h2⟩ := (cut0_some r x y).1 hxy
        simp only [Prod.mk.injEq] at e
        obtain ⟨rfl, rfl⟩ := e
        exact ⟨by rw [h1]; rfl, by simp only [List.mem_cons, forall_eq_or_imp]; exact ⟨h, h2⟩⟩
      · rintro ⟨e, hn⟩
        cases a with
        | nil => simp at e; exact absurd e.1 h
        | cons x a =>
          simp at e
          exact ⟨(a, b), (cut0_some r a b).2 ⟨e.2, fun y hy => hn y (by simp [hy])⟩, by simp [e.1]⟩
theorem cut0_app (a b : List UInt8) (h : ∀ c ∈ a, c ≠ 0) : cut0 (a ++ 0 :: b) = some (a, b) := (cut0_some _ _ _).2 ⟨rfl, h⟩

set_option maxRecDepth 100000 in
theorem bytes_Cut0 (p q : Option Addr) (l : List UInt8) (cap : Nat) (w : World) (hr : Rd w p l) (hq : Rd w q [0]) (hp : p = none → cap = 0) (hcap : l.length ≤ cap) (hl : l.length ≤ 2147483648) (hm : MaxOk w) :
    Calls Tryd.prog 25 #[.slice p l.length cap, .slice q 1 1] w fun e w' => Grew w w' ∧ ((cut0 l = none ∧ e = .returned (.tuple #[.slice p l.length cap, .slice none 0 0, .bool false])) ∨
      ∃ a r p' c', cut0 l = some (a, r) ∧ e = .returned (.tuple #[.slice p a.length cap, .slice p' r.length c', .bool true]) ∧ Rd w' p a ∧ Rd w' p' r ∧ r.length ≤ c' ∧ (p' = none → c' = 0)) := by
  obtain ⟨m, hm⟩ := hm
  refine (Tryd.bytes_Cut_all p q l.length cap 1 1 (nums l) (nums [0]) m w (nums_len l) rfl (nums_byte l) (nums_byte _) hr.bytesIn hq.bytesIn hp hcap (by omega) (by decide) hm).mono ?_
  rintro e w' ⟨rfl, k, rfl⟩
  have hg : Grew w (w.drewN k) := Grew.drewN (Below.refl _ _) k
  refine ⟨hg, ?_⟩
  rw [bytesOf_nums, bytesOf_nums, Lib.index_one]
  by_cases h0 : 0 ≤ Lib.indexByte l 0
  · obtain ⟨i, hi⟩ := Int.eq_ofNat_of_zero_le h0
    obtain ⟨h1, h2⟩ := Lib.indexByte_some hi
    have hlt : i < l.length := (List.getElem?_eq_some_iff.1 h1).1
    have hd : l.drop i = 0 :: l.drop (i + 1) := by
      rw [List.drop_eq_getElem_cons hlt, (List.getElem?_eq_some_iff.1 h1).2]
    have hcut : cut0 l = some (l.take i, l.drop (i + 1)) := by
      rw [cut0_some]
      refine ⟨by conv => lhs; rw [← List.take_append_drop i l, hd], ?_⟩
      intro c hc e
      subst e
      obtain ⟨j, hj⟩ := List.mem_iff_getElem?.1 hc
      rw [List.getElem?_take] at hj
      split at hj
      · rename_i hji; exact h2 j hji hj
      · cases hj
    have hlen : (l.take i).length = i := by rw [List.length_take]; omega
    have hlen2 : (l.drop (i + 1)).length = l.length - (i + 1) := List.length_drop
    right
    refine ⟨l.take i, l.drop (i + 1), if cap = i + 1 then p else p.map (fun x => x.add (i + 1)), cap - (i + 1), hcut, ?_, ?_, ?_, ?_, ?_⟩
    · unfold Lib.cutV
      rw [if_pos h0, hi, hlen, hlen2]
      rfl
    · rcases hr with rfl | ⟨b, o, rfl, hb, hc⟩
      · simp at hlt
      · exact .inr ⟨b, o, rfl, hb, fun j hj => by
          rw [hlen] at hj
          rw [hg.cell (p := ⟨b, o + j, none⟩) hb, hc j (by omega), List.getD_eq_getElem?_getD, List.getD_eq_getElem?_getD, List.getElem?_take, if_pos hj]⟩
    · rcases hr with rfl | ⟨b, o, rfl, hb, hc⟩
      · simp at hlt
      · by_cases hr0 : l.drop (i + 1) = []
        · exact .inl hr0
        · have hpos : 0 < (l.drop (i + 1)).length := List.length_pos_iff.2 hr0
          rw [hlen2] at hpos
          rw [if_neg (show cap ≠ i + 1 by omega)]
          refine .inr ⟨b, o + (i + 1), ?_, hb, fun j hj => ?_⟩
          · simp only [Option.map_some, Addr.add_mid]
          · rw [hlen2] at hj
            rw [hg.cell (p := ⟨b, o + (i + 1) + j, none⟩) hb, Nat.add_assoc, hc (i + 1 + j) (by omega), List.getD_eq_getElem?_getD, List.getD_eq_getElem?_getD, List.getElem?_drop]
    · rw [hlen2]; omega
    · intro hn
      by_cases hc : cap = i + 1
      · rw [hc]; omega
      · rw [if_neg hc] at hn
        rw [Option.map_eq_none_iff] at hn
        have := hp hn
        omega
  · left
    refine ⟨?_, ?_⟩
    · rw [cut0_none]
      intro c hc e
      subst e
      have h1 : -1 ≤ Lib.indexByte l 0 := by rw [← Lib.index_one]; exact Lib.index_ge _ _
      obtain ⟨j, hj⟩ := List.mem_iff_getElem?.1 hc
      exact Lib.indexByte_none (show Lib.indexByte l 0 = -1 by omega) j hj
    · unfold Lib.cutV
      rw [if_neg h0]

theorem bytes_Clone' (p : Option Addr) (l : List UInt8) (c : Nat) (w : World) (hr : Rd w p l) (hl : l.length ≤ 2147483648) :
    Calls Tryd.prog 27 #[.slice p l.length c] w fun e w' => (∃ q d, e = .returned (.slice q l.length d) ∧ Rd w' q l ∧ ∀ a, q = some a → w.heap.size ≤ a.block) ∧ Grew w w' := by
  cases p with
  | none =>
    have hm : l = [] := by
      rcases hr with h | ⟨b, o, e, _⟩
      · exact h
      · cases e
    subst hm
    refine (Tryd.bytes_Clone_nil 0 c w).mono ?_
    rintro e w' ⟨rfl, rfl⟩
    exact ⟨⟨none, 0, rfl, .inl rfl, fun a h => by cases h⟩, Below.refl _ _⟩
  | some a =>
    refine (Tryd.bytes_Clone_at a l.length c (nums l) w (nums_len l) (by omega) ?_).mono ?_
    · intro i hi
      rcases hr with rfl | ⟨b, o, e, _, hc⟩
      · simp at hi
      · cases e
        rw [Addr.add_mid, hc i hi, nums_get l i hi]
    · rintro e w' ⟨v, rfl, hown, _, hb⟩
      have hb2 : OwnB w' w.heap.size v l := OwnB.of_ownsRow (n := l.length) (by
        have e1 : (nums l).map (Value.int .u8) = Lib.byteCells l := by unfold nums Lib.byteCells; rw [List.map_map]; rfl
        rwa [e1] at hown)
      obtain ⟨q, d, rfl, hrd, _, hat⟩ := hb2.val
      exact ⟨⟨q, d, rfl, hrd, fun a h => (hat a h).1⟩, hb⟩

end Go.Proofs.YtdlhabldjdkfbaaDoor

/- bytes.Equal, bytes.Cut at a zero, bytes.Clone, over bytes in memory as the walks of this seat read them. Conditions: at most 2^31 bytes; a nil slice has no capacity. -/
import Derived.Test.YtgjnnoamhmmcnaaDoorM1
import Derived.Test.YtgjnnoamhmmcnaaDoorTabs
import Derived.Test.YtgjnnoamhmmcnaaDoorShelf
namespace Go.Proofs.YtgjnnoamhmmcnaaDoor
set_option linter.unusedVariables false
set_option linter.unusedSimpArgs false
open Go.RowKit

def nums (l : List UInt8) : List Int := l.map fun b => (b.toNat : Int)
theorem nums_len (l : List UInt8) : (nums l).length = l.length := List.length_map _
theorem bytesOf_nums (l : List UInt8) : Lib.bytesOf (nums l) = l := by
  unfold Lib.bytesOf nums
  rw [List.map_map]
  conv => rhs; rw [← List.map_id l]
  apply List.map_congr_left
  intro b _
  simp
theorem nums_get (l : List UInt8) (i : Nat) (h : i < l.length) : (nums l).getD i 0 = ((l.getD i 0).toNat : Int) := by
  unfold nums
  rw [List.getD_eq_getElem?_getD, List.getElem?_map, List.getElem?_eq_getElem h, List.getD_eq_getElem?_getD, List.getElem?_eq_getElem h]
  rfl
theorem nums_byte (l : List UInt8) : ∀ x ∈ nums l, 0 ≤ x ∧ x < 256 := by
  intro x hx
  unfold nums at hx
  rw [List.mem_map] at hx
  obtain ⟨b, _, rfl⟩ := hx
  have := b.toNat_lt
  omega
theorem Rd.bytesIn {w : World} {p : Option Addr} {l : List UInt8} (h : Rd w p l) : Lib.BytesIn w p l.length (nums l) := by
  intro hn
  rcases h with rfl | ⟨b, o, rfl, _, hc⟩
  · simp at hn
  · exact ⟨b, o, rfl, fun i hi => by rw [hc i hi, nums_get l i hi]⟩

theorem bytes_Equal' (p q : Option Addr) (l m : List UInt8) (c d : Nat) (w : World) (h1 : Rd w p l) (h2 : Rd w q m) :
    Calls Tryd.prog 26 #[.slice p l.length c, .slice q m.length d] w fun e w' => e = .returned (.bool (l == m)) ∧ w = w' := by
  refine (Tryd.bytes_Equal_strs _ _ _ _ w (conv_string c h1) (conv_string d h2)).mono ?_
  rintro e w' ⟨rfl, rfl⟩
  refine ⟨?_, rfl⟩
  rw [ByteArray.toList_eq, ByteArray.toList_eq]

/-- What stands ahead of the first zero, and behind it. -/
def cut0 : List UInt8 → Option (List UInt8 × List UInt8)
  | [] => none
  | c :: r => if c = 0 then some ([], r) else (cut0 r).map fun x => (c :: x.1, x.2)
theorem cut0_none : ∀ (l : List UInt8), cut0 l = none ↔ ∀ c ∈ l, c ≠ 0
  | [] => by simp [cut0]
  | c :: r => by
    unfold cut0
    by_cases h : c = 0
    · rw [if_pos h]; simp [h]
    · rw [if_neg h, Option.map_eq_none_iff, cut0_none r]; simp [h]
theorem cut0_some : ∀ (l a b : List UInt8), cut0 l = some (a, b) ↔ l = a ++ 0 :: b ∧ ∀ c ∈ a, c ≠ 0
  | [], a, b => by simp [cut0]
  | c :: r, a, b => by
    unfold cut0
    by_cases h : c = 0
    · rw [if_pos h]
      subst h
      constructor
      · intro e; cases e; exact ⟨rfl, by simp⟩
      · rintro ⟨e, hn⟩
        cases a with
        | nil => simp at e; rw [e]
        | cons x a => simp at e; exact absurd e.1.symm (hn x (by simp))
    · rw [if_neg h, Option.map_eq_some_iff]
      constructor
      · rintro ⟨⟨x, y⟩, hxy, e⟩
        obtain ⟨h1, h2⟩ := (cut0_some r x y).1 hxy
        simp only [Prod.mk.injEq] at e
        obtain ⟨rfl, rfl⟩ := e
        exact ⟨by rw [h1]; rfl, by simp only [List.mem_cons, forall_eq_or_imp]; exact ⟨h, h2⟩⟩
      · rintro ⟨e, hn⟩
        cases a with
        | nil => simp at e; exact absurd e.1 h
        | cons x a =>
          simp at e
          exact ⟨(a, b), (cut0_some r a b).2 ⟨e.2, fun y hy => hn y (by simp [hy])⟩, by simp [e.1]⟩
theorem cut0_app (a b : List UInt8) (h : ∀ c ∈ a, c ≠ 0) : cut0 (a ++ 0 :: b) = some (a, b) := (cut0_some _ _ _).2 ⟨rfl, h⟩



end Go.Proofs.YtgjnnoamhmmcnaaDoor

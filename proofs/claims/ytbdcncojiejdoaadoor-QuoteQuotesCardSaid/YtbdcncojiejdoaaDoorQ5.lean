/- octal on both sides, the reference's one and Quote. Conditions: the text is at most 2^30 bytes long. -/
import Derived.Test.YtbdcncojiejdoaaDoorQ4
import Derived.Deep.QuietTactic
import Derived.BigQuiet
import Derived.Deep.RegionHeldLaw
namespace Go.Proofs.YtbdcncojiejdoaaDoor
set_option linter.unusedVariables false
set_option linter.unusedSimpArgs false
open Go.RowKit

theorem row_rd (w W0 : World) (l : List UInt8) (C : Array Value) (fz : Nat × Nat) (hC : C = (Lib.byteCells l).toArray) (h : w.alloc (.cells C 5 fz) = W0) : Rd W0 (some ⟨w.heap.size, 0, none⟩) l := by
  subst h
  subst hC
  have hb := heap_alloc_new w (.cells (Lib.byteCells l).toArray 5 fz)
  refine .inr ⟨_, 0, rfl, (Array.getElem?_eq_some_iff.1 hb).1, fun i hi => ?_⟩
  rw [cell_of_row _ _ _ _ _ _ hb, Nat.zero_add, List.getElem?_toArray, byteCells_getElem?, List.getElem?_eq_getElem hi, List.getD_eq_getElem?_getD, List.getElem?_eq_getElem hi]
  rfl

theorem oct_nums (c : UInt8) (x : Int) (hx : (c.toNat : Int) = x) : ∃ d a b : UInt8, Pure.octB c = [92, d, a, b] ∧ 48 + x / 64 = (d.toNat : Int) ∧ 48 + x / 8 % 8 = (a.toNat : Int) ∧ 48 + x % 8 = (b.toNat : Int) := by
  obtain ⟨d, a, b, e, hd, ha, hb⟩ := Pure.oct_parts c
  exact ⟨d, a, b, e, by omega, by omega, by omega⟩

set_option maxRecDepth 100000 in
set_option maxHeartbeats 1000000 in
theorem quote_octal (c : UInt8) (x : Int) (hx : (c.toNat : Int) = x) (w : World) :
    Calls Tryd.prog 28 #[.int .u8 x] w fun e w' => e = .returned (.string ⟨(Pure.octB c).toArray⟩) ∧ Grew w w' := by
  obtain ⟨d, a, b, e, hd, ha, hb⟩ := oct_nums c x hx
  rw [e]
  have h0 : 0 ≤ x := by omega
  have h1 : x < 256 := by have := c.toNat_lt; omega
  obtain ⟨W0, hW0, g0, -, -⟩ := boxed w #[.int .u8 92, .int .u8 (d.toNat : Int), .int .u8 (a.toNat : Int), .int .u8 (b.toNat : Int)] 5
  have k := conv_string 4 (row_rd w W0 [92, d, a, b] _ _ rfl hW0)
  simp only [List.length_cons, List.length_nil, Nat.zero_add, Nat.reduceAdd] at k
  clear hx e
  go_enter Tryd.func28, Tryd.ntmps28
  go_wp2
  go_ret
  exact ⟨rfl, g0⟩

set_option maxRecDepth 100000 in
set_option maxHeartbeats 1000000 in
theorem ref_octal (c : UInt8) (x : Int) (hx : (c.toNat : Int) = x) (w : World) :
    Calls Tryd.prog 44 #[.int .u8 x] w fun e w' => e = .returned (.string ⟨(Pure.octB c).toArray⟩) ∧ Grew w w' := by
  obtain ⟨d, a, b, e, hd, ha, hb⟩ := oct_nums c x hx
  rw [e]
  have h0 : 0 ≤ x := by omega
  have h1 : x < 256 := by have := c.toNat_lt; omega
  obtain ⟨W0, hW0, g0, -, -⟩ := boxed w #[.int .u8 (d.toNat : Int), .int .u8 (a.toNat : Int), .int .u8 (b.toNat : Int)] 5
  have k := conv_string 3 (row_rd w W0 [d, a, b] _ _ rfl hW0)
  simp only [List.length_cons, List.length_nil, Nat.zero_add, Nat.reduceAdd] at k
  clear hx e
  go_enter Tryd.func44, Tryd.ntmps44
  go_wp2
  go_ret
  exact ⟨by first | rfl | exact ret_eq (by rw [append_list]; rfl), g0⟩

theorem ne_of_num {c d : UInt8} (h : (c.toNat : Int) ≠ (d.toNat : Int)) : c ≠ d := by rintro rfl; exact h rfl
theorem eq_of_num {c d : UInt8} (h : (c.toNat : Int) = (d.toNat : Int)) : c = d := UInt8.toNat_inj.1 (by omega)

set_option maxRecDepth 100000 in
set_option maxHeartbeats 1000000 in
theorem ref_one (c : UInt8) (x : Int) (hx : (c.toNat : Int) = x) (w : World) :
    Calls Tryd.prog 34 #[.int .u8 x] w fun e w' => e = .returned (.string ⟨(Pure.oneQ c).toArray⟩) ∧ Grew w w' := by
  have cO := ref_octal c x hx w
  obtain ⟨W0, hW0, g0, -, -⟩ := boxed w #[.int .u8 x] 5
  have k := conv_string 1 (row_rd w W0 [c] _ _ (by rw [← hx]; rfl) hW0)
  simp only [List.length_cons, List.length_nil, Nat.zero_add] at k
  by_cases h34 : x = 34
  · have : c = 34 := eq_of_num (by rw [hx, h34]; rfl)
    subst this; subst h34
    clear cO hW0 k hx
    go_enter Tryd.func34, Tryd.ntmps34
    go_wp2
    go_ret
    exact ⟨rfl, Below.refl _ _⟩
  by_cases h92 : x = 92
  · have : c = 92 := eq_of_num (by rw [hx, h92]; rfl)
    subst this; subst h92
    clear cO hW0 k hx
    go_enter Tryd.func34, Tryd.ntmps34
    go_wp2
    go_ret
    exact ⟨rfl, Below.refl _ _⟩
  by_cases h10 : x = 10
  · have : c = 10 := eq_of_num (by rw [hx, h10]; rfl)
    subst this; subst h10
    clear cO hW0 k hx
    go_enter Tryd.func34, Tryd.ntmps34
    go_wp2
    go_ret
    exact ⟨rfl, Below.refl _ _⟩
  by_cases h9 : x = 9
  · have : c = 9 := eq_of_num (by rw [hx, h9]; rfl)
    subst this; subst h9
    clear cO hW0 k hx
    go_enter Tryd.func34, Tryd.ntmps34
    go_wp2
    go_ret
    exact ⟨rfl, Below.refl _ _⟩
  have f1 : (x == 34) = false := beq_eq_false_iff_ne.2 h34
  have f2 : (x == 92) = false := beq_eq_false_iff_ne.2 h92
  have f3 : (x == 10) = false := beq_eq_false_iff_ne.2 h10
  have f4 : (x == 9) = false := beq_eq_false_iff_ne.2 h9
  have hq : Pure.oneQ c = if c.toNat < 32 ∨ 127 ≤ c.toNat then Pure.octB c else [c] := by
    unfold Pure.oneQ
    rw [if_neg (ne_of_num (by rw [hx]; exact h34)), if_neg (ne_of_num (by rw [hx]; exact h92)), if_neg (ne_of_num (by rw [hx]; exact h10)), if_neg (ne_of_num (by rw [hx]; exact h9))]
  by_cases ho : x < 32 ∨ 127 ≤ x
  · rw [if_pos (by omega)] at hq
    rw [hq]
    clear hq hx k hW0 h34 h92 h10 h9
    rcases ho with ho | ho
    all_goals
      go_enter Tryd.func34, Tryd.ntmps34
      go_wp2_with (go_at_call 44; with_reducible refine cO.mono ?_; rintro e1 W1 ⟨rfl, g1⟩)
      go_ret
      exact ⟨rfl, g1⟩
  · rw [if_neg (by omega)] at hq
    rw [hq]
    have hlo : 32 ≤ x := by omega
    have hhi : x < 127 := by omega
    clear hq hx cO h34 h92 h10 h9 ho
    go_enter Tryd.func34, Tryd.ntmps34
    go_wp2
    go_ret
    exact ⟨rfl, g0⟩

theorem flat_len (l : List UInt8) : (l.flatMap Pure.oneQ).length ≤ 4 * l.length := by
  induction l with
  | nil => simp
  | cons c r ih =>
    rw [List.flatMap_cons, List.length_append]
    have h : (Pure.oneQ c).length ≤ 4 := by
      rcases Pure.one_cases c with ⟨e, _⟩ | ⟨e, _⟩ | ⟨e, _⟩ | e | ⟨e, _, _⟩ <;> rw [e] <;> simp [Pure.octB]
    simp only [List.length_cons]
    omega

set_option maxRecDepth 100000 in
set_option maxHeartbeats 1000000 in
theorem ref_Quote (s : ByteArray) (w : World) (hs : s.size ≤ 1073741824) :
    Calls Tryd.prog 16 #[.string s] w fun e w' => e = .returned (.string ⟨(Pure.quoteP s.data.toList).toArray⟩) ∧ Grew w w' := by
  have g0 : Grew w w := Below.refl _ _
  have cP := (fun W (g : Grew w W) => ref_Plain s W hs : ∀ W, Grew w W → _)
  have cC := (fun W (g : Grew w W) => ref_clean s W hs : ∀ W, Grew w W → _)
  have hsl : s.data.toList.length = s.size := Array.length_toList
  obtain ⟨A, hA⟩ : ∃ A, Pure.plainP s.data.toList = A := ⟨_, rfl⟩
  obtain ⟨C, hC⟩ : ∃ A, Pure.cleanP s.data.toList = A := ⟨_, rfl⟩
  have hq : Pure.quoteP s.data.toList = if (A && C) = true then s.data.toList else Pure.quoteB s.data.toList := by unfold Pure.quoteP; rw [hA, hC]
  simp only [hA] at cP
  simp only [hC] at cC
  clear hA hC
  rw [hq]
  clear hq
  have HSL := Lib.hid hsl
  clear hsl
  by_cases hAC : (A && C) = true
  · obtain ⟨rfl, rfl⟩ : A = true ∧ C = true := by simpa using hAC
    clear hAC
    go_enter Tryd.func16, Tryd.ntmps16
    go_wp2_with (first | (go_at_call 12; with_reducible refine (cP _ (by assumption)).mono ?_; rintro e1 W1 ⟨rfl, g1⟩; replace g1 := Grew.trans' (a := w) (by assumption) g1) | (go_at_call 33; with_reducible refine (cC _ (by assumption)).mono ?_; rintro e1 W1 ⟨rfl, g1⟩; replace g1 := Grew.trans' (a := w) (by assumption) g1))
    go_ret
    exact ⟨rfl, by assumption⟩
  · rw [if_neg hAC]
    cases A <;> cases C
    all_goals first | (exact absurd rfl hAC) | skip
    all_goals
      clear hAC
      go_enter Tryd.func16, Tryd.ntmps16
      go_wp2_with (first | (go_at_call 12; with_reducible refine (cP _ (by assumption)).mono ?_; rintro e1 W1 ⟨rfl, g1⟩; replace g1 := Grew.trans' (a := w) (by assumption) g1) | (go_at_call 33; with_reducible refine (cC _ (by assumption)).mono ?_; rintro e1 W1 ⟨rfl, g1⟩; replace g1 := Grew.trans' (a := w) (by assumption) g1))
      have gW : Grew w W1 := by assumption
      clear cP cC
      go_loopw [3, 4] (fun o i wr => ∃ (k : Nat) (O : ByteArray), o = .string O ∧ i = .int .i64 k ∧ k ≤ s.size ∧ Grew w wr ∧ O.size ≤ 4 * k + 1 ∧ Hid (O.data.toList = 34 :: (s.data.toList.take k).flatMap Pure.oneQ)) (fun _ i _ => s.size - (intOf i).toNat)
      case atStart => exact ⟨0, _, rfl, rfl, Nat.zero_le _, gW, by decide, by rfl⟩
      case round =>
        obtain ⟨k, O, rfl, rfl, hk, hb, hOs, hO⟩ := hrel
        by_cases hlt : k < s.size
        · obtain ⟨c, hc⟩ : ∃ c, s[k]'hlt = c := ⟨_, rfl⟩
          have hx := Lib.data_getElem? s k hlt
          rw [hc] at hx
          obtain ⟨x, hxx⟩ : ∃ x : Int, (c.toNat : Int) = x := ⟨_, rfl⟩
          have hsx : ((s[k]'hlt).toNat : Int) = x := by rw [hc]; exact hxx
          have c1 := ref_one c x hxx wr
          obtain ⟨E, hE⟩ : ∃ E : ByteArray, (⟨(Pure.oneQ c).toArray⟩ : ByteArray) = E := ⟨_, rfl⟩
          rw [hE] at c1
          have hEs : E.size ≤ 4 := by
            rw [← hE]
            show (Pure.oneQ c).toArray.size ≤ 4
            have := flat_len [c]
            simpa using this
          have hOE : (O ++ E).data.toList = 34 :: (s.data.toList.take (k + 1)).flatMap Pure.oneQ := by
            rw [append_list, hO.out, ← hE, List.take_add_one, hx, List.flatMap_append]
            simp
          have hsz : (O ++ E).size ≤ 4 * (k + 1) + 1 := by rw [ByteArray.size_append]; omega
          have HOE := Lib.hid hOE
          clear hOE hE hx hc hxx hO
          go_wp2_with (go_at_call 34; with_reducible refine c1.mono ?_; rintro e2 W2 ⟨rfl, g2⟩)
          go_roundw
          case rel => exact ⟨k + 1, O ++ E, rfl, by go_num, by omega, hb.trans' g2, hsz, HOE⟩
          case measure => simp [intOf]; omega
        · have hie : k = s.size := by omega
          subst hie
          have hfin : (O ++ ⟨#[34]⟩ : ByteArray).data.toList = Pure.quoteB s.data.toList := by
            rw [append_list, hO.out, List.take_of_length_le (by have := HSL.out; omega)]
            rfl
          have HF := Lib.hid hfin
          clear hfin hO
          go_wp2
          go_ret
          exact ⟨ret_eq HF.out, hb⟩

end Go.Proofs.YtbdcncojiejdoaaDoor

/- Several texts in one: Num1, Num2, Num3, Num4. -/
import Derived.Test.YtemojhcbhljemaaDoorM1
import Derived.Test.YtemojhcbhljemaaDoorShelf
import Derived.Shelf.Strconv.ParseIntPublic10
import Derived.Lib.AtoiErrMem
import Derived.Deep.RegionWith
import Derived.Lib.IndexBytes

/- hexa.Number gives the digits of 10 of any number. Conditions: the library's table of powers of ten is laid. -/
namespace Go.Proofs.YtemojhcbhljemaaDoor
set_option linter.unusedVariables false
set_option linter.unusedSimpArgs false
open Go.RowKit

/-- The library's table of powers of ten is as its text lays it. -/
def TabOk (w : World) : Prop := Lib.TabIs Tryd.prog w "internal/strconv.uint64pow10" .u64 Lib.pow10Tab
theorem TabOk.grew {w w' : World} (h : TabOk w) (hb : Grew w w') : TabOk w' := var_grew hb h

set_option maxRecDepth 100000 in
theorem hexa_Number (v : Int) (w : World) (h0 : -9223372036854775808 ≤ v) (h1 : v ≤ 9223372036854775807) (ht : TabOk w) :
    Calls Tryd.prog 31 #[.int .i64 v] w fun e w' => e = .returned (.string ⟨(Lib.itoa v).toArray⟩) ∧ Grew w w' := by
  have H0 := Lib.hid h0
  have H1 := Lib.hid h1
  clear h0 h1
  go_enter Tryd.func31, Tryd.ntmps31
  go_wp2_with (go_at_call 45; refine (Tryd.strconv_FormatInt_10 v H0.out H1.out _ ht).mono ?_)
  rintro e w1 ⟨rfl, k, os, rfl⟩
  go_wp2
  go_ret
  exact ⟨rfl, Lib.below_grow _ _ (Nat.le_refl _) _ _⟩

end Go.Proofs.YtemojhcbhljemaaDoor

/- hexa.TakeNumber: the number that digits of 10 say. Conditions: the library's variables are laid, the text is at most 2^40 bytes long. -/
namespace Go.Proofs.YtemojhcbhljemaaDoor
set_option linter.unusedVariables false
set_option linter.unusedSimpArgs false
open Go.RowKit

/-- A cell of an interface, whatever it holds. -/
def IfaceAt (g : Nat) (w : World) : Prop := ∃ ev, w.cell? ⟨g, 0, none⟩ = some ev ∧ (ev = .nilIface ∨ ∃ te pe, ev = .iface te pe)
theorem IfaceAt.grew {g : Nat} {w w' : World} (h : IfaceAt g w) (hb : Grew w w') : IfaceAt g w' := by
  obtain ⟨ev, h1, h2⟩ := h
  exact ⟨ev, (hb.cell (World.block_lt_of_cell? _ _ h1)).trans h1, h2⟩
/-- The library's two errors of a parse: some values. -/
def ErrOk (w : World) : Prop := IfaceAt 4 w ∧ IfaceAt 5 w
theorem ErrOk.grew {w w' : World} (h : ErrOk w) (hb : Grew w w') : ErrOk w' := ⟨h.1.grew hb, h.2.grew hb⟩

/-- A number that was taken, or the reason why not. -/
def takeV (l : List UInt8) : Value := if l = [] then .tuple #[.int .i64 0, .int .i64 3] else match Pure.takeN l with
  | some v => .tuple #[.int .i64 v, .int .i64 0]
  | none => .tuple #[.int .i64 0, .int .i64 4]

set_option maxRecDepth 100000 in
set_option maxHeartbeats 1000000 in
theorem hexa_TakeNumber (s : ByteArray) (w : World) (hs : s.size ≤ 1099511627776) (ht : TabOk w) (he : ErrOk w) :
    Calls Tryd.prog 55 #[.string s] w fun e w' => e = .returned (takeV s.data.toList) ∧ Grew w w' := by
  have g0 : Grew w w := Below.refl _ _
  by_cases hne : s.data.toList = []
  · have hv : takeV s.data.toList = .tuple #[.int .i64 0, .int .i64 3] := by unfold takeV; rw [if_pos hne]
    have hem : s.toList.isEmpty = true := by rw [ByteArray.toList_eq, hne]; rfl
    rw [hv]
    clear hv hne ht he
    go_enter Tryd.func55, Tryd.ntmps55
    go_wp2
    go_ret2
    exact ⟨rfl, g0⟩
  have hem : s.toList.isEmpty = false := by
    rw [ByteArray.toList_eq]
    cases h : s.data.toList with
    | nil => exact absurd h hne
    | cons a b => rfl
  have HN := Lib.hid hne
  obtain ⟨⟨e1, he1, hf1⟩, ⟨e2, he2, hf2⟩⟩ := he
  clear hne
  cases hq : Lib.parseIntB 64 s.data.toList
  · rename_i v
    have hv := Pure.parse_in hq
    have cp := Any.strconv_ParseInt_10_at64_ok Tryd.laysC174 s (by omega) v hq w
    have cn := (fun W g => hexa_Number v W hv.1 hv.2 (ht.grew g) : ∀ W, Grew w W → _)
    have cp' : Calls Tryd.prog 70 #[.string s, .int .i64 10, .int .i64 64] w fun e w' => e = .returned (.tuple #[.int .i64 v, .nilIface]) ∧ Grew w w' := by
      refine cp.mono ?_
      rintro e w' ⟨rfl, rfl | ⟨t, rfl⟩⟩
      · exact ⟨rfl, Below.refl _ _⟩
      · exact ⟨rfl, Lib.bytesWorld_below _ _ _⟩
    obtain ⟨N, hN⟩ : ∃ N : ByteArray, (⟨(Lib.itoa v).toArray⟩ : ByteArray) = N := ⟨_, rfl⟩
    have hNd : N.data.toList = Lib.itoa v := by rw [← hN]
    rw [hN] at cn
    by_cases hE : Lib.itoa v = s.data.toList
    · have ht : takeV s.data.toList = .tuple #[.int .i64 v, .int .i64 0] := by
        unfold takeV Pure.takeN
        rw [if_neg HN.out, hq]
        simp only [hE, if_true]
      have heq : (N.toList == s.toList) = true := by rw [ByteArray.toList_eq, ByteArray.toList_eq, hNd, hE]; simp
      rw [ht]
      clear hq hv ht cp hN hNd hE he1 he2 hf1 hf2 HN
      go_enter Tryd.func55, Tryd.ntmps55
      go_wp2_with (first | (go_at_call 70; with_reducible refine (cp').mono ?_; rintro e1 W1 ⟨rfl, g1⟩; replace g1 := Grew.trans' (a := w) (by assumption) g1) | (go_at_call 31; with_reducible refine (cn _ (by assumption)).mono ?_; rintro e1 W1 ⟨rfl, g1⟩; replace g1 := Grew.trans' (a := w) (by assumption) g1))
      go_ret2
      exact ⟨rfl, by assumption⟩
    · have ht : takeV s.data.toList = .tuple #[.int .i64 0, .int .i64 4] := by
        unfold takeV Pure.takeN
        rw [if_neg HN.out, hq]
        simp only [hE, if_false]
      have heq : (N.toList == s.toList) = false := by rw [ByteArray.toList_eq, ByteArray.toList_eq, hNd, beq_eq_false_iff_ne]; exact hE
      rw [ht]
      clear hq hv ht cp hN hNd hE he1 he2 hf1 hf2 HN
      go_enter Tryd.func55, Tryd.ntmps55
      go_wp2_with (first | (go_at_call 70; with_reducible refine (cp').mono ?_; rintro e1 W1 ⟨rfl, g1⟩; replace g1 := Grew.trans' (a := w) (by assumption) g1) | (go_at_call 31; with_reducible refine (cn _ (by assumption)).mono ?_; rintro e1 W1 ⟨rfl, g1⟩; replace g1 := Grew.trans' (a := w) (by assumption) g1))
      go_ret2
      exact ⟨rfl, by assumption⟩
  · have ht : takeV s.data.toList = .tuple #[.int .i64 0, .int .i64 4] := by
      unfold takeV Pure.takeN
      rw [if_neg HN.out, hq]
    have cp := Any.strconv_ParseInt_10_at64_syntax Tryd.laysC174 s (by omega) hq e1 w he1 hf1
    have cp' : Calls Tryd.prog 70 #[.string s, .int .i64 10, .int .i64 64] w fun e w' => ∃ N x, e = .returned (.tuple #[.int .i64 x, .iface 126 (.pointer (some ⟨N, 0, none⟩))]) ∧ Grew w w' := by
      refine cp.mono ?_
      rintro e w' ⟨N, rfl, _, _, g1⟩
      exact ⟨N, _, rfl, g1⟩
    rw [ht]
    clear hq ht he1 he2 hf1 hf2 HN cp
    go_enter Tryd.func55, Tryd.ntmps55
    go_wp2_with (go_at_call 70; with_reducible refine cp'.mono ?_; rintro e w1 ⟨N, x, rfl, g1⟩)
    go_ret2
    exact ⟨rfl, g1⟩
  · have ht : takeV s.data.toList = .tuple #[.int .i64 0, .int .i64 4] := by
      unfold takeV Pure.takeN
      rw [if_neg HN.out, hq]
    have cp := Any.strconv_ParseInt_10_at64_range Tryd.laysC174 s (by omega) hq e2 w he2 hf2
    have cp' : Calls Tryd.prog 70 #[.string s, .int .i64 10, .int .i64 64] w fun e w' => ∃ N x, e = .returned (.tuple #[.int .i64 x, .iface 126 (.pointer (some ⟨N, 0, none⟩))]) ∧ Grew w w' := by
      refine cp.mono ?_
      rintro e w' ⟨N, rfl, _, _, g1⟩
      exact ⟨N, _, rfl, g1⟩
    rw [ht]
    clear hq ht he1 he2 hf1 hf2 HN cp
    go_enter Tryd.func55, Tryd.ntmps55
    go_wp2_with (go_at_call 70; with_reducible refine cp'.mono ?_; rintro e w1 ⟨N, x, rfl, g1⟩)
    go_ret2
    exact ⟨rfl, g1⟩

end Go.Proofs.YtemojhcbhljemaaDoor

/- The reference's Number: the digits of 10 of any number. Conditions: none. -/
namespace Go.Proofs.YtemojhcbhljemaaDoor
set_option linter.unusedVariables false
set_option linter.unusedSimpArgs false
open Go.RowKit

theorem ba_ext {a b : ByteArray} (h : a.data.toList = b.data.toList) : a = b := by
  cases a with | mk a => cases b with | mk b =>
  simp only at h
  rw [Array.toList_inj.1 h]
theorem digit_text (d : Nat) (h : d < 10) : ∃ D : ByteArray, D.data.toList = [UInt8.ofNat (48 + d)] ∧ ∀ (W : World) (b c : Nat), W.cell? ⟨b, 0, none⟩ = some (.int .u8 (48 + (d : Int))) →
    (convert 30 9 (.slice (some ⟨b, 0, none⟩) 1 c)).run Tryd.prog W = .ok (.string D) W := by
  refine ⟨⟨[UInt8.ofNat (48 + d)].toArray⟩, rfl, fun W b c hc => ?_⟩
  refine conv_string (l := [UInt8.ofNat (48 + d)]) c (.inr ⟨b, 0, rfl, World.block_lt_of_cell? _ _ hc, fun i hi => ?_⟩)
  have : i = 0 := by simp at hi; omega
  subst this
  rw [Nat.add_zero, hc]
  have e : ((UInt8.ofNat (48 + d)).toNat : Int) = 48 + (d : Int) := by rw [UInt8.toNat_ofNat']; omega
  simp only [List.getD_cons_zero, e]
theorem box_cell (w : World) (x : Value) (t : TypeId) : (w.alloc (.cells #[x] t)).cell? ⟨w.heap.size, 0, none⟩ = some x := by
  rw [cell_of_row _ _ _ _ _ (0, 0) (heap_alloc_new w _)]
  rfl

theorem u64_of (z : Int) (h : 0 ≤ z) (h1 : z < 18446744073709551616) : IntKind.u64.wrap z = z := by simp [IntKind.wrap, IntKind.bits, IntKind.signed]; omega

end Go.Proofs.YtemojhcbhljemaaDoor

/- The reference's TakeNumber: the number that digits of 10 say. Conditions: the text is at most 2^40 bytes long. -/
namespace Go.Proofs.YtemojhcbhljemaaDoor
set_option linter.unusedVariables false
set_option linter.unusedSimpArgs false
open Go.RowKit

theorem list_len (s : ByteArray) : s.data.toList.length = s.size := Array.length_toList
theorem list_empty {s : ByteArray} (h : s.size = 0) : s.data.toList = [] := List.eq_nil_of_length_eq_zero (by rw [list_len]; exact h)
theorem list_head {s : ByteArray} (h : 0 < s.size) : s.data.toList.head? = some (s[0]'h) := by rw [List.head?_eq_getElem?]; exact Lib.data_getElem? s 0 h
theorem empty_false {s : ByteArray} (h : 0 < s.size) : s.toList.isEmpty = false := by
  rw [ByteArray.toList_eq]
  cases hl : s.data.toList with
  | nil => have := list_len s; rw [hl] at this; simp at this; omega
  | cons a b => rfl
theorem empty_true {s : ByteArray} (h : s.size = 0) : s.toList.isEmpty = true := by rw [ByteArray.toList_eq, list_empty h] <;> rfl
theorem takeV_R {l : List UInt8} (h : l ≠ []) : takeV l = match Pure.takeR l with
    | some v => .tuple #[.int .i64 v, .int .i64 0]
    | none => .tuple #[.int .i64 0, .int .i64 4] := by unfold takeV; rw [if_neg h, Pure.take_same] <;> cases Pure.takeN l <;> rfl
theorem takeV_none {l : List UInt8} (h : l ≠ []) (hn : Pure.takeR l = none) : takeV l = .tuple #[.int .i64 0, .int .i64 4] := by rw [takeV_R h, hn]
theorem takeV_some {l : List UInt8} {v : Int} (h : l ≠ []) (hn : Pure.takeR l = some v) : takeV l = .tuple #[.int .i64 v, .int .i64 0] := by rw [takeV_R h, hn]
theorem ret_two {a b : Int} (h : a = b) : Ending.returned (.tuple #[.int .i64 a, .int .i64 0]) = .returned (.tuple #[.int .i64 b, .int .i64 0]) := by rw [h]
theorem pow_grow {a k d : Nat} (h : a < 10 ^ k) (hd : d < 10) : a * 10 + d < 10 ^ (k + 1) := by rw [Nat.pow_succ]; omega
theorem pow_19 {a k : Nat} (h : a < 10 ^ k) (hk : k ≤ 19) : a < 10000000000000000000 := Nat.lt_of_lt_of_le h (Nat.pow_le_pow_right (by decide) hk)

end Go.Proofs.YtemojhcbhljemaaDoor

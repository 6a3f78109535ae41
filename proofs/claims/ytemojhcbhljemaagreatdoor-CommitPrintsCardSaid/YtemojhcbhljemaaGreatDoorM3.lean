/- Several texts in one: Num1, Num2, Num3, Num4. -/
import Derived.Test.YtemojhcbhljemaaGreatDoorM1
import Derived.Test.YtemojhcbhljemaaGreatDoorShelf
import Derived.Shelf.Strconv.ParseIntPublic10
import Derived.Lib.AtoiErrMem
import Derived.Deep.RegionWith
import Derived.Lib.IndexBytes

/- hexa.Number gives the digits of 10 of any number. Conditions: the library's table of powers of ten is laid. -/
namespace Go.Proofs.YtemojhcbhljemaaGreatDoor
set_option linter.unusedVariables false
set_option linter.unusedSimpArgs false
open Go.RowKit

/-- The library's table of powers of ten is as its text lays it. -/
def TabOk (w : World) : Prop := Lib.TabIs Tryz.prog w "internal/strconv.uint64pow10" .u64 Lib.pow10Tab
theorem TabOk.grew {w w' : World} (h : TabOk w) (hb : Grew w w') : TabOk w' := var_grew hb h

set_option maxRecDepth 100000 in
theorem hexa_Number (v : Int) (w : World) (h0 : -9223372036854775808 ≤ v) (h1 : v ≤ 9223372036854775807) (ht : TabOk w) :
    Calls Tryz.prog 42 #[.int .i64 v] w fun e w' => e = .returned (.string ⟨(Lib.itoa v).toArray⟩) ∧ Grew w w' := by
  have H0 := Lib.hid h0
  have H1 := Lib.hid h1
  clear h0 h1
  go_enter Tryz.func42, Tryz.ntmps42
  go_wp2_with (go_at_call 63; refine (Tryz.strconv_FormatInt_10 v H0.out H1.out _ ht).mono ?_)
  rintro e w1 ⟨rfl, k, os, rfl⟩
  go_wp2
  go_ret
  exact ⟨rfl, Lib.below_grow _ _ (Nat.le_refl _) _ _⟩

end Go.Proofs.YtemojhcbhljemaaGreatDoor

/- hexa.TakeNumber: the number that digits of 10 say. Conditions: the library's variables are laid, the text is at most 2^40 bytes long. -/
namespace Go.Proofs.YtemojhcbhljemaaGreatDoor
set_option linter.unusedVariables false
set_option linter.unusedSimpArgs false
open Go.RowKit

/-- A cell of an interface, whatever it holds. -/
def IfaceAt (g : Nat) (w : World) : Prop := ∃ ev, w.cell? ⟨g, 0, none⟩ = some ev ∧ (ev = .nilIface ∨ ∃ te pe, ev = .iface te pe)
theorem IfaceAt.grew {g : Nat} {w w' : World} (h : IfaceAt g w) (hb : Grew w w') : IfaceAt g w' := by
  obtain ⟨ev, h1, h2⟩ := h
  exact ⟨ev, (hb.cell (World.block_lt_of_cell? _ _ h1)).trans h1, h2⟩
/-- The library's two errors of a parse: some values. -/
def ErrOk (w : World) : Prop := IfaceAt 4 w ∧ IfaceAt 5 w
theorem ErrOk.grew {w w' : World} (h : ErrOk w) (hb : Grew w w') : ErrOk w' := ⟨h.1.grew hb, h.2.grew hb⟩

/-- A number that was taken, or the reason why not. -/
def takeV (l : List UInt8) : Value := if l = [] then .tuple #[.int .i64 0, .int .i64 3] else match Pure.takeN l with
  | some v => .tuple #[.int .i64 v, .int .i64 0]
  | none => .tuple #[.int .i64 0, .int .i64 4]

set_option maxRecDepth 100000 in
set_option maxHeartbeats 1000000 in
theorem hexa_TakeNumber (s : ByteArray) (w : World) (hs : s.size ≤ 1099511627776) (ht : TabOk w) (he : ErrOk w) :
    Calls Tryz.prog 68 #[.string s] w fun e w' => e = .returned (takeV s.data.toList) ∧ Grew w w' := by
  have g0 : Grew w w := Below.refl _ _
  by_cases hne : s.data.toList = []
  · have hv : takeV s.data.toList = .tuple #[.int .i64 0, .int .i64 3] := by unfold takeV; rw [if_pos hne]
    have hem : s.toList.isEmpty = true := by rw [ByteArray.toList_eq, hne]; rfl
    rw [hv]
    clear hv hne ht he
    go_enter Tryz.func68, Tryz.ntmps68
    go_wp2
    go_ret2
    exact ⟨rfl, g0⟩
  have hem : s.toList.isEmpty = false := by
    rw [ByteArray.toList_eq]
    cases h : s.data.toList with
    | nil => exact absurd h hne
    | cons a b => rfl
  have HN := Lib.hid hne
  obtain ⟨⟨e1, he1, hf1⟩, ⟨e2, he2, hf2⟩⟩ := he
  clear hne
  cases hq : Lib.parseIntB 64 s.data.toList
  · rename_i v
    have hv := Pure.parse_in hq
    have cp := Any.strconv_ParseInt_10_at64_ok Tryz.laysC174 s (by omega) v hq w
    have cn := (fun W g => hexa_Number v W hv.1 hv.2 (ht.grew g) : ∀ W, Grew w W → _)
    have cp' : Calls Tryz.prog 83 #[.string s, .int .i64 10, .int .i64 64] w fun e w' => e = .returned (.tuple #[.int .i64 v, .nilIface]) ∧ Grew w w' := by
      refine cp.mono ?_
      rintro e w' ⟨rfl, rfl | ⟨t, rfl⟩⟩
      · exact ⟨rfl, Below.refl _ _⟩
      · exact ⟨rfl, Lib.bytesWorld_below _ _ _⟩
    obtain ⟨N, hN⟩ : ∃ N : ByteArray, (⟨(Lib.itoa v).toArray⟩ : ByteArray) = N := ⟨_, rfl⟩
    have hNd : N.data.toList = Lib.itoa v := by rw [← hN]
    rw [hN] at cn
    by_cases hE : Lib.itoa v = s.data.toList
    · have ht : takeV s.data.toList = .tuple #[.int .i64 v, .int .i64 0] := by
        unfold takeV Pure.takeN
        rw [if_neg HN.out, hq]
        simp only [hE, if_true]
      have heq : (N.toList == s.toList) = true := by rw [ByteArray.toList_eq, ByteArray.toList_eq, hNd, hE]; simp
      rw [ht]
      clear hq hv ht cp hN hNd hE he1 he2 hf1 hf2 HN
      go_enter Tryz.func68, Tryz.ntmps68
      go_wp2_with (first | (go_at_call 83; with_reducible refine (cp').mono ?_; rintro e1 W1 ⟨rfl, g1⟩; replace g1 := Grew.trans' (a := w) (by assumption) g1) | (go_at_call 42; with_reducible refine (cn _ (by assumption)).mono ?_; rintro e1 W1 ⟨rfl, g1⟩; replace g1 := Grew.trans' (a := w) (by assumption) g1))
      go_ret2
      exact ⟨rfl, by assumption⟩
    · have ht : takeV s.data.toList = .tuple #[.int .i64 0, .int .i64 4] := by
        unfold takeV Pure.takeN
        rw [if_neg HN.out, hq]
        simp only [hE, if_false]
      have heq : (N.toList == s.toList) = false := by rw [ByteArray.toList_eq, ByteArray.toList_eq, hNd, beq_eq_false_iff_ne]; exact hE
      rw [ht]
      clear hq hv ht cp hN hNd hE he1 he2 hf1 hf2 HN
      go_enter Tryz.func68, Tryz.ntmps68
      go_wp2_with (first | (go_at_call 83; with_reducible refine (cp').mono ?_; rintro e1 W1 ⟨rfl, g1⟩; replace g1 := Grew.trans' (a := w) (by assumption) g1) | (go_at_call 42; with_reducible refine (cn _ (by assumption)).mono ?_; rintro e1 W1 ⟨rfl, g1⟩; replace g1 := Grew.trans' (a := w) (by assumption) g1))
      go_ret2
      exact ⟨rfl, by assumption⟩
  · have ht : takeV s.data.toList = .tuple #[.int .i64 0, .int .i64 4] := by
      unfold takeV Pure.takeN
      rw [if_neg HN.out, hq]
    have cp := Any.strconv_ParseInt_10_at64_syntax Tryz.laysC174 s (by omega) hq e1 w he1 hf1
    have cp' : Calls Tryz.prog 83 #[.string s, .int .i64 10, .int .i64 64] w fun e w' => ∃ N x, e = .returned (.tuple #[.int .i64 x, .iface 131 (.pointer (some ⟨N, 0, none⟩))]) ∧ Grew w w' := by
      refine cp.mono ?_
      rintro e w' ⟨N, rfl, _, _, g1⟩
      exact ⟨N, _, rfl, g1⟩
    rw [ht]
    clear hq ht he1 he2 hf1 hf2 HN cp
    go_enter Tryz.func68, Tryz.ntmps68
    go_wp2_with (go_at_call 83; with_reducible refine cp'.mono ?_; rintro e w1 ⟨N, x, rfl, g1⟩)
    go_ret2
    exact ⟨rfl, g1⟩
  · have ht : takeV s.data.toList = .tuple #[.int .i64 0, .int .i64 4] := by
      unfold takeV Pure.takeN
      rw [if_neg HN.out, hq]
    have cp := Any.strconv_ParseInt_10_at64_range Tryz.laysC174 s (by omega) hq e2 w he2 hf2
    have cp' : Calls Tryz.prog 83 #[.string s, .int .i64 10, .int .i64 64] w fun e w' => ∃ N x, e = .returned (.tuple #[.int .i64 x, .iface 131 (.pointer (some ⟨N, 0, none⟩))]) ∧ Grew w w' := by
      refine cp.mono ?_
      rintro e w' ⟨N, rfl, _, _, g1⟩
      exact ⟨N, _, rfl, g1⟩
    rw [ht]
    clear hq ht he1 he2 hf1 hf2 HN cp
    go_enter Tryz.func68, Tryz.ntmps68
    go_wp2_with (go_at_call 83; with_reducible refine cp'.mono ?_; rintro e w1 ⟨N, x, rfl, g1⟩)
    go_ret2
    exact ⟨rfl, g1⟩

end Go.Proofs.YtemojhcbhljemaaGreatDoor

/- The reference's Number: the digits of 10 of any number. Conditions: none. -/
namespace Go.Proofs.YtemojhcbhljemaaGreatDoor
set_option linter.unusedVariables false
set_option linter.unusedSimpArgs false
open Go.RowKit

theorem ba_ext {a b : ByteArray} (h : a.data.toList = b.data.toList) : a = b := by
  cases a with | mk a => cases b with | mk b =>
  simp only at h
  rw [Array.toList_inj.1 h]
theorem digit_text (d : Nat) (h : d < 10) : ∃ D : ByteArray, D.data.toList = [UInt8.ofNat (48 + d)] ∧ ∀ (W : World) (b c : Nat), W.cell? ⟨b, 0, none⟩ = some (.int .u8 (48 + (d : Int))) →
    (convert 29 9 (.slice (some ⟨b, 0, none⟩) 1 c)).run Tryz.prog W = .ok (.string D) W := by
  refine ⟨⟨[UInt8.ofNat (48 + d)].toArray⟩, rfl, fun W b c hc => ?_⟩
  refine conv_string (l := [UInt8.ofNat (48 + d)]) c (.inr ⟨b, 0, rfl, World.block_lt_of_cell? _ _ hc, fun i hi => ?_⟩)
  have : i = 0 := by simp at hi; omega
  subst this
  rw [Nat.add_zero, hc]
  have e : ((UInt8.ofNat (48 + d)).toNat : Int) = 48 + (d : Int) := by rw [UInt8.toNat_ofNat']; omega
  simp only [List.getD_cons_zero, e]
theorem box_cell (w : World) (x : Value) (t : TypeId) : (w.alloc (.cells #[x] t)).cell? ⟨w.heap.size, 0, none⟩ = some x := by
  rw [cell_of_row _ _ _ _ _ (0, 0) (heap_alloc_new w _)]
  rfl

set_option maxRecDepth 100000 in
set_option maxHeartbeats 1000000 in
theorem ref_digits (v : Nat) : v < 18446744073709551616 → ∀ w : World,
    Calls Tryz.prog 65 #[.int .u64 (v : Int)] w fun e w' => e = .returned (.string ⟨(Lib.decDigits v).toArray⟩) ∧ Grew w w' := by
  induction v using Nat.strongRecOn with
  | _ v ih =>
    intro hv w
    by_cases h : v < 10
    · obtain ⟨D, hD, hcv⟩ := digit_text v h
      have hDD : (⟨(Lib.decDigits v).toArray⟩ : ByteArray) = D := by
        rw [Pure.decDigits_small h, ← hD]
      rw [hDD]
      have hcv1 := hcv _ _ 1 (box_cell w (.int .u8 (48 + (v : Int))) 5)
      have g1 : Grew w (w.alloc (.cells #[.int .u8 (48 + (v : Int))] 5)) := (Below.refl _ _).alloc (Nat.le_refl _) _
      clear ih hcv hD hDD
      go_enter Tryz.func65, Tryz.ntmps65
      go_wp2
      go_ret
      exact ⟨rfl, g1⟩
    · have ih' := ih (v / 10) (by omega) (by omega)
      obtain ⟨M, hM⟩ : ∃ M : ByteArray, (⟨(Lib.decDigits (v / 10)).toArray⟩ : ByteArray) = M := ⟨_, rfl⟩
      rw [hM] at ih'
      obtain ⟨D, hD, hcv⟩ := digit_text (v % 10) (by omega)
      have hDD : (⟨(Lib.decDigits v).toArray⟩ : ByteArray) = M ++ D := by
        rw [Pure.decDigits_big h, ← hM]
        have : (⟨(Lib.decDigits (v / 10) ++ [UInt8.ofNat (48 + v % 10)]).toArray⟩ : ByteArray).data.toList = ((⟨(Lib.decDigits (v / 10)).toArray⟩ : ByteArray) ++ D).data.toList := by simp [hD]
        cases hq : (⟨(Lib.decDigits (v / 10)).toArray⟩ : ByteArray) ++ D with
        | mk a => rw [hq] at this; simp only at this; rw [← Array.toList_inj.1 this]
      rw [hDD]
      have hms : M.size ≤ 20 := by
        rw [← hM]
        have := Pure.digits_len (u := v / 10) (by omega)
        show (Lib.decDigits (v / 10)).toArray.size ≤ 20
        simp; omega
      have hds : D.size = 1 := by
        have h1 : D.data.toList.length = D.size := Array.length_toList
        rw [← h1, hD]; rfl
      clear ih hDD hD hM
      push_cast at hcv ih'
      have hw1 : IntKind.u64.wrap ((v : Int) / 10) = (v : Int) / 10 := by simp [IntKind.wrap, IntKind.bits, IntKind.signed]; omega
      have htm : (v : Int).tmod 10 = (v : Int) % 10 := Int.tmod_eq_emod_of_nonneg (by omega)
      have hw2 : IntKind.u64.wrap (48 + (v : Int) % 10) = 48 + (v : Int) % 10 := by simp [IntKind.wrap, IntKind.bits, IntKind.signed]; omega
      have hw3 : IntKind.u8.wrap (48 + (v : Int) % 10) = 48 + (v : Int) % 10 := by simp [IntKind.wrap, IntKind.bits, IntKind.signed]; omega
      have hcA : ∀ W : World, (convert 29 9 (.slice (some ⟨W.heap.size, 0, none⟩) 1 1)).run Tryz.prog (W.alloc (.cells #[.int .u8 (48 + (v : Int) % 10)] 5)) = .ok (.string D) (W.alloc (.cells #[.int .u8 (48 + (v : Int) % 10)] 5)) := fun W => hcv _ _ 1 (box_cell W _ _)
      go_enter Tryz.func65, Tryz.ntmps65
      go_wp2
      go_region_with (go_at_call 65; with_reducible refine (ih' _).mono ?_; rintro e w1 ⟨rfl, g1⟩; try (have hk := hcv w1 w.heap.size 1 (cell_grew (p := ⟨w.heap.size, 0, none⟩) (box_cell w.drew _ _) g1)))
      all_goals
        go_wp2
        go_ret
        refine ⟨rfl, ?_⟩
        first
          | exact Grew.trans' ((Below.refl _ w).drew : Grew w w.drew) (Grew.trans' g1 ((Below.refl _ _).alloc (Nat.le_refl _) _))
          | exact Grew.trans' (Grew.trans' ((Below.refl _ w).drew : Grew w w.drew) ((Below.refl _ _).alloc (Nat.le_refl _) _)) g1

theorem u64_of (z : Int) (h : 0 ≤ z) (h1 : z < 18446744073709551616) : IntKind.u64.wrap z = z := by simp [IntKind.wrap, IntKind.bits, IntKind.signed]; omega

set_option maxRecDepth 100000 in
set_option maxHeartbeats 1000000 in
theorem ref_Number (v : Int) (w : World) (h : Pure.In64 v) :
    Calls Tryz.prog 44 #[.int .i64 v] w fun e w' => e = .returned (.string ⟨(Lib.itoa v).toArray⟩) ∧ Grew w w' := by
  obtain ⟨h0, h1⟩ := h
  by_cases hn : v < 0
  · have e : (⟨(Lib.itoa v).toArray⟩ : ByteArray) = (⟨#[45]⟩ : ByteArray) ++ ⟨(Lib.decDigits v.natAbs).toArray⟩ := by
      apply ba_ext
      simp [Lib.itoa, hn]
    rw [e]
    have c := fun W => ref_digits v.natAbs (by omega) W
    have hl := Pure.digits_len (u := v.natAbs) (by omega)
    obtain ⟨M, hM⟩ : ∃ M : ByteArray, (⟨(Lib.decDigits v.natAbs).toArray⟩ : ByteArray) = M := ⟨_, rfl⟩
    have hms : M.size ≤ 20 := by
      rw [← hM]
      show (Lib.decDigits v.natAbs).toArray.size ≤ 20
      simp; omega
    rw [hM] at c ⊢
    rw [show ((v.natAbs : Nat) : Int) = -(v + 1) + 1 by omega] at c
    clear e hM hl
    go_enter Tryz.func44, Tryz.ntmps44
    go_wp2_with (go_at_call 65; with_reducible refine (c _).mono ?_; rintro e w1 ⟨rfl, g1⟩)
    go_ret
    exact ⟨rfl, g1⟩
  · have e : Lib.itoa v = Lib.decDigits v.toNat := by unfold Lib.itoa; rw [if_neg hn]
    rw [e]
    have c := fun W => ref_digits v.toNat (by omega) W
    rw [show ((v.toNat : Nat) : Int) = v by omega] at c
    go_enter Tryz.func44, Tryz.ntmps44
    go_wp2_with (go_at_call 65; with_reducible refine (c _).mono ?_; rintro e w1 ⟨rfl, g1⟩)
    go_ret
    exact ⟨rfl, g1⟩

end Go.Proofs.YtemojhcbhljemaaGreatDoor

/- The reference's TakeNumber: the number that digits of 10 say. Conditions: the text is at most 2^40 bytes long. -/
namespace Go.Proofs.YtemojhcbhljemaaGreatDoor
set_option linter.unusedVariables false
set_option linter.unusedSimpArgs false
open Go.RowKit

theorem list_len (s : ByteArray) : s.data.toList.length = s.size := Array.length_toList
theorem list_empty {s : ByteArray} (h : s.size = 0) : s.data.toList = [] := List.eq_nil_of_length_eq_zero (by rw [list_len]; exact h)
theorem list_head {s : ByteArray} (h : 0 < s.size) : s.data.toList.head? = some (s[0]'h) := by rw [List.head?_eq_getElem?]; exact Lib.data_getElem? s 0 h
theorem empty_false {s : ByteArray} (h : 0 < s.size) : s.toList.isEmpty = false := by
  rw [ByteArray.toList_eq]
  cases hl : s.data.toList with
  | nil => have := list_len s; rw [hl] at this; simp at this; omega
  | cons a b => rfl
theorem empty_true {s : ByteArray} (h : s.size = 0) : s.toList.isEmpty = true := by rw [ByteArray.toList_eq, list_empty h] <;> rfl
theorem takeV_R {l : List UInt8} (h : l ≠ []) : takeV l = match Pure.takeR l with
    | some v => .tuple #[.int .i64 v, .int .i64 0]
    | none => .tuple #[.int .i64 0, .int .i64 4] := by unfold takeV; rw [if_neg h, Pure.take_same] <;> cases Pure.takeN l <;> rfl
theorem takeV_none {l : List UInt8} (h : l ≠ []) (hn : Pure.takeR l = none) : takeV l = .tuple #[.int .i64 0, .int .i64 4] := by rw [takeV_R h, hn]
theorem takeV_some {l : List UInt8} {v : Int} (h : l ≠ []) (hn : Pure.takeR l = some v) : takeV l = .tuple #[.int .i64 v, .int .i64 0] := by rw [takeV_R h, hn]
theorem ret_two {a b : Int} (h : a = b) : Ending.returned (.tuple #[.int .i64 a, .int .i64 0]) = .returned (.tuple #[.int .i64 b, .int .i64 0]) := by rw [h]
theorem pow_grow {a k d : Nat} (h : a < 10 ^ k) (hd : d < 10) : a * 10 + d < 10 ^ (k + 1) := by rw [Nat.pow_succ]; omega
theorem pow_19 {a k : Nat} (h : a < 10 ^ k) (hk : k ≤ 19) : a < 10000000000000000000 := Nat.lt_of_lt_of_le h (Nat.pow_le_pow_right (by decide) hk)

set_option maxRecDepth 100000 in
set_option maxHeartbeats 1000000 in
theorem ref_TakeNumber_empty (s : ByteArray) (w : World) (h : s.size = 0) :
    Calls Tryz.prog 51 #[.string s] w fun e w' => e = .returned (takeV s.data.toList) ∧ Grew w w' := by
  have hv : takeV s.data.toList = .tuple #[.int .i64 0, .int .i64 3] := by unfold takeV; rw [if_pos (list_empty h)]
  have hem := empty_true h
  rw [hv]
  go_enter Tryz.func51, Tryz.ntmps51
  go_wp2
  go_ret2
  exact ⟨rfl, Below.refl _ _⟩

set_option maxRecDepth 100000 in
set_option maxHeartbeats 1000000 in
theorem ref_TakeNumber_plain (s : ByteArray) (w : World) (hs : s.size ≤ 1099511627776) (h0 : 0 < s.size) (hm : (((s[0]'h0).toNat : Int) == 45) = false) :
    Calls Tryz.prog 51 #[.string s] w fun e w' => e = .returned (takeV s.data.toList) ∧ Grew w w' := by
  have g0 : Grew w w := Below.refl _ _
  have hne : s.data.toList ≠ [] := by intro e; have := list_len s; rw [e] at this; simp at this; omega
  have hem := empty_false h0
  have hm45 : s.data.toList.head? ≠ some 45 := by
    rw [list_head h0]
    intro e
    rw [Option.some.inj e] at hm
    cases hm
  have hR := Pure.takeR_plain hm45
  clear hm45
  have hfail : Pure.takeR s.data.toList = none → takeV s.data.toList = .tuple #[.int .i64 0, .int .i64 4] := takeV_none hne
  have hgood : ∀ v, Pure.takeR s.data.toList = some v → takeV s.data.toList = .tuple #[.int .i64 v, .int .i64 0] := fun v => takeV_some hne
  clear hne
  by_cases d0 : s.size = 0
  · omega
  have d0' : 0 < s.size := by omega
  have dE : 0 < s.size := by omega
  have hem2 := empty_false (s := s) dE
  by_cases d19 : 19 < s.size
  · have ht := hfail (by rw [hR, if_pos (.inr (.inl (by rw [list_len]; omega)))])
    have f19 : decide (19 < (s.size : Int)) = true := decide_eq_true (by omega)
    skip
    rw [ht]
    clear hR ht hfail hgood
    go_enter Tryz.func51, Tryz.ntmps51
    go_wp2
    go_ret2
    exact ⟨rfl, g0⟩
  have f19 : decide (19 < (s.size : Int)) = false := decide_eq_false (by omega)
  skip
  have hh48 : s.data.toList.head? = some 48 ↔ (((s[0]'dE).toNat : Int) == 48) = true := by
    rw [list_head dE, beq_iff_eq]
    constructor
    · intro h; rw [Option.some.inj h]; rfl
    · intro h; congr 1; exact UInt8.toNat_inj.1 (by show _ = (48 : Nat); omega)
  by_cases dz : (((s[0]'dE).toNat : Int) == 48) = true ∧ 1 < s.size
  · obtain ⟨dz1, dz2⟩ := dz
    have ht := hfail (by rw [hR, if_pos (.inr (.inr ⟨hh48.2 dz1, by rw [list_len]; exact dz2⟩))])
    have f1 : decide (1 < (s.size : Int)) = true := decide_eq_true (by omega)
    rw [ht]
    clear hR ht hfail hgood hh48
    go_enter Tryz.func51, Tryz.ntmps51
    go_wp2
    go_ret2
    exact ⟨rfl, g0⟩
  have hz2 : (((s[0]'dE).toNat : Int) == 48) = false ∨ ((((s[0]'dE).toNat : Int) == 48) = true ∧ decide (1 < (s.size : Int)) = false) := by
    cases hq : (((s[0]'dE).toNat : Int) == 48) with
    | false => exact .inl rfl
    | true => exact .inr ⟨rfl, decide_eq_false (by intro h; exact dz ⟨hq, by omega⟩)⟩
  have hR3 : Pure.takeR s.data.toList = (Pure.dec 0 s.data.toList).bind fun v => if 9223372036854775808 ≤ v then none else some ((v : Int)) := by rw [hR, if_neg (by rintro (h | h | h); exact d0 (by rw [← list_len, h]; rfl); rw [list_len] at h; omega; rw [list_len] at h; exact dz ⟨hh48.1 h.1, h.2⟩)]
  have HR := Lib.hid hR3
  have HF := Lib.hid hfail
  have HG := Lib.hid hgood
  have hlen : s.data.toList.length = s.size := (list_len s).trans (by omega)
  have HL := Lib.hid hlen
  clear hR hR3 hfail hgood hh48 hlen
  rcases hz2 with hz2 | ⟨hz2, hz3⟩
  all_goals
    go_enter Tryz.func51, Tryz.ntmps51
    go_wp2
    go_loopw [6, 7] (fun v i wr => ∃ acc k : Nat, v = .int .u64 (acc : Int) ∧ i = .int .i64 (k : Int) ∧ k ≤ s.size ∧ acc < 10000000000000000000 ∧ Hid (acc < 10 ^ k) ∧ Hid (Pure.dec 0 s.data.toList = Pure.dec acc (s.data.toList.drop k)) ∧ Grew w wr) (fun _ i _ => s.size - (intOf i).toNat)
    case atStart => exact ⟨0, 0, rfl, rfl, by omega, by decide, by simp [Hid], by simp [Hid], g0⟩
    case round =>
      obtain ⟨acc, k, rfl, rfl, hk, hacc, hpow, hdec, hb⟩ := hrel
      clear g0
      by_cases hlt : k < s.size
      · skip
        have hltE : k < s.size := by omega
        have hx := Lib.data_getElem? s k hltE
        have hdrop : s.data.toList.drop k = (s[k]'hltE) :: s.data.toList.drop (k + 1) := by
          rw [List.getElem?_eq_getElem (by have := HL.out; omega)] at hx
          rw [List.drop_eq_getElem_cons (by have := HL.out; omega), Option.some.inj hx]
        have hdec2 := hdec.out
        rw [hdrop, Pure.dec] at hdec2
        obtain ⟨c, hc⟩ : ∃ c : Nat, (s[k]'hltE).toNat = c := ⟨_, rfl⟩
        have hc256 : c < 256 := by rw [← hc]; exact (s[k]'hltE).toNat_lt
        rw [hc] at hdec2
        by_cases hdig : 48 ≤ c ∧ c ≤ 57
        · rw [if_pos hdig] at hdec2
          obtain ⟨hd0, hd1⟩ := hdig
          have hz : ((s[k]'hltE).toNat : Int) = (c : Int) := by rw [hc]
          have hp2 := pow_grow hpow.out (show c - 48 < 10 by omega)
          have hp3 := pow_19 hp2 (by omega)
          have t1 : decide (((s[k]'hltE).toNat : Int) < 48) = false := decide_eq_false (by omega)
          have t2 : decide (57 < ((s[k]'hltE).toNat : Int)) = false := decide_eq_false (by omega)
          have hw1 : IntKind.u64.wrap (10 * (acc : Int)) = 10 * (acc : Int) := by simp [IntKind.wrap, IntKind.bits, IntKind.signed]; omega
          have HD := Lib.hid hdec2
          have HP := Lib.hid hp2
          clear hdec hdec2 hdrop hx hpow hp2
          go_wp2
          go_roundw
          case rel => exact ⟨acc * 10 + (c - 48), k + 1, val_int (by omega), by go_num, by omega, hp3, HP, by unfold Hid; exact HD.out, hb⟩
          case measure => simp [intOf]; omega
        · rw [if_neg hdig] at hdec2
          have ht := HF.out (by rw [HR.out, hdec2]; rfl)
          have HT := Lib.hid ht
          have hz : ((s[k]'hltE).toNat : Int) = (c : Int) := by rw [hc]
          clear hdec hdec2 hdrop hx hpow ht
          by_cases u1 : c < 48
          · have t1 : decide (((s[k]'hltE).toNat : Int) < 48) = true := decide_eq_true (by omega)
            go_wp2
            go_ret2
            exact ⟨by rw [HT.out]; rfl, hb⟩
          · have t1 : decide (((s[k]'hltE).toNat : Int) < 48) = false := decide_eq_false (by omega)
            have t2 : decide (57 < ((s[k]'hltE).toNat : Int)) = true := decide_eq_true (by omega)
            go_wp2
            go_ret2
            exact ⟨by rw [HT.out]; rfl, hb⟩
      · skip
        have hdec2 := hdec.out
        rw [List.drop_of_length_le (by have := HL.out; omega), Pure.dec] at hdec2
        have hR4 := HR.out
        rw [hdec2, Option.bind_some] at hR4
        by_cases b : 9223372036854775808 ≤ acc
        · rw [if_pos b] at hR4
          have ht := HF.out hR4
          have HT := Lib.hid ht
          clear hR4 ht hdec hdec2 hpow
          by_cases b2 : 9223372036854775808 < acc
          · have t1 : decide (9223372036854775808 < (acc : Int)) = true := decide_eq_true (by omega)
            go_wp2
            go_ret2
            exact ⟨by rw [HT.out]; rfl, hb⟩
          · have t1 : decide (9223372036854775808 < (acc : Int)) = false := decide_eq_false (by omega)
            have t2 : ((acc : Int) == 9223372036854775808) = true := by rw [beq_iff_eq]; omega
            go_wp2
            go_ret2
            exact ⟨by rw [HT.out]; rfl, hb⟩
        · rw [if_neg b] at hR4
          have ht := HG.out _ hR4
          have HT := Lib.hid ht
          have t1 : decide (9223372036854775808 < (acc : Int)) = false := decide_eq_false (by omega)
          have t2 : ((acc : Int) == 9223372036854775808) = false := by rw [beq_eq_false_iff_ne]; omega
          clear hR4 ht hdec hdec2 hpow
          go_wp2
          go_ret2
          exact ⟨by rw [HT.out]; rfl, hb⟩

set_option maxRecDepth 100000 in
set_option maxHeartbeats 1000000 in
theorem ref_TakeNumber_minus (s : ByteArray) (w : World) (hs : s.size ≤ 1099511627776) (h0 : 0 < s.size) (hm : (((s[0]'h0).toNat : Int) == 45) = true) :
    Calls Tryz.prog 51 #[.string s] w fun e w' => e = .returned (takeV s.data.toList) ∧ Grew w w' := by
  have g0 : Grew w w := Below.refl _ _
  have hne : s.data.toList ≠ [] := by intro e; have := list_len s; rw [e] at this; simp at this; omega
  have hem := empty_false h0
  have hm45 : s.data.toList.head? = some 45 := by
    rw [list_head h0]
    congr 1
    rw [beq_iff_eq] at hm
    exact UInt8.toNat_inj.1 (by show _ = (45 : Nat); omega)
  have hT : s.data.toList.tail = (s.extract 1 s.size).data.toList := by rw [Lib.extract_to_end, List.drop_one]
  have hez0 : (s.extract 1 s.size).size = s.size - 1 := by rw [ByteArray.size_extract]; omega
  obtain ⟨D, hDe⟩ : ∃ D, s.extract 1 s.size = D := ⟨_, rfl⟩
  rw [hDe] at hT hez0
  have hZ : D.size + 1 = s.size := by omega
  have hR := Pure.takeR_minus hm45
  rw [hT] at hR
  clear hm45 hT
  clear hez0
  have hfail : Pure.takeR s.data.toList = none → takeV s.data.toList = .tuple #[.int .i64 0, .int .i64 4] := takeV_none hne
  have hgood : ∀ v, Pure.takeR s.data.toList = some v → takeV s.data.toList = .tuple #[.int .i64 v, .int .i64 0] := fun v => takeV_some hne
  clear hne
  by_cases d0 : D.size = 0
  · have hem2 := empty_true (s := D) (by omega)
    have ht := hfail (by rw [hR, if_pos (.inl (list_empty (by omega)))])
    rw [ht]
    clear hR ht hfail hgood
    go_enter Tryz.func51, Tryz.ntmps51
    go_wp2
    go_ret2
    exact ⟨rfl, g0⟩
  have d0' : 0 < D.size := by omega
  have dE : 0 < D.size := by omega
  have hem2 := empty_false (s := D) dE
  by_cases d19 : 19 < D.size
  · have ht := hfail (by rw [hR, if_pos (.inr (.inl (by rw [list_len]; omega)))])
    have f19 : decide (19 < (D.size : Int)) = true := decide_eq_true (by omega)
    skip
    rw [ht]
    clear hR ht hfail hgood
    go_enter Tryz.func51, Tryz.ntmps51
    go_wp2
    go_ret2
    exact ⟨rfl, g0⟩
  have f19 : decide (19 < (D.size : Int)) = false := decide_eq_false (by omega)
  skip
  have hh48 : D.data.toList.head? = some 48 ↔ (((D[0]'dE).toNat : Int) == 48) = true := by
    rw [list_head dE, beq_iff_eq]
    constructor
    · intro h; rw [Option.some.inj h]; rfl
    · intro h; congr 1; exact UInt8.toNat_inj.1 (by show _ = (48 : Nat); omega)
  by_cases dz : (((D[0]'dE).toNat : Int) == 48) = true
  · have ht := hfail (by rw [hR, if_pos (.inr (.inr (hh48.2 dz)))])
    rw [ht]
    clear hR ht hfail hgood hh48
    go_enter Tryz.func51, Tryz.ntmps51
    go_wp2
    all_goals (go_ret2; exact ⟨rfl, g0⟩)
  have hz2 : (((D[0]'dE).toNat : Int) == 48) = false := by simpa using dz
  have hR3 : Pure.takeR s.data.toList = (Pure.dec 0 D.data.toList).bind fun v => if 9223372036854775808 < v then none else some (-(v : Int)) := by rw [hR, if_neg (by rintro (h | h | h); exact d0 (by rw [← list_len, h]; rfl); rw [list_len] at h; omega; exact dz (hh48.1 h))]
  have HR := Lib.hid hR3
  have HF := Lib.hid hfail
  have HG := Lib.hid hgood
  have hlen : D.data.toList.length = D.size := (list_len D).trans (by omega)
  have HL := Lib.hid hlen
  clear hR hR3 hfail hgood hh48 hlen
  all_goals
    go_enter Tryz.func51, Tryz.ntmps51
    go_wp2
    go_loopw [6, 7] (fun v i wr => ∃ acc k : Nat, v = .int .u64 (acc : Int) ∧ i = .int .i64 (k : Int) ∧ k ≤ D.size ∧ acc < 10000000000000000000 ∧ Hid (acc < 10 ^ k) ∧ Hid (Pure.dec 0 D.data.toList = Pure.dec acc (D.data.toList.drop k)) ∧ Grew w wr) (fun _ i _ => D.size - (intOf i).toNat)
    case atStart => exact ⟨0, 0, rfl, rfl, by omega, by decide, by simp [Hid], by simp [Hid], g0⟩
    case round =>
      obtain ⟨acc, k, rfl, rfl, hk, hacc, hpow, hdec, hb⟩ := hrel
      clear g0
      by_cases hlt : k < D.size
      · skip
        have hltE : k < D.size := by omega
        have hx := Lib.data_getElem? D k hltE
        have hdrop : D.data.toList.drop k = (D[k]'hltE) :: D.data.toList.drop (k + 1) := by
          rw [List.getElem?_eq_getElem (by have := HL.out; omega)] at hx
          rw [List.drop_eq_getElem_cons (by have := HL.out; omega), Option.some.inj hx]
        have hdec2 := hdec.out
        rw [hdrop, Pure.dec] at hdec2
        obtain ⟨c, hc⟩ : ∃ c : Nat, (D[k]'hltE).toNat = c := ⟨_, rfl⟩
        have hc256 : c < 256 := by rw [← hc]; exact (D[k]'hltE).toNat_lt
        rw [hc] at hdec2
        by_cases hdig : 48 ≤ c ∧ c ≤ 57
        · rw [if_pos hdig] at hdec2
          obtain ⟨hd0, hd1⟩ := hdig
          have hz : ((D[k]'hltE).toNat : Int) = (c : Int) := by rw [hc]
          have hp2 := pow_grow hpow.out (show c - 48 < 10 by omega)
          have hp3 := pow_19 hp2 (by omega)
          have t1 : decide (((D[k]'hltE).toNat : Int) < 48) = false := decide_eq_false (by omega)
          have t2 : decide (57 < ((D[k]'hltE).toNat : Int)) = false := decide_eq_false (by omega)
          have hw1 : IntKind.u64.wrap (10 * (acc : Int)) = 10 * (acc : Int) := by simp [IntKind.wrap, IntKind.bits, IntKind.signed]; omega
          have HD := Lib.hid hdec2
          have HP := Lib.hid hp2
          clear hdec hdec2 hdrop hx hpow hp2
          go_wp2
          go_roundw
          case rel => exact ⟨acc * 10 + (c - 48), k + 1, val_int (by omega), by go_num, by omega, hp3, HP, by unfold Hid; exact HD.out, hb⟩
          case measure => simp [intOf]; omega
        · rw [if_neg hdig] at hdec2
          have ht := HF.out (by rw [HR.out, hdec2]; rfl)
          have HT := Lib.hid ht
          have hz : ((D[k]'hltE).toNat : Int) = (c : Int) := by rw [hc]
          clear hdec hdec2 hdrop hx hpow ht
          by_cases u1 : c < 48
          · have t1 : decide (((D[k]'hltE).toNat : Int) < 48) = true := decide_eq_true (by omega)
            go_wp2
            go_ret2
            exact ⟨by rw [HT.out]; rfl, hb⟩
          · have t1 : decide (((D[k]'hltE).toNat : Int) < 48) = false := decide_eq_false (by omega)
            have t2 : decide (57 < ((D[k]'hltE).toNat : Int)) = true := decide_eq_true (by omega)
            go_wp2
            go_ret2
            exact ⟨by rw [HT.out]; rfl, hb⟩
      · skip
        have hdec2 := hdec.out
        rw [List.drop_of_length_le (by have := HL.out; omega), Pure.dec] at hdec2
        have hR4 := HR.out
        rw [hdec2, Option.bind_some] at hR4
        by_cases b : 9223372036854775808 < acc
        · rw [if_pos b] at hR4
          have ht := HF.out hR4
          have HT := Lib.hid ht
          clear hR4 ht hdec hdec2 hpow
          have t1 : decide (9223372036854775808 < (acc : Int)) = true := decide_eq_true (by omega)
          go_wp2
          go_ret2
          exact ⟨by rw [HT.out]; rfl, hb⟩
        · rw [if_neg b] at hR4
          have ht := HG.out _ hR4
          have HT := Lib.hid ht
          have t1 : decide (9223372036854775808 < (acc : Int)) = false := decide_eq_false (by omega)
          clear hR4 ht hdec hdec2 hpow
          by_cases z : acc = 0
          · subst z
            go_wp2
            go_ret2
            refine ⟨?_, hb⟩
            rw [HT.out]
            exact ret_two (a := wrap64 (wrap64 (-wrap64 (IntKind.u64.wrap (-1))) - 1)) (by simp [wrap64, IntKind.wrap, IntKind.bits, IntKind.signed])
          · have hw : IntKind.u64.wrap ((acc : Int) - 1) = (acc : Int) - 1 := by simp [IntKind.wrap, IntKind.bits, IntKind.signed]; omega
            go_wp2
            go_ret2
            refine ⟨?_, hb⟩
            rw [HT.out]
            exact ret_two (a := -((acc : Int) - 1) - 1) (by omega)

theorem ref_TakeNumber (s : ByteArray) (w : World) (hs : s.size ≤ 1099511627776) :
    Calls Tryz.prog 51 #[.string s] w fun e w' => e = .returned (takeV s.data.toList) ∧ Grew w w' := by
  by_cases h0 : s.size = 0
  · exact ref_TakeNumber_empty s w h0
  · have h0' : 0 < s.size := by omega
    cases hm : (((s[0]'h0').toNat : Int) == 45) with
    | false => exact ref_TakeNumber_plain s w hs h0' hm
    | true => exact ref_TakeNumber_minus s w hs h0' hm

end Go.Proofs.YtemojhcbhljemaaGreatDoor

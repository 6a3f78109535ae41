/- The reference's Number: the digits of 10 of any number. Conditions: none. -/
import Derived.Test.YtdlhabldjdkfbaaDoorWords2
import Derived.Test.YtdlhabldjdkfbaaDoorPure01c
import Derived.Deep.RegionWith
import Derived.Test.YtdlhabldjdkfbaaDoorTabs0
namespace Go.Proofs.YtdlhabldjdkfbaaDoor
set_option linter.unusedVariables false
set_option linter.unusedSimpArgs false
open Go.RowKit

theorem ba_ext {a b : ByteArray} (h : a.data.toList = b.data.toList) : a = b := by
  cases a with | mk a => cases b with | mk b =>
  simp only at h
  rw [Array.toList_inj.1 h]
theorem digit_text (d : Nat) (h : d < 10) : ∃ D : ByteArray, D.data.toList = [UInt8.ofNat (48 + d)] ∧ ∀ (W : World) (b c : Nat), W.cell? ⟨b, 0, none⟩ = some (.int .u8 (48 + (d : Int))) →
    (convert 22 9 (.slice (some ⟨b, 0, none⟩) 1 c)).run Tryd.prog W = .ok (.string D) W := by
  refine ⟨⟨[UInt8.ofNat (48 + d)].toArray⟩, rfl, fun W b c hc => ?_⟩
  refine conv_string (l := [UInt8.ofNat (48 + d)]) c (.inr ⟨b, 0, rfl, World.block_lt_of_cell? _ _ hc, fun i hi => ?_⟩)
  have : i = 0 := by simp at hi; omega
  subst this
  rw [Nat.add_zero, hc]
  have e : ((UInt8.ofNat (48 + d)).toNat : Int) = 48 + (d : Int) := by rw [UInt8.toNat_ofNat']; omega
  simp only [List.getD_cons_zero, e]
theorem box_cell (w : World) (x : Value) (t : TypeId) : (w.alloc (.cells #[x] t)).cell? ⟨w.heap.size, 0, none⟩ = some x := by
  rw [cell_of_row _ _ _ _ _ (0, 0) (heap_alloc_new w _)]
  rfl

set_option maxRecDepth 100000 in
set_option maxHeartbeats 1000000 in
theorem ref_digits (v : Nat) : v < 18446744073709551616 → ∀ w : World,
    Calls Tryd.prog 24 #[.int .u64 (v : Int)] w fun e w' => e = .returned (.string ⟨(Lib.decDigits v).toArray⟩) ∧ Grew w w' := by
  induction v using Nat.strongRecOn with
  | _ v ih =>
    intro hv w
    by_cases h : v < 10
    · obtain ⟨D, hD, hcv⟩ := digit_text v h
      have hDD : (⟨(Lib.decDigits v).toArray⟩ : ByteArray) = D := by
        rw [Pure.decDigits_small h, ← hD]
      rw [hDD]
      have hcv1 := hcv _ _ 1 (box_cell w (.int .u8 (48 + (v : Int))) 5)
      have g1 : Grew w (w.alloc (.cells #[.int .u8 (48 + (v : Int))] 5)) := (Below.refl _ _).alloc (Nat.le_refl _) _
      clear ih hcv hD hDD
      go_enter Tryd.func24, Tryd.ntmps24
      go_wp2
      go_ret
      exact ⟨rfl, g1⟩
    · have ih' := ih (v / 10) (by omega) (by omega)
      obtain ⟨M, hM⟩ : ∃ M : ByteArray, (⟨(Lib.decDigits (v / 10)).toArray⟩ : ByteArray) = M := ⟨_, rfl⟩
      rw [hM] at ih'
      obtain ⟨D, hD, hcv⟩ := digit_text (v % 10) (by omega)
      have hDD : (⟨(Lib.decDigits v).toArray⟩ : ByteArray) = M ++ D := by
        rw [Pure.decDigits_big h, ← hM]
        have : (⟨(Lib.decDigits (v / 10) ++ [UInt8.ofNat (48 + v % 10)]).toArray⟩ : ByteArray).data.toList = ((⟨(Lib.decDigits (v / 10)).toArray⟩ : ByteArray) ++ D).data.toList := by simp [hD]
        cases hq : (⟨(Lib.decDigits (v / 10)).toArray⟩ : ByteArray) ++ D with
        | mk a => rw [hq] at this; simp only at this; rw [← Array.toList_inj.1 this]
      rw [hDD]
      have hms : M.size ≤ 20 := by
        rw [← hM]
        have := Pure.digits_len (u := v / 10) (by omega)
        show (Lib.decDigits (v / 10)).toArray.size ≤ 20
        simp; omega
      have hds : D.size = 1 := by
        have h1 : D.data.toList.length = D.size := Array.length_toList
        rw [← h1, hD]; rfl
      clear ih hDD hD hM
      push_cast at hcv ih'
      have hw1 : IntKind.u64.wrap ((v : Int) / 10) = (v : Int) / 10 := by simp [IntKind.wrap, IntKind.bits, IntKind.signed]; omega
      have htm : (v : Int).tmod 10 = (v : Int) % 10 := Int.tmod_eq_emod_of_nonneg (by omega)
      have hw2 : IntKind.u64.wrap (48 + (v : Int) % 10) = 48 + (v : Int) % 10 := by simp [IntKind.wrap, IntKind.bits, IntKind.signed]; omega
      have hw3 : IntKind.u8.wrap (48 + (v : Int) % 10) = 48 + (v : Int) % 10 := by simp [IntKind.wrap, IntKind.bits, IntKind.signed]; omega
      have hcA : ∀ W : World, (convert 22 9 (.slice (some ⟨W.heap.size, 0, none⟩) 1 1)).run Tryd.prog (W.alloc (.cells #[.int .u8 (48 + (v : Int) % 10)] 5)) = .ok (.string D) (W.alloc (.cells #[.int .u8 (48 + (v : Int) % 10)] 5)) := fun W => hcv _ _ 1 (box_cell W _ _)
      go_enter Tryd.func24, Tryd.ntmps24
      go_wp2
      go_region_with (go_at_call 24; with_reducible refine (ih' _).mono ?_; rintro e w1 ⟨rfl, g1⟩; try (have hk := hcv w1 w.heap.size 1 (cell_grew (p := ⟨w.heap.size, 0, none⟩) (box_cell w.drew _ _) g1)))
      all_goals
        go_wp2
        go_ret
        refine ⟨rfl, ?_⟩
        first
          | exact Grew.trans' ((Below.refl _ w).drew : Grew w w.drew) (Grew.trans' g1 ((Below.refl _ _).alloc (Nat.le_refl _) _))
          | exact Grew.trans' (Grew.trans' ((Below.refl _ w).drew : Grew w w.drew) ((Below.refl _ _).alloc (Nat.le_refl _) _)) g1

theorem u64_of (z : Int) (h : 0 ≤ z) (h1 : z < 18446744073709551616) : IntKind.u64.wrap z = z := by simp [IntKind.wrap, IntKind.bits, IntKind.signed]; omega

set_option maxRecDepth 100000 in
set_option maxHeartbeats 1000000 in
theorem ref_Number (v : Int) (w : World) (h : Pure.In64 v) :
    Calls Tryd.prog 10 #[.int .i64 v] w fun e w' => e = .returned (.string ⟨(Lib.itoa v).toArray⟩) ∧ Grew w w' := by
  obtain ⟨h0, h1⟩ := h
  by_cases hn : v < 0
  · have e : (⟨(Lib.itoa v).toArray⟩ : ByteArray) = (⟨#[45]⟩ : ByteArray) ++ ⟨(Lib.decDigits v.natAbs).toArray⟩ := by
      apply ba_ext
      simp [Lib.itoa, hn]
    rw [e]
    have c := fun W => ref_digits v.natAbs (by omega) W
    have hl := Pure.digits_len (u := v.natAbs) (by omega)
    obtain ⟨M, hM⟩ : ∃ M : ByteArray, (⟨(Lib.decDigits v.natAbs).toArray⟩ : ByteArray) = M := ⟨_, rfl⟩
    have hms : M.size ≤ 20 := by
      rw [← hM]
      show (Lib.decDigits v.natAbs).toArray.size ≤ 20
      simp; omega
    rw [hM] at c ⊢
    rw [show ((v.natAbs : Nat) : Int) = -(v + 1) + 1 by omega] at c
    clear e hM hl
    go_enter Tryd.func10, Tryd.ntmps10
    go_wp2_with (go_at_call 24; with_reducible refine (c _).mono ?_; rintro e w1 ⟨rfl, g1⟩)
    go_ret
    exact ⟨rfl, g1⟩
  · have e : Lib.itoa v = Lib.decDigits v.toNat := by unfold Lib.itoa; rw [if_neg hn]
    rw [e]
    have c := fun W => ref_digits v.toNat (by omega) W
    rw [show ((v.toNat : Nat) : Int) = v by omega] at c
    go_enter Tryd.func10, Tryd.ntmps10
    go_wp2_with (go_at_call 24; with_reducible refine (c _).mono ?_; rintro e w1 ⟨rfl, g1⟩)
    go_ret
    exact ⟨rfl, g1⟩

end Go.Proofs.YtdlhabldjdkfbaaDoor

/- The law HexaBad of layer 1, walked: for any bytes, numbers and byte the call returns true, and nothing that was there has changed. Conditions: the library's variables are laid. -/
import Derived.Test.YtejoknkacpopeaaDoorLaw01d
import Derived.Deep.RegionWith
import Derived.Lib.ConvBytes
import Derived.Test.YtejoknkacpopeaaDoorFrozen
namespace Go.Proofs.YtejoknkacpopeaaDoor
set_option linter.unusedVariables false
set_option linter.unusedSimpArgs false
open Go.RowKit

/-- A text whose last byte is no digit is no number. -/
theorem takeN_last {l : List UInt8} {c : UInt8} (h : l.getLast? = some c) (hc : ¬ (48 ≤ c.toNat ∧ c.toNat ≤ 57)) : Pure.takeN l = none := by
  cases hq : Pure.takeN l with
  | none => rfl
  | some v =>
    exfalso
    have h1 := (Pure.takeN_some hq).1
    have key : ∀ u : Nat, ∃ d, d < 10 ∧ (Lib.decDigits u).getLast? = some (UInt8.ofNat (48 + d)) := by
      intro u
      by_cases h10 : u < 10
      · exact ⟨u, h10, by rw [Pure.decDigits_small h10]; rfl⟩
      · exact ⟨u % 10, by omega, by rw [Pure.decDigits_big h10]; simp⟩
    have hl : ∃ d, d < 10 ∧ l.getLast? = some (UInt8.ofNat (48 + d)) := by
      rw [← h1]
      unfold Lib.itoa
      split
      · obtain ⟨d, hd, e⟩ := key v.natAbs
        refine ⟨d, hd, ?_⟩
        rw [List.getLast?_cons, e]; rfl
      · exact key _
    obtain ⟨d, hd, e⟩ := hl
    rw [h] at e
    have := Option.some.inj e
    rw [this, UInt8.toNat_ofNat'] at hc
    omega

set_option maxRecDepth 100000 in
set_option maxHeartbeats 1000000 in
theorem law_HexaBad_awake (a : Option Addr) (l : List UInt8) (cap : Nat) (v p b : Int) (w : World) (hl : l.length ≤ 9223372036854775807) (hb0 : 0 ≤ b) (hb1 : b ≤ 255) (hT : TabOk w)
    (h : l.length = 0 ∨ 300 < l.length ∨ (48 ≤ b ∧ b ≤ 57) ∨ (97 ≤ b ∧ b ≤ 102) ∨ b = 45) :
    Calls Tryd.prog 7 #[.slice a l.length cap, .int .i64 v, .int .i64 p, .int .u8 b] w fun e w' => e = .returned (.bool true) ∧ Grew w w' := by
  have g0 : Grew w w := Below.refl _ _
  have ca := (fun W g => awake01 W (hT.grew g) : ∀ W, Grew w W → _)
  rcases h with h | h | ⟨h, h2⟩ | ⟨h, h2⟩ | h
  all_goals
    try (have f1 : ((l.length : Int) == 0) = true := by rw [beq_iff_eq]; omega)
    try (have f2 : decide (300 < (l.length : Int)) = true := decide_eq_true (by omega))
    go_enter Tryd.func7, Tryd.ntmps7
    go_wp2_with (first | (go_at_call 8; with_reducible refine (ca _ (by assumption)).mono ?_; rintro e1 W1 ⟨rfl, g1⟩; replace g1 := Grew.trans' (a := w) (by assumption) g1))
    all_goals
      first
        | (go_ret; exact ⟨rfl, by assumption⟩)
        | (exfalso; omega)
        | go_outline

theorem law_HexaBad_main (a : Option Addr) (l : List UInt8) (cap : Nat) (v p b : Int) (w : World) (hr : Rd w a l) (hv0 : -9223372036854775808 ≤ v) (hv1 : v ≤ 9223372036854775807) (hp0 : -9223372036854775808 ≤ p) (hp1 : p ≤ 9223372036854775807) (hb0 : 0 ≤ b) (hb1 : b ≤ 255) (hT : TabOk w) (hE : ErrOk w)
    (hl0 : 0 < l.length) (hl3 : l.length ≤ 300) (h : (b < 48 ∧ b ≠ 45) ∨ (57 < b ∧ b < 97) ∨ 102 < b) :
    Calls Tryd.prog 7 #[.slice a l.length cap, .int .i64 v, .int .i64 p, .int .u8 b] w fun e w' => e = .returned (.bool true) ∧ Grew w w' := by
  have g0 : Grew w w := Below.refl _ _
  have ca := (fun W g => awake01 W (hT.grew g) : ∀ W, Grew w W → _)
  have f1 : ((l.length : Int) == 0) = false := by rw [beq_eq_false_iff_ne]; omega
  have f2 : decide (300 < (l.length : Int)) = false := decide_eq_false (by omega)
  have f3 : (b == 45) = false := by rw [beq_eq_false_iff_ne]; omega
  obtain ⟨H, hH⟩ : ∃ H : ByteArray, (⟨(Pure.hex l).toArray⟩ : ByteArray) = H := ⟨_, rfl⟩
  have hHl : H.data.toList = Pure.hex l := by rw [← hH]
  have hHs : H.size = 2 * l.length := by
    have h1 : H.data.toList.length = H.size := Array.length_toList
    rw [hHl, Pure.hex_length] at h1
    omega
  have c1 := (fun W g => hexa_Hex a l cap W (by omega) (hr.below g (Nat.le_refl _)) : ∀ W, Grew w W → _)
  rw [hH] at c1
  obtain ⟨N, hN⟩ : ∃ N : ByteArray, (⟨(Lib.itoa v).toArray⟩ : ByteArray) = N := ⟨_, rfl⟩
  have hNs : N.size ≤ 21 := by
    rw [← hN]
    have := Lib.itoa_length_le v hv0 hv1
    show (Lib.itoa v).toArray.size ≤ 21
    simpa using this
  have hN0 : 0 < N.size := by
    rw [← hN]
    show 0 < (Lib.itoa v).toArray.size
    unfold Lib.itoa
    split
    · simp
    · have := Pure.digits_ne v.toNat
      have h2 := List.length_pos_iff.2 this
      simpa using h2
  have c3 := (fun W g => hexa_Number v W hv0 hv1 (hT.grew g) : ∀ W, Grew w W → _)
  rw [hN] at c3
  have k1 : ∀ W : World, (convert 9 22 (.string H)).run Tryd.prog W = .ok (.slice (some ⟨W.heap.size, 0, none⟩) H.size (grownCap W H.size 0 5)) (Lib.bytesWorld W 5 H) := fun W => Lib.run_convert_string_bytes W _ _ _ H Tryd.underlying9 Tryd.underlying22 Tryd.underlying5
  have k2 : ∀ W : World, (convert 9 22 (.string N)).run Tryd.prog W = .ok (.slice (some ⟨W.heap.size, 0, none⟩) N.size (grownCap W N.size 0 5)) (Lib.bytesWorld W 5 N) := fun W => Lib.run_convert_string_bytes W _ _ _ N Tryd.underlying9 Tryd.underlying22 Tryd.underlying5
  clear hH hN
  rcases h with ⟨h, h2⟩ | ⟨h, h2⟩ | h
  all_goals
    go_enter Tryd.func7, Tryd.ntmps7
    go_wp2_with (go_at_call 14; with_reducible refine (c1 _ g0).mono ?_; rintro e1 W1 ⟨rfl, g1⟩)
    have gA := Grew.trans' g1 (Lib.bytesWorld_below W1 5 H)
    have hb1 := Lib.bytesWorld_at_new W1 5 H
    generalize Lib.bytesWorld W1 5 H = W2 at gA hb1 ⊢
    have hH1 := Lib.hid (holds_bytes W1 5 H)
    generalize Lib.bytesCells W1 5 H = A1 at hb1 hH1
    have hBw1 : w.heap.size ≤ W1.heap.size := g1.size
    generalize hB1 : W1.heap.size = B1 at hb1 hBw1 ⊢
    refine (c3 _ gA).mono ?_
    rintro e3 W3 ⟨rfl, g3⟩
    have gB := Grew.trans' gA g3
    have hb2 := (g3.block B1 (Array.getElem?_eq_some_iff.1 hb1).1).trans hb1
    have gC := Grew.trans' gB (Lib.bytesWorld_below W3 5 N)
    have hb3 := ((Lib.bytesWorld_below W3 5 N).block B1 (Array.getElem?_eq_some_iff.1 hb2).1).trans hb2
    have ht3 := Lib.bytesWorld_at_new W3 5 N
    go_wp2_with fail
    have hH2 := Lib.hid (holds_bytes W3 5 N)
    generalize Lib.bytesCells W3 5 N = A2 at ht3 hH2
    have hB12 : B1 ≠ W3.heap.size := by have := (Array.getElem?_eq_some_iff.1 hb2).1; omega
    have hBw2 : w.heap.size ≤ W3.heap.size := gB.size
    generalize hB2 : W3.heap.size = B2 at ht3 hB12 hBw2 ⊢
    generalize Lib.bytesWorld W3 5 N = W4 at gC hb3 ht3 ⊢
    refine (ca _ gC).mono ?_
    rintro e5 W5 ⟨rfl, g5⟩
    have gD := Grew.trans' gC g5
    have hb5 := (g5.block B1 (Array.getElem?_eq_some_iff.1 hb3).1).trans hb3
    have ht5 := (g5.block B2 (Array.getElem?_eq_some_iff.1 ht3).1).trans ht3
    obtain ⟨K, hK, hKl⟩ := pick_wrap p (2 * l.length) (2 * (l.length : Int)) (by omega) (by omega) (by omega)
    obtain ⟨c, hcb⟩ : ∃ c : UInt8, (c.toNat : Int) = b := ⟨UInt8.ofNat b.toNat, by rw [UInt8.toNat_ofNat']; omega⟩
    have hA1 : Holds8 A1 H.data.toList := hH1.out
    have hA2 : Holds8 A2 N.data.toList := hH2.out
    have hs1 := holds_size hA1
    have hs2 := holds_size hA2
    have hHn : H.data.toList.length = H.size := Array.length_toList
    have hNn : N.data.toList.length = N.size := Array.length_toList
    obtain ⟨o1, hc1⟩ : ∃ o, W5.cell? ⟨B1, K, none⟩ = some o := by
      rw [cell_of_row W5 B1 K _ _ _ hb5]
      exact ⟨_, Array.getElem?_eq_getElem (by omega)⟩
    have hf1 := frozen_any W5 B1 K _ _ _ _ hb5 (by omega)
    have hw6a := set_cell_any W5 B1 K _ _ _ (.int .u8 b) hb5
    have hw6b := (heap_setCell_other W5 ⟨B1, K, none⟩ B2 (.int .u8 b) (by exact fun e => hB12 e.symm)).trans ht5
    have gW6 : Grew w (W5.setCell ⟨B1, K, none⟩ (.int .u8 b)) := gD.setCell (p := ⟨B1, K, none⟩) hBw1 _
    obtain ⟨W6, hW6⟩ : ∃ W6, W5.setCell ⟨B1, K, none⟩ (.int .u8 b) = W6 := ⟨_, rfl⟩
    rw [hW6] at hw6a hw6b gW6
    obtain ⟨o2, hc2⟩ : ∃ o, W6.cell? ⟨B2, N.size - 1, none⟩ = some o := by
      rw [cell_of_row W6 B2 _ _ _ _ hw6b]
      exact ⟨_, Array.getElem?_eq_getElem (by omega)⟩
    have hf2 := frozen_any W6 B2 (N.size - 1) _ _ _ _ hw6b (by omega)
    have hw7b := set_cell_any W6 B2 (N.size - 1) _ _ _ (.int .u8 b) hw6b
    have hw7a := (heap_setCell_other W6 ⟨B2, N.size - 1, none⟩ B1 (.int .u8 b) hB12).trans hw6a
    have gW7 : Grew w (W6.setCell ⟨B2, N.size - 1, none⟩ (.int .u8 b)) := gW6.setCell (p := ⟨B2, N.size - 1, none⟩) hBw2 _
    obtain ⟨W7, hW7⟩ : ∃ W7, W6.setCell ⟨B2, N.size - 1, none⟩ (.int .u8 b) = W7 := ⟨_, rfl⟩
    rw [hW7] at hw7a hw7b gW7
    rw [← hcb] at hw7a hw7b
    have hr1 := rd_holds hw7a (holds_set hA1 K c)
    have hr2 := rd_holds hw7b (holds_set hA2 (N.size - 1) c)
    have k5 := conv_string (grownCap W1 (2 * l.length) 0 5) hr1
    rw [List.length_set, hHn, hHs] at k5
    have hbad : Pure.unhex (H.data.toList.set K c) = none := by
      refine Pure.unhex_none_of_bad _ K c ?_ ?_
      · rw [List.getElem?_set]; simp; omega
      · unfold Pure.val
        rw [if_neg (by omega), if_neg (by omega)]
    have hlast : (N.data.toList.set (N.size - 1) c).getLast? = some c := by
      rw [List.getLast?_eq_getElem?, List.length_set, hNn, List.getElem?_set]; simp; omega
    have hno := takeN_last hlast (by omega)
    obtain ⟨S1, hS1⟩ : ∃ S : ByteArray, (⟨(H.data.toList.set K c).toArray⟩ : ByteArray) = S := ⟨_, rfl⟩
    obtain ⟨S2, hS2⟩ : ∃ S : ByteArray, (⟨(N.data.toList.set (N.size - 1) c).toArray⟩ : ByteArray) = S := ⟨_, rfl⟩
    have hS1s : S1.size ≤ 1000 := by rw [← hS1]; show (H.data.toList.set K c).toArray.size ≤ 1000; simp; omega
    have hS2s : S2.size ≤ 1000 := by rw [← hS2]; show (N.data.toList.set (N.size - 1) c).toArray.size ≤ 1000; simp; omega
    have u1 : unB S1 = [] := by unfold unB; rw [← hS1, hbad]; rfl
    have u2 : unE S1 = 4 := by unfold unE; rw [← hS1, hbad]; rfl
    have hne2 : N.data.toList.set (N.size - 1) c ≠ [] := by intro e; rw [e] at hlast; cases hlast
    have u3 : takeV S2.data.toList = .tuple #[.int .i64 0, .int .i64 4] := by rw [← hS2]; unfold takeV; rw [if_neg hne2, hno]
    rw [hS1] at k5
    have c8 := unhex_any S1 W7 (by omega)
    rw [u1, u2] at c8
    have HN := Lib.hid hNn
    have HS2 := Lib.hid hS2
    have HU3 := Lib.hid u3
    clear hA1 hA2 hw6a hw6b hH1 hH2 hbad hlast hno hne2 hw7a hNn hS2 hS1 u3
    go_wp2_with fail
    refine c8.mono ?_
    rintro e8 W8 ⟨g8, p8, k8, rfl, hr8⟩
    have gW8 := Grew.trans' gW7 g8
    have k6 := conv_string (grownCap W3 N.size 0 5) (hr2.below g8 (Nat.le_refl _))
    rw [List.length_set, HN.out, HS2.out] at k6
    have c9 := hexa_TakeNumber S2 W8 (by omega) (hT.grew gW8) (hE.grew gW8)
    rw [HU3.out] at c9
    clear hT hE hr2 hr8 hr1 c1 c3
    go_wp2_with fail
    refine c9.mono ?_
    rintro e9 W9 ⟨rfl, g9⟩
    have gW9 := Grew.trans' gW8 g9
    go_wp2
    go_ret
    exact ⟨rfl, gW9⟩

theorem law_HexaBad (a : Option Addr) (l : List UInt8) (cap : Nat) (v p b : Int) (w : World) (hr : Rd w a l) (hl : l.length ≤ 9223372036854775807) (hv0 : -9223372036854775808 ≤ v) (hv1 : v ≤ 9223372036854775807) (hp0 : -9223372036854775808 ≤ p) (hp1 : p ≤ 9223372036854775807) (hb0 : 0 ≤ b) (hb1 : b ≤ 255) (hT : TabOk w) (hE : ErrOk w) :
    Calls Tryd.prog 7 #[.slice a l.length cap, .int .i64 v, .int .i64 p, .int .u8 b] w fun e w' => e = .returned (.bool true) ∧ Grew w w' := by
  by_cases h : l.length = 0 ∨ 300 < l.length ∨ (48 ≤ b ∧ b ≤ 57) ∨ (97 ≤ b ∧ b ≤ 102) ∨ b = 45
  · exact law_HexaBad_awake a l cap v p b w hl hb0 hb1 hT h
  · exact law_HexaBad_main a l cap v p b w hr hv0 hv1 hp0 hp1 hb0 hb1 hT hE (by omega) (by omega) (by omega)

end Go.Proofs.YtejoknkacpopeaaDoor

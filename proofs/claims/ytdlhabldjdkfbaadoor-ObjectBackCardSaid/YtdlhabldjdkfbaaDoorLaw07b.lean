/- The law ObjectHeads of layer 7, walked: bytes whose head says another length, or kind, or is written otherwise, are no object. Conditions: the library's tables are laid. -/
import Derived.Test.YtdlhabldjdkfbaaDoorLaw07a
import Derived.Outline
namespace Go.Proofs.YtdlhabldjdkfbaaDoor
set_option linter.unusedVariables false
set_option linter.unusedSimpArgs false
open Go.RowKit

set_option maxRecDepth 100000 in
theorem help_Object (k j : Int) (p q : Option Addr) (l m : List UInt8) (c d : Nat) (w : World) (h1 : Rd w p l) (h2 : Rd w q m) :
    Calls Tryd.prog 12 #[.agg #[.int .i64 k, .slice p l.length c], .agg #[.int .i64 j, .slice q m.length d]] w fun e w' => e = .returned (.bool ((k == j) && (l == m))) ∧ Grew w w' := by
  obtain ⟨W0, hW0, gw0, g0, hq⟩ := boxed w #[.int .i64 k, .slice p l.length c] 27
  obtain ⟨W1, hW1, g01, g1, hz⟩ := boxed W0 #[.int .i64 j, .slice q m.length d] 27
  have q0 := fun W g => hq W g 0 _ rfl
  have q1 := fun W g => hq W g 1 _ rfl
  have z0 := fun W g => hz W g 0 _ rfl
  have z1 := fun W g => hz W g 1 _ rfl
  have gw1 := gw0.trans' g01
  have cB := help_Bytes p q l m c d W1 (h1.below gw1 (Nat.le_refl _)) (h2.below gw1 (Nat.le_refl _))
  obtain ⟨B, hB⟩ : ∃ B, (l == m) = B := ⟨_, rfl⟩
  rw [hB] at cB ⊢
  clear hq hz hB
  cases hk : (k == j)
  all_goals
    go_enter Tryd.func12, Tryd.ntmps12
    go_wp2_with (go_at_call 16; with_reducible refine cB.mono ?_; rintro e2 W2 ⟨rfl, h2⟩; subst W2)
    go_ret
    exact ⟨by simp, gw1⟩


/-- A number from 1 to 100, as the law picks it. -/
theorem pick_more (m : Int) : ∃ K : Nat, wrap64 (1 + wrap64 ((IntKind.u64.wrap m).tmod 100)) = (K : Int) ∧ 1 ≤ K ∧ K ≤ 100 := by
  obtain ⟨K, hK, hlt⟩ := pick_wrap m 100 100 rfl (by decide) (by decide)
  refine ⟨K + 1, ?_, by omega, by omega⟩
  rw [hK]
  unfold wrap64
  omega

theorem Rd.some_of {w : World} {p : Option Addr} {l : List UInt8} {c : Nat} (h : Rd w p l) (hl : 0 < l.length) : p = none → c = 0 := by
  rintro rfl
  rcases h with rfl | ⟨b, o, e, _⟩
  · simp at hl
  · cases e

set_option maxRecDepth 100000 in
set_option maxHeartbeats 2000000 in
theorem law_ObjectHeads (a : Option Addr) (l : List UInt8) (cap : Nat) (m k : Int) (w : World) (hr : Rd w a l) (hl : l.length ≤ 9223372036854775807) (hm0 : -9223372036854775808 ≤ m) (hm1 : m ≤ 9223372036854775807) (hk0 : -9223372036854775808 ≤ k) (hk1 : k ≤ 9223372036854775807) (hT : TabOk w) (hM : MaxOk w) :
    Calls Tryd.prog 4 #[.slice a l.length cap, .int .i64 m, .int .i64 k] w fun e w' => e = .returned (.bool true) ∧ Grew w w' := by
  have g0 : Grew w w := Below.refl _ _
  have ca := (fun W g => awake07 W (hT.grew g) : ∀ W, Grew w W → _)
  by_cases h5 : 500 < l.length
  · have f1 : decide (500 < (l.length : Int)) = true := decide_eq_true (by omega)
    go_enter Tryd.func4, Tryd.ntmps4
    go_wp2_with (first | (go_at_call 8; with_reducible refine (ca _ (by assumption)).mono ?_; rintro e1 W1 ⟨rfl, g1⟩; replace g1 := Grew.trans' (a := w) (by assumption) g1))
    go_ret
    exact ⟨rfl, by assumption⟩
  have f1 : decide (500 < (l.length : Int)) = false := decide_eq_false (by omega)
  obtain ⟨M, hM1, hM2, hM3⟩ := pick_more m
  obtain ⟨K, hK, hK8⟩ := pick_wrap k 8 8 rfl (by decide) (by decide)
  have hsum : wrap64 ((l.length : Int) + (M : Int)) = (l.length : Int) + (M : Int) := by unfold wrap64; omega
  obtain ⟨D, hD⟩ : ∃ D : ByteArray, (⟨(Lib.itoa (l.length : Int)).toArray⟩ : ByteArray) = D := ⟨_, rfl⟩
  obtain ⟨E, hE⟩ : ∃ D : ByteArray, (⟨(Lib.itoa ((l.length : Int) + (M : Int))).toArray⟩ : ByteArray) = D := ⟨_, rfl⟩
  have cn := (fun W (g : Grew w W) => ref_Number (l.length : Int) W ⟨by omega, by omega⟩ : ∀ W, Grew w W → _)
  have cm := (fun W (g : Grew w W) => ref_Number ((l.length : Int) + (M : Int)) W ⟨by omega, by omega⟩ : ∀ W, Grew w W → _)
  rw [hD] at cn
  rw [hE] at cm
  have hDs : D.size ≤ 21 := by
    rw [← hD]
    have := Lib.itoa_length_le (l.length : Int) (by omega) (by omega)
    show (Lib.itoa (l.length : Int)).toArray.size ≤ 21
    simpa using this
  have hEs : E.size ≤ 21 := by
    rw [← hE]
    have := Lib.itoa_length_le ((l.length : Int) + (M : Int)) (by omega) (by omega)
    show (Lib.itoa ((l.length : Int) + (M : Int))).toArray.size ≤ 21
    simpa using this
  obtain ⟨H0, h0⟩ : ∃ H : ByteArray, (⟨#[98, 108, 111, 98, 32]⟩ : ByteArray) ++ E = H := ⟨_, rfl⟩
  obtain ⟨H1, h1⟩ : ∃ H : ByteArray, (⟨#[98, 108, 111, 98, 32, 48]⟩ : ByteArray) ++ D = H := ⟨_, rfl⟩
  obtain ⟨H2, h2⟩ : ∃ H : ByteArray, (⟨#[98, 108, 111, 98, 32, 43]⟩ : ByteArray) ++ D = H := ⟨_, rfl⟩
  obtain ⟨H3, h3⟩ : ∃ H : ByteArray, (⟨#[98, 108, 111, 98, 32, 32]⟩ : ByteArray) ++ D = H := ⟨_, rfl⟩
  obtain ⟨H4, h4⟩ : ∃ H : ByteArray, (⟨#[66, 108, 111, 98, 32]⟩ : ByteArray) ++ D = H := ⟨_, rfl⟩
  obtain ⟨H6, h6⟩ : ∃ H : ByteArray, (⟨#[116, 97, 103, 32]⟩ : ByteArray) ++ D = H := ⟨_, rfl⟩
  obtain ⟨H8, h8⟩ : ∃ H : ByteArray, (⟨#[98, 108, 111, 98, 32]⟩ : ByteArray) ++ D = H := ⟨_, rfl⟩
  obtain ⟨H7, h7⟩ : ∃ H : ByteArray, H8 ++ (⟨#[32]⟩ : ByteArray) = H := ⟨_, rfl⟩
  obtain ⟨H9, h9⟩ : ∃ H : ByteArray, H8 ++ (⟨#[0]⟩ : ByteArray) = H := ⟨_, rfl⟩
  have z0 : H0.size ≤ 27 := by rw [← h0, ByteArray.size_append]; show 5 + E.size ≤ 27; omega
  have z1 : H1.size ≤ 27 := by rw [← h1, ByteArray.size_append]; show 6 + D.size ≤ 27; omega
  have z2 : H2.size ≤ 27 := by rw [← h2, ByteArray.size_append]; show 6 + D.size ≤ 27; omega
  have z3 : H3.size ≤ 27 := by rw [← h3, ByteArray.size_append]; show 6 + D.size ≤ 27; omega
  have z4 : H4.size ≤ 27 := by rw [← h4, ByteArray.size_append]; show 5 + D.size ≤ 27; omega
  have z6 : H6.size ≤ 27 := by rw [← h6, ByteArray.size_append]; show 4 + D.size ≤ 27; omega
  have z8 : H8.size ≤ 26 := by rw [← h8, ByteArray.size_append]; show 5 + D.size ≤ 26; omega
  have z7 : H7.size ≤ 27 := by rw [← h7, ByteArray.size_append]; show H8.size + 1 ≤ 27; omega
  have z9 : H9.size ≤ 27 := by rw [← h9, ByteArray.size_append]; show H8.size + 1 ≤ 27; omega
  have hHs : Pure.headsO l.length M = [H0, H1, H2, H3, H4, ⟨#[98, 108, 111, 98]⟩, H6, H7].map (·.data.toList) := by
    have hDl : D.data.toList = Lib.itoa (l.length : Int) := by rw [← hD]
    have hEl : E.data.toList = Lib.itoa ((l.length + M : Nat) : Int) := by rw [← hE]; push_cast; rfl
    simp only [Pure.headsO, List.map_cons, List.map_nil, ← h0, ← h1, ← h2, ← h3, ← h4, ← h6, ← h7, ← h8, append_list, hDl, hEl]
  have hgood : H9.data.toList ++ l = Pure.bytesO 1 l := by
    rw [← h9, ← h8, append_list, append_list, ← hD]
    simp [Pure.bytesO, Pure.wordO]
  obtain ⟨h, hh⟩ : ∃ h : ByteArray, ([H0, H1, H2, H3, H4, ⟨#[98, 108, 111, 98]⟩, H6, H7] : List ByteArray)[K]? = some h := ⟨_, List.getElem?_eq_getElem (by simp; omega)⟩
  have hhs : h.size ≤ 27 := by
    have hm := List.mem_of_getElem? hh
    simp only [List.mem_cons, List.not_mem_nil, or_false] at hm
    rcases hm with rfl | rfl | rfl | rfl | rfl | rfl | rfl | rfl <;> first | assumption | decide
  have hbad : Pure.parseO (h.data.toList ++ 0 :: l) = none := Pure.heads_bad l M hM2 K _ (by rw [hHs, List.getElem?_map, hh]; rfl)
  have hcellK : (#[.string H0, .string H1, .string H2, .string H3, .string H4, .string ⟨#[98, 108, 111, 98]⟩, .string H6, .string H7] : Array Value)[K]? = some (.string h) := by
    have : (([H0, H1, H2, H3, H4, ⟨#[98, 108, 111, 98]⟩, H6, H7] : List ByteArray).map Value.string)[K]? = some (.string h) := by rw [List.getElem?_map, hh]; rfl
    simpa using this
  obtain ⟨G, hG⟩ : ∃ H : ByteArray, h ++ (⟨#[0]⟩ : ByteArray) = H := ⟨_, rfl⟩
  have zG : G.size ≤ 28 := by rw [← hG, ByteArray.size_append]; show h.size + 1 ≤ 28; omega
  have hGl : G.data.toList ++ l = h.data.toList ++ 0 :: l := by rw [← hG, append_list]; simp
  rw [← hGl] at hbad
  have pG : G.data.toList.length = h.size + 1 := by rw [show G.data.toList.length = G.size from Array.length_toList, ← hG, ByteArray.size_append]; rfl
  have p9 : H9.data.toList.length = H8.size + 1 := by rw [show H9.data.toList.length = H9.size from Array.length_toList, ← h9, ByteArray.size_append]; rfl
  obtain ⟨X, hX⟩ : ∃ X, G.data.toList ++ l = X := ⟨_, rfl⟩
  obtain ⟨Y, hY⟩ : ∃ X, H9.data.toList ++ l = X := ⟨_, rfl⟩
  have lX : 0 < X.length ∧ X.length ≤ 600 := by rw [← hX, List.length_append]; omega
  have lY : 0 < Y.length ∧ Y.length ≤ 600 := by rw [← hY, List.length_append]; omega
  rw [hX] at hbad
  rw [hY] at hgood
  have HX := Lib.hid hX
  have HY := Lib.hid hY
  obtain ⟨lX0, lX1⟩ := lX
  obtain ⟨lY0, lY1⟩ := lY
  have HC := Lib.hid hcellK
  have HB := Lib.hid hbad
  have HG := Lib.hid hgood
  have HR := Lib.hid hr
  clear hX hY pG p9 hGl hcellK hbad hgood hHs hD hE hh hr
  go_enter Tryd.func4, Tryd.ntmps4
  go_wp2_with (first | (go_at_call 10; with_reducible refine (cn _ (by assumption)).mono ?_; rintro e1 W1 ⟨rfl, g1⟩; replace g1 := Grew.trans' (a := w) (by assumption) g1))
  have gA : Grew w W1 := by assumption
  refine (cm _ gA).mono ?_
  rintro e2 W2 ⟨rfl, g2⟩
  have gB := gA.trans' g2
  obtain ⟨W3, hW3, gw3, g33, hq⟩ := boxed W2 #[.string H0, .string H1, .string H2, .string H3, .string H4, .string ⟨#[98, 108, 111, 98]⟩, .string H6, .string H7] 9
  have q0 := fun W g => hq W g K _ HC.out
  have gC := gB.trans' gw3
  obtain ⟨W4, hW4⟩ : ∃ W4, Lib.bytesWorld W3 5 G = W4 := ⟨_, rfl⟩
  have g4 := bytesWorld_grew W3 G
  have o4 := OwnB.conv' (base := W3.heap.size) (w := W3) G (Nat.le_refl _) (by omega)
  rw [hW4] at g4 o4
  have gD := gC.trans' g4
  have hGs : G.data.toList.length = G.size := Array.length_toList
  have h9s : H9.data.toList.length = H9.size := Array.length_toList
  have HGS := Lib.hid hGs
  have H9S := Lib.hid h9s
  have kc := run_conv_bytes
  clear hq cn cm hGs h9s
  go_wp2_with (at_builtin; refine wpList_append_B rfl _ _ rfl W3.heap.size _ G.data.toList l a cap rfl rfl o4 ?h1 ?h2 ?h3 ?_)
  case h1 => exact HR.out.below gD (Nat.le_refl _)
  case h2 => exact g4.size
  case h3 => rw [HGS.out]; omega
  intro v5 W5 o5 b5 _
  have gE : Grew w W5 := gC.trans' (Below.trans g4 b5)
  rw [HX.out] at o5
  obtain ⟨p5, c5, rfl, r5, hc5, -⟩ := o5.val
  have cP := object_Parse p5 X c5 W5 r5 (r5.some_of (by omega)) hc5 (by omega) (hM.grew gE) (hT.grew gE)
  have r4 := HR.out
  clear o4 o5 hW4 hW3
  go_wp2_with fail
  go_fit cP
  rintro e6 W6 ⟨g6, ⟨_, rfl⟩ | ⟨k6, x6, q6, d6, hp6, _⟩⟩
  · have gF := gE.trans' g6
    obtain ⟨V6, hV6, gv6, g66, hq6⟩ := boxed W6 #[.int .i64 0, .slice none 0 0] 27
    have a0 := fun W g => hq6 W g 0 _ rfl
    have a1 := fun W g => hq6 W g 1 _ rfl
    have f6 := boxed_free hV6
    subst hV6
    have gV := gF.trans' gv6
    obtain ⟨W7, hW7⟩ : ∃ W4, Lib.bytesWorld (W6.alloc (.cells #[.int .i64 0, .slice none 0 0] 27)) 5 H9 = W4 := ⟨_, rfl⟩
    have g7 := bytesWorld_grew (W6.alloc (.cells #[.int .i64 0, .slice none 0 0] 27)) H9
    have o7 := OwnB.conv' (base := (W6.alloc (.cells #[.int .i64 0, .slice none 0 0] 27)).heap.size) (w := (W6.alloc (.cells #[.int .i64 0, .slice none 0 0] 27))) H9 (Nat.le_refl _) (by omega)
    have hz6 : (W6.alloc (.cells #[.int .i64 0, .slice none 0 0] 27)).heap.size = W6.heap.size + 1 := by simp
    rw [hW7] at g7 o7
    rw [hz6] at o7
    have HZ6 := Lib.hid hz6
    clear hz6
    have gG := gV.trans' g7
    clear hq6
    clear cP r5
    go_wp2_with (at_builtin; refine wpList_append_B rfl _ _ rfl (W6.heap.size + 1) _ H9.data.toList l a cap rfl rfl o7 ?h1 ?h2 ?h3 ?_)
    case h1 => exact r4.below gG (Nat.le_refl _)
    case h2 => rw [← HZ6.out]; exact g7.size
    case h3 => rw [H9S.out]; omega
    intro v8 W8 o8 b8 _
    have g68 : Grew (W6.alloc (.cells #[.int .i64 0, .slice none 0 0] 27)) W8 := Below.trans g7 (by rw [HZ6.out]; exact b8)
    have gH : Grew w W8 := gV.trans' g68
    rw [HY.out] at o8
    obtain ⟨p8, c8, rfl, r8, hc8, -⟩ := o8.val
    have cQ := object_Parse p8 Y c8 W8 r8 (r8.some_of (by omega)) hc8 (by omega) (hM.grew gH) (hT.grew gH)
    clear o8 o7 hW7
    go_wp2_with fail
    go_fit cQ
    rintro e9 W9 ⟨g9, hp9⟩
    have hpY : Pure.parseO Y = some (1, l) := by rw [HG.out]; exact Pure.parse_bytes (.inl rfl) (by omega)
    rw [hpY] at hp9
    rcases hp9 with ⟨h, _⟩ | ⟨k9, x9, q9, d9, hp9, rfl, r9⟩
    · cases h
    · simp only [Option.some.injEq, Prod.mk.injEq] at hp9
      obtain ⟨rfl, rfl⟩ := hp9
      obtain ⟨V9, hV9, gv9, g99, hq9⟩ := boxed W9 #[.int .i64 1, .slice q9 l.length d9] 27
      have b0 := fun W g => hq9 W g 0 _ rfl
      have b1 := fun W g => hq9 W g 1 _ rfl
      subst hV9
      have gI := (gH.trans' g9).trans' gv9
      have gJ := (g68.trans' g9).trans' gv9
      clear cQ hq9
      go_wp2_with fail
      refine (ca _ gI).mono ?_
      rintro e10 W10 ⟨rfl, g10⟩
      have gK := gI.trans' g10
      have gL := gJ.trans' g10
      have c1 := help_Object 0 0 none none [] [] 0 0 W10 (.inl rfl) (.inl rfl)
      have c2 := (fun W g => help_Object 1 1 q9 a l l d9 cap W ((((r9.below gv9 (Nat.le_refl _)).below g10 (Nat.le_refl _))).below g (Nat.le_refl _)) ((r4.below gK (Nat.le_refl _)).below g (Nat.le_refl _)) : ∀ W, Grew W10 W → _)
      have el : (l == l) = true := by simp
      rw [el] at c2
      clear ca
      go_wp2_with fail
      refine c1.mono ?_
      rintro e11 W11 ⟨rfl, g11⟩
      have gM := gL.trans' g11
      have gN := g10.trans' g11
      go_wp2_with fail
      refine (c2 _ g11).mono ?_
      rintro e12 W12 ⟨rfl, g12⟩
      go_wp2
      go_ret
      exact ⟨rfl, (gK.trans' g11).trans' g12⟩
  · exfalso
    rw [HB.out] at hp6
    cases hp6

end Go.Proofs.YtdlhabldjdkfbaaDoor

/- The laws NamesBack, NamesApart and NamesOthers of layer 25, walked: for any input the call returns true, and nothing that was there has changed. Conditions: the library's tables are laid. -/
import Derived.Test.YtdiimbaibfmadaaDoorLaw25a
namespace Go.Proofs.YtdiimbaibfmadaaDoor
set_option linter.unusedVariables false
set_option linter.unusedSimpArgs false
open Go.RowKit

theorem text_of (m : List UInt8) : ∃ X : ByteArray, X.data.toList = m ∧ X.size = m.length := ⟨⟨m.toArray⟩, rfl, rfl⟩
theorem mark_len {s m : List UInt8} (h : Pure.mark s = some m) : m.length ≤ s.length + 4 := by
  obtain ⟨_, _, h3⟩ := Pure.mark_some h
  rcases h3 with ⟨e, _⟩ | e
  · rw [e, List.length_append]; omega
  · rw [e, List.length_append]; show 4 + _ ≤ _; omega
theorem refOf_len {m r : List UInt8} (h : Pure.refOf m = some r) : r.length ≤ m.length + 11 := by
  obtain ⟨_, _, h3⟩ := Pure.mark_some (Pure.mark_refOf h)
  rcases h3 with ⟨e, _⟩ | e
  · rw [e, List.length_append]; show 11 + _ ≤ _; omega
  · rw [e, List.length_append]; omega

set_option maxRecDepth 100000 in
set_option maxHeartbeats 1000000 in
theorem law_NamesBack (s t : ByteArray) (w : World) (hs : s.size ≤ 9223372036854775807) (ht : t.size ≤ 9223372036854775807) (hm : MaxOk w) (hu : U8Ok w) :
    Calls Tryd.prog 5 #[.string s, .string t] w fun e w' => e = .returned (.bool true) ∧ Grew w w' := by
  have g0 : Grew w w := Below.refl _ _
  have ca := (fun W g => awake25 W (hm.grew g) (u8_grew hu g) : ∀ W, Grew w W → _)
  by_cases l1 : 500 < s.size
  · clear hm hu
    go_enter Tryd.func5, Tryd.ntmps5
    go_wp2_with (first | (go_at_call 7; with_reducible refine (ca _ (by assumption)).mono ?_; rintro e1 W1 ⟨rfl, g1⟩; replace g1 := Grew.trans' (a := w) (by assumption) g1))
    go_ret
    exact ⟨rfl, by assumption⟩
  by_cases l2 : 500 < t.size
  · clear hm hu
    go_enter Tryd.func5, Tryd.ntmps5
    go_wp2_with (first | (go_at_call 7; with_reducible refine (ca _ (by assumption)).mono ?_; rintro e1 W1 ⟨rfl, g1⟩; replace g1 := Grew.trans' (a := w) (by assumption) g1))
    go_ret
    exact ⟨rfl, by assumption⟩
  have e1 : s.data.toList.length = s.size := Array.length_toList
  have e2 : t.data.toList.length = t.size := Array.length_toList
  have c1 := (fun W g => names_Mark s W (by omega) (hm.grew g) (u8_grew hu g) : ∀ W, Grew w W → _)
  have c3 := (fun W g => names_Ref t W (by omega) (hm.grew g) (u8_grew hu g) : ∀ W, Grew w W → _)
  obtain ⟨X, B, hX, hX1, hX2⟩ := tell_parts (Pure.mark s.data.toList)
  have hXl : X.size ≤ 504 := by
    have e3 : X.data.toList.length = X.size := Array.length_toList
    cases h : Pure.mark s.data.toList with
    | none => rw [(hX2 h).1]; decide
    | some m => have := mark_len h; rw [← (hX1 m h).1] at this; omega
  obtain ⟨Y, C, hY, hY1, hY2⟩ := tell_parts (Pure.refOf t.data.toList)
  have hYl : Y.size ≤ 511 := by
    have e3 : Y.data.toList.length = Y.size := Array.length_toList
    cases h : Pure.refOf t.data.toList with
    | none => rw [(hY2 h).1]; decide
    | some m => have := refOf_len h; rw [← (hY1 m h).1] at this; omega
  have c2 := (fun W g => names_Ref X W (by omega) (hm.grew g) (u8_grew hu g) : ∀ W, Grew w W → _)
  have c4 := (fun W g => names_Mark Y W (by omega) (hm.grew g) (u8_grew hu g) : ∀ W, Grew w W → _)
  have c5 := (fun W g => ref_Branch X W (by omega) (u8_grew hu g) : ∀ W, Grew w W → _)
  have c6 := (fun W g => ref_Right Y W (by omega) (u8_grew hu g) : ∀ W, Grew w W → _)
  obtain ⟨R, D, hR, hR1, hR2⟩ := tell_parts (Pure.refOf X.data.toList)
  obtain ⟨N, F, hN, hN1, hN2⟩ := tell_parts (Pure.mark Y.data.toList)
  rw [hX] at c1
  rw [hY] at c3
  rw [hR] at c2
  rw [hN] at c4
  have f1 : B = true → D = true ∧ (R.toList == s.toList) = true ∧ Pure.branch X.data.toList = true := by
    intro hB
    cases h : Pure.mark s.data.toList with
    | none => rw [(hX2 h).2] at hB; cases hB
    | some m =>
      have hm' := (hX1 m h).1
      have h2 := hR1 _ (by rw [hm']; exact Pure.refOf_mark h)
      exact ⟨h2.2, by rw [Lib.toList_data, Lib.toList_data, h2.1]; simp, by rw [hm']; exact (Pure.mark_some h).2.1⟩
  have f2 : C = true → F = true ∧ (N.toList == t.toList) = true ∧ Pure.right Y.data.toList = true := by
    intro hB
    cases h : Pure.refOf t.data.toList with
    | none => rw [(hY2 h).2] at hB; cases hB
    | some m =>
      have hm' := (hY1 m h).1
      have h2 := hN1 _ (by rw [hm']; exact Pure.mark_refOf h)
      exact ⟨h2.2, by rw [Lib.toList_data, Lib.toList_data, h2.1]; simp, by rw [hm']; exact (Pure.mark_some (Pure.mark_refOf h)).1⟩
  obtain ⟨G, hG⟩ : ∃ G, Pure.branch X.data.toList = G := ⟨_, rfl⟩
  obtain ⟨H, hH⟩ : ∃ G, Pure.right Y.data.toList = G := ⟨_, rfl⟩
  rw [hG] at c5 f1
  rw [hH] at c6 f2
  clear hm hu hX hX1 hX2 hY hY1 hY2 hR hR1 hR2 hN hN1 hN2 hG hH hXl hYl e1 e2
  cases B <;> cases C
  all_goals
    try (have f1' := f1 rfl; obtain ⟨rfl, f12, rfl⟩ := f1')
    try (have f2' := f2 rfl; obtain ⟨rfl, f22, rfl⟩ := f2')
    clear f1 f2
    go_enter Tryd.func5, Tryd.ntmps5
    go_wp2_with (first | (go_at_call 7; with_reducible refine (ca _ (by assumption)).mono ?_; rintro e1 W1 ⟨rfl, g1⟩; replace g1 := Grew.trans' (a := w) (by assumption) g1) | (go_at_call 8; with_reducible refine (c1 _ (by assumption)).mono ?_; rintro e1 W1 ⟨rfl, g1⟩; replace g1 := Grew.trans' (a := w) (by assumption) g1) | (go_at_call 11; with_reducible refine (c2 _ (by assumption)).mono ?_; rintro e1 W1 ⟨rfl, g1⟩; replace g1 := Grew.trans' (a := w) (by assumption) g1) | (go_at_call 11; with_reducible refine (c3 _ (by assumption)).mono ?_; rintro e1 W1 ⟨rfl, g1⟩; replace g1 := Grew.trans' (a := w) (by assumption) g1) | (go_at_call 8; with_reducible refine (c4 _ (by assumption)).mono ?_; rintro e1 W1 ⟨rfl, g1⟩; replace g1 := Grew.trans' (a := w) (by assumption) g1) | (go_at_call 9; with_reducible refine (c5 _ (by assumption)).mono ?_; rintro e1 W1 ⟨rfl, g1⟩; replace g1 := Grew.trans' (a := w) (by assumption) g1) | (go_at_call 13; with_reducible refine (c6 _ (by assumption)).mono ?_; rintro e1 W1 ⟨rfl, g1⟩; replace g1 := Grew.trans' (a := w) (by assumption) g1))
    go_ret
    exact ⟨by simp, by assumption⟩

set_option maxRecDepth 100000 in
set_option maxHeartbeats 1000000 in
theorem law_NamesApart (a b : ByteArray) (w : World) (hs : a.size ≤ 9223372036854775807) (ht : b.size ≤ 9223372036854775807) (hm : MaxOk w) (hu : U8Ok w) :
    Calls Tryd.prog 3 #[.string a, .string b] w fun e w' => e = .returned (.bool true) ∧ Grew w w' := by
  have g0 : Grew w w := Below.refl _ _
  have ca := (fun W g => awake25 W (hm.grew g) (u8_grew hu g) : ∀ W, Grew w W → _)
  by_cases l1 : 300 < a.size
  · clear hm hu
    go_enter Tryd.func3, Tryd.ntmps3
    go_wp2_with (first | (go_at_call 7; with_reducible refine (ca _ (by assumption)).mono ?_; rintro e1 W1 ⟨rfl, g1⟩; replace g1 := Grew.trans' (a := w) (by assumption) g1))
    go_ret
    exact ⟨rfl, by assumption⟩
  by_cases l2 : 300 < b.size
  · clear hm hu
    go_enter Tryd.func3, Tryd.ntmps3
    go_wp2_with (first | (go_at_call 7; with_reducible refine (ca _ (by assumption)).mono ?_; rintro e1 W1 ⟨rfl, g1⟩; replace g1 := Grew.trans' (a := w) (by assumption) g1))
    go_ret
    exact ⟨rfl, by assumption⟩
  have c1 := (fun W g => names_Mark a W (by omega) (hm.grew g) (u8_grew hu g) : ∀ W, Grew w W → _)
  have c2 := (fun W g => names_Mark b W (by omega) (hm.grew g) (u8_grew hu g) : ∀ W, Grew w W → _)
  have c3 := (fun W g => names_Mark (headsB ++ a) W (by rw [ByteArray.size_append]; show 11 + a.size ≤ _; omega) (hm.grew g) (u8_grew hu g) : ∀ W, Grew w W → _)
  have c4 := (fun W g => ref_Branch a W (by omega) (u8_grew hu g) : ∀ W, Grew w W → _)
  rw [show (headsB ++ a).data.toList = Pure.headsL ++ a.data.toList from append_list _ _] at c3
  obtain ⟨X, B, hX, hX1, hX2⟩ := tell_parts (Pure.mark a.data.toList)
  obtain ⟨Y, C, hY, hY1, hY2⟩ := tell_parts (Pure.mark b.data.toList)
  obtain ⟨O, D, hO, hO1, hO2⟩ := tell_parts (Pure.mark (Pure.headsL ++ a.data.toList))
  rw [hX] at c1
  rw [hY] at c2
  rw [hO] at c3
  have f1 : B = true → C = true → (X.toList == Y.toList) = (a.toList == b.toList) := by
    intro hB hC
    cases h1 : Pure.mark a.data.toList with
    | none => rw [(hX2 h1).2] at hB; cases hB
    | some m =>
      cases h2 : Pure.mark b.data.toList with
      | none => rw [(hY2 h2).2] at hC; cases hC
      | some n =>
        rw [Bool.eq_iff_iff]
        simp only [beq_iff_eq, Lib.toList_data]
        rw [(hX1 m h1).1, (hY1 n h2).1]
        exact Pure.mark_inj h1 h2
  obtain ⟨K, hK⟩ : ∃ K, Lib.hasPrefix a.data.toList Pure.otherL = K := ⟨_, rfl⟩
  obtain ⟨G, hG⟩ : ∃ G, Pure.branch a.data.toList = G := ⟨_, rfl⟩
  have f2 : G = true → K = false → D = true ∧ (O.toList == a.toList) = true := by
    intro hg hk
    rw [hg] at hG
    rw [hk] at hK
    have h := hO1 _ (Pure.mark_own hG hK)
    exact ⟨h.2, by rw [Lib.toList_data, Lib.toList_data, h.1]; simp⟩
  rw [hG] at c4
  have hraw := Lib.hasPrefix_raw a otherB
  rw [show otherB.data.toList = Pure.otherL from rfl, hK] at hraw
  have hraw2 : (decide (4 ≤ a.size) && ((a.extract 0 4).toList == [114, 101, 102, 47])) = K := by rw [← hraw, show otherB.toList = [114, 101, 102, 47] from by rw [Lib.toList_data]]; rfl
  obtain ⟨e1, he1⟩ : ∃ e, (X.toList == Y.toList) = e := ⟨_, rfl⟩
  obtain ⟨e2, he2⟩ : ∃ e, (a.toList == b.toList) = e := ⟨_, rfl⟩
  rw [he1, he2] at f1
  clear hm hu hX hX1 hX2 hY hY1 hY2 hO hO1 hO2 hK hG hraw
  by_cases h4 : a.size < 4
  · rw [decide_eq_false (by omega), Bool.false_and] at hraw2
    subst hraw2
    have d4 : decide ((a.size : Int) < 4) = true := decide_eq_true (by omega)
    cases B <;> cases C <;> cases G
    all_goals
      try (have f1' := f1 rfl rfl; subst f1')
      try (have f2' := f2 rfl rfl; obtain ⟨rfl, f22⟩ := f2')
      clear f1 f2
      go_enter Tryd.func3, Tryd.ntmps3
      go_wp2_with (first | (go_at_call 7; with_reducible refine (ca _ (by assumption)).mono ?_; rintro e1 W1 ⟨rfl, g1⟩; replace g1 := Grew.trans' (a := w) (by assumption) g1) | (go_at_call 8; with_reducible refine (c1 _ (by assumption)).mono ?_; rintro e1 W1 ⟨rfl, g1⟩; replace g1 := Grew.trans' (a := w) (by assumption) g1) | (go_at_call 8; with_reducible refine (c2 _ (by assumption)).mono ?_; rintro e1 W1 ⟨rfl, g1⟩; replace g1 := Grew.trans' (a := w) (by assumption) g1) | (go_at_call 8; with_reducible refine (c3 _ (by assumption)).mono ?_; rintro e1 W1 ⟨rfl, g1⟩; replace g1 := Grew.trans' (a := w) (by assumption) g1) | (go_at_call 9; with_reducible refine (c4 _ (by assumption)).mono ?_; rintro e1 W1 ⟨rfl, g1⟩; replace g1 := Grew.trans' (a := w) (by assumption) g1))
      all_goals
        go_ret
        exact ⟨by simp_all, by assumption⟩
  · rw [decide_eq_true (by omega), Bool.true_and] at hraw2
    have d4 : decide ((a.size : Int) < 4) = false := decide_eq_false (by omega)
    cases B <;> cases C <;> cases G <;> cases K
    all_goals
      try (have f1' := f1 rfl rfl; subst f1')
      try (have f2' := f2 rfl rfl; obtain ⟨rfl, f22⟩ := f2')
      clear f1 f2
      go_enter Tryd.func3, Tryd.ntmps3
      go_wp2_with (first | (go_at_call 7; with_reducible refine (ca _ (by assumption)).mono ?_; rintro e1 W1 ⟨rfl, g1⟩; replace g1 := Grew.trans' (a := w) (by assumption) g1) | (go_at_call 8; with_reducible refine (c1 _ (by assumption)).mono ?_; rintro e1 W1 ⟨rfl, g1⟩; replace g1 := Grew.trans' (a := w) (by assumption) g1) | (go_at_call 8; with_reducible refine (c2 _ (by assumption)).mono ?_; rintro e1 W1 ⟨rfl, g1⟩; replace g1 := Grew.trans' (a := w) (by assumption) g1) | (go_at_call 8; with_reducible refine (c3 _ (by assumption)).mono ?_; rintro e1 W1 ⟨rfl, g1⟩; replace g1 := Grew.trans' (a := w) (by assumption) g1) | (go_at_call 9; with_reducible refine (c4 _ (by assumption)).mono ?_; rintro e1 W1 ⟨rfl, g1⟩; replace g1 := Grew.trans' (a := w) (by assumption) g1))
      all_goals
        go_ret
        exact ⟨by simp_all, by assumption⟩

end Go.Proofs.YtdiimbaibfmadaaDoor

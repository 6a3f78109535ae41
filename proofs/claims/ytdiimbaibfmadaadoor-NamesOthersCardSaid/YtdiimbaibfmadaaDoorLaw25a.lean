/- The laws of layer 25, walked: awake, NamesTell, NamesBack: for any input the call returns true, and nothing that was there has changed. Conditions: the library's tables are laid. -/
import Derived.Test.YtdiimbaibfmadaaDoorNames2
namespace Go.Proofs.YtdiimbaibfmadaaDoor
set_option linter.unusedVariables false
set_option linter.unusedSimpArgs false
open Go.RowKit

theorem mark_heads_a : Pure.mark [114, 101, 102, 115, 47, 104, 101, 97, 100, 115, 47, 97] = some [97] := by decide +kernel
theorem mark_tags_v : Pure.mark [114, 101, 102, 115, 47, 116, 97, 103, 115, 47, 118] = some [114, 101, 102, 47, 114, 101, 102, 115, 47, 116, 97, 103, 115, 47, 118] := by decide +kernel
theorem mark_str (l : List UInt8) (o : Option (List UInt8)) (h : Pure.mark l = o) (hs : l.length ≤ 274877906944) (w : World) (hm : MaxOk w) (hu : U8Ok w) :
    Calls Tryd.prog 8 #[.string ⟨l.toArray⟩] w fun e w' => e = .returned (tellV o) ∧ Grew w w' := by
  have := names_Mark ⟨l.toArray⟩ w hs hm hu
  rw [← h]
  exact this

set_option maxRecDepth 100000 in
set_option maxHeartbeats 1000000 in
theorem awake25 (w : World) (hm : MaxOk w) (hu : U8Ok w) :
    Calls Tryd.prog 7 #[] w fun e w' => e = .returned (.bool true) ∧ Grew w w' := by
  have g0 : Grew w w := Below.refl _ _
  have c1 := (fun W g => mark_str _ _ mark_heads_a (by decide) W (hm.grew g) (u8_grew hu g) : ∀ W, Grew w W → _)
  have c2 := (fun W g => mark_str _ _ mark_tags_v (by decide) W (hm.grew g) (u8_grew hu g) : ∀ W, Grew w W → _)
  rw [tellV] at c1 c2
  go_enter Tryd.func7, Tryd.ntmps7
  go_wp2_with (first | (go_at_call 8; with_reducible refine (c1 _ (by assumption)).mono ?_; rintro e1 W1 ⟨rfl, g1⟩; replace g1 := Grew.trans' (a := w) (by assumption) g1) | (go_at_call 8; with_reducible refine (c2 _ (by assumption)).mono ?_; rintro e1 W1 ⟨rfl, g1⟩; replace g1 := Grew.trans' (a := w) (by assumption) g1))
  go_ret
  exact ⟨rfl, by assumption⟩

/-- What a text or none is told as: its text, and whether. -/
theorem tell_parts (o : Option (List UInt8)) : ∃ (X : ByteArray) (B : Bool), tellV o = .tuple #[.string X, .bool B] ∧ (∀ m, o = some m → X.data.toList = m ∧ B = true) ∧ (o = none → X = ⟨#[]⟩ ∧ B = false) := by
  cases o with
  | none => exact ⟨_, _, rfl, by simp, fun _ => ⟨rfl, rfl⟩⟩
  | some m => exact ⟨⟨m.toArray⟩, true, rfl, by rintro m' h; cases h; exact ⟨rfl, rfl⟩, by simp⟩

set_option maxRecDepth 100000 in
set_option maxHeartbeats 1000000 in
theorem law_NamesTell (s t : ByteArray) (w : World) (hs : s.size ≤ 9223372036854775807) (ht : t.size ≤ 9223372036854775807) (hm : MaxOk w) (hu : U8Ok w) :
    Calls Tryd.prog 4 #[.string s, .string t] w fun e w' => e = .returned (.bool true) ∧ Grew w w' := by
  have g0 : Grew w w := Below.refl _ _
  have ca := (fun W g => awake25 W (hm.grew g) (u8_grew hu g) : ∀ W, Grew w W → _)
  by_cases l1 : 500 < s.size
  · clear hm hu
    go_enter Tryd.func4, Tryd.ntmps4
    go_wp2_with (first | (go_at_call 7; with_reducible refine (ca _ (by assumption)).mono ?_; rintro e1 W1 ⟨rfl, g1⟩; replace g1 := Grew.trans' (a := w) (by assumption) g1))
    go_ret
    exact ⟨rfl, by assumption⟩
  by_cases l2 : 500 < t.size
  · clear hm hu
    go_enter Tryd.func4, Tryd.ntmps4
    go_wp2_with (first | (go_at_call 7; with_reducible refine (ca _ (by assumption)).mono ?_; rintro e1 W1 ⟨rfl, g1⟩; replace g1 := Grew.trans' (a := w) (by assumption) g1))
    go_ret
    exact ⟨rfl, by assumption⟩
  have c1 := (fun W g => names_Mark s W (by omega) (hm.grew g) (u8_grew hu g) : ∀ W, Grew w W → _)
  have c2 := (fun W g => ref25_Mark s W (by omega) (u8_grew hu g) : ∀ W, Grew w W → _)
  have c3 := (fun W g => names_Ref t W (by omega) (hm.grew g) (u8_grew hu g) : ∀ W, Grew w W → _)
  have c4 := (fun W g => ref25_Ref t W (by omega) (u8_grew hu g) : ∀ W, Grew w W → _)
  obtain ⟨X, B, hX, -, -⟩ := tell_parts (Pure.mark s.data.toList)
  obtain ⟨Y, C, hY, -, -⟩ := tell_parts (Pure.refOf t.data.toList)
  rw [hX] at c1 c2
  rw [hY] at c3 c4
  have q1 : (X.toList == X.toList) = true := by simp
  have q2 : (B == B) = true := by simp
  have q3 : (Y.toList == Y.toList) = true := by simp
  have q4 : (C == C) = true := by simp
  clear hm hu hX hY
  go_enter Tryd.func4, Tryd.ntmps4
  go_wp2_with (first | (go_at_call 7; with_reducible refine (ca _ (by assumption)).mono ?_; rintro e1 W1 ⟨rfl, g1⟩; replace g1 := Grew.trans' (a := w) (by assumption) g1) | (go_at_call 8; with_reducible refine (c1 _ (by assumption)).mono ?_; rintro e1 W1 ⟨rfl, g1⟩; replace g1 := Grew.trans' (a := w) (by assumption) g1) | (go_at_call 10; with_reducible refine (c2 _ (by assumption)).mono ?_; rintro e1 W1 ⟨rfl, g1⟩; replace g1 := Grew.trans' (a := w) (by assumption) g1) | (go_at_call 11; with_reducible refine (c3 _ (by assumption)).mono ?_; rintro e1 W1 ⟨rfl, g1⟩; replace g1 := Grew.trans' (a := w) (by assumption) g1) | (go_at_call 12; with_reducible refine (c4 _ (by assumption)).mono ?_; rintro e1 W1 ⟨rfl, g1⟩; replace g1 := Grew.trans' (a := w) (by assumption) g1))
  go_ret
  exact ⟨by simp, by assumption⟩

end Go.Proofs.YtdiimbaibfmadaaDoor

/- The law HexaNumbers of layer 1, walked: for any number and any texts the call returns true, and nothing that was there has changed. Conditions: the library's variables are laid. -/
import Derived.Test.YtejoknkacpopeaaDoorLaw01a
import Derived.Test.YtejoknkacpopeaaDoorNum3
import Derived.Test.YtejoknkacpopeaaDoorNum4
import Derived.Test.YtejoknkacpopeaaDoorNum5
namespace Go.Proofs.YtejoknkacpopeaaDoor
set_option linter.unusedVariables false
set_option linter.unusedSimpArgs false
open Go.RowKit

theorem takeV_parts (l : List UInt8) : ∃ x e : Int, takeV l = .tuple #[.int .i64 x, .int .i64 e] := by
  unfold takeV
  split
  · exact ⟨_, _, rfl⟩
  · cases Pure.takeN l with
    | none => exact ⟨_, _, rfl⟩
    | some v => exact ⟨_, _, rfl⟩
theorem compare_self : ∀ l : List UInt8, Lib.compareBytes l l = 0
  | [] => rfl
  | a :: p => by
    unfold Lib.compareBytes
    rw [if_neg (by exact Nat.lt_irrefl _), if_neg (by exact Nat.lt_irrefl _)]
    exact compare_self p

set_option maxRecDepth 100000 in
set_option maxHeartbeats 1000000 in
theorem law_HexaNumbers (v : Int) (s t : ByteArray) (w : World) (hv0 : -9223372036854775808 ≤ v) (hv1 : v ≤ 9223372036854775807) (hs : s.size ≤ 9223372036854775807) (ht : t.size ≤ 9223372036854775807) (hT : TabOk w) (hE : ErrOk w) :
    Calls Tryd.prog 5 #[.int .i64 v, .string s, .string t] w fun e w' => e = .returned (.bool true) ∧ Grew w w' := by
  have g0 : Grew w w := Below.refl _ _
  have ca := (fun W g => awake01 W (hT.grew g) : ∀ W, Grew w W → _)
  by_cases l1 : 300 < s.size
  · clear hT hE
    go_enter Tryd.func5, Tryd.ntmps5
    go_wp2_with (first | (go_at_call 8; with_reducible refine (ca _ (by assumption)).mono ?_; rintro e1 W1 ⟨rfl, g1⟩; replace g1 := Grew.trans' (a := w) (by assumption) g1))
    go_ret
    exact ⟨rfl, by assumption⟩
  by_cases l2 : 300 < t.size
  · clear hT hE
    go_enter Tryd.func5, Tryd.ntmps5
    go_wp2_with (first | (go_at_call 8; with_reducible refine (ca _ (by assumption)).mono ?_; rintro e1 W1 ⟨rfl, g1⟩; replace g1 := Grew.trans' (a := w) (by assumption) g1))
    go_ret
    exact ⟨rfl, by assumption⟩
  have c1 := (fun W g => hexa_TakeNumber s W (by omega) (hT.grew g) (hE.grew g) : ∀ W, Grew w W → _)
  have c2 := (fun W g => ref_TakeNumber s W (by omega) : ∀ W, Grew w W → _)
  have c3 := (fun W g => hexa_Number v W hv0 hv1 (hT.grew g) : ∀ W, Grew w W → _)
  have c4 := (fun W g => ref_Number v W ⟨hv0, hv1⟩ : ∀ W, Grew w W → _)
  have c5 := fun W => hexa_Compare s t W
  have c6 := fun W => ref_Compare s t W
  have c7 := fun W => hexa_Compare s s W
  rw [compare_self] at c7
  obtain ⟨x, e, hx⟩ := takeV_parts s.data.toList
  rw [hx] at c1 c2
  obtain ⟨N, hN⟩ : ∃ N : ByteArray, (⟨(Lib.itoa v).toArray⟩ : ByteArray) = N := ⟨_, rfl⟩
  rw [hN] at c3 c4
  generalize Lib.compareBytes s.data.toList t.data.toList = C at c5 c6
  have q1 : (x == x) = true := by simp
  have q2 : (e == e) = true := by simp
  have q3 : (C == C) = true := by simp
  have q4 : (N.toList == N.toList) = true := by simp
  clear hT hE hx hN
  go_enter Tryd.func5, Tryd.ntmps5
  go_wp2_with (first | (go_at_call 8; with_reducible refine (ca _ (by assumption)).mono ?_; rintro e1 W1 ⟨rfl, g1⟩; replace g1 := Grew.trans' (a := w) (by assumption) g1) | (go_at_call 18; with_reducible refine (c1 _ (by assumption)).mono ?_; rintro e1 W1 ⟨rfl, g1⟩; replace g1 := Grew.trans' (a := w) (by assumption) g1) | (go_at_call 19; with_reducible refine (c2 _ (by assumption)).mono ?_; rintro e1 W1 ⟨rfl, g1⟩; replace g1 := Grew.trans' (a := w) (by assumption) g1) | (go_at_call 20; with_reducible refine (c3 _ (by assumption)).mono ?_; rintro e1 W1 ⟨rfl, g1⟩; replace g1 := Grew.trans' (a := w) (by assumption) g1) | (go_at_call 21; with_reducible refine (c4 _ (by assumption)).mono ?_; rintro e1 W1 ⟨rfl, g1⟩; replace g1 := Grew.trans' (a := w) (by assumption) g1) | (go_at_call 22; with_reducible refine (c5 _).mono ?_; rintro e1 W1 ⟨rfl, h1⟩; subst W1) | (go_at_call 22; with_reducible refine (c7 _).mono ?_; rintro e1 W1 ⟨rfl, h1⟩; subst W1) | (go_at_call 23; with_reducible refine (c6 _).mono ?_; rintro e1 W1 ⟨rfl, h1⟩; subst W1))
  all_goals go_outline
  go_ret
  exact ⟨by simp, by assumption⟩

end Go.Proofs.YtejoknkacpopeaaDoor

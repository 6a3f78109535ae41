/- The law IdentCleans of layer 6, walked: for any text the call returns true. Conditions: the library's tables are laid. -/
import Derived.Test.YtibgjadnamgneaaDoorLaw06a
import Derived.Test.YtibgjadnamgneaaDoorIdent14
namespace Go.Proofs.YtibgjadnamgneaaDoor
set_option linter.unusedVariables false
set_option linter.unusedSimpArgs false
open Go.RowKit

theorem pre_no {l : List UInt8} (h : ∀ a, l ≠ 32 :: a) : Lib.hasPrefix l [32] = false := by
  cases l with
  | nil => rfl
  | cons c r =>
    have : c ≠ 32 := fun e => h r (by rw [e])
    simp [Lib.hasPrefix, List.isPrefixOf]
    exact fun e => this e.symm
theorem pre_yes {l : List UInt8} (h : Lib.hasPrefix l [32] = false) : ∀ a, l ≠ 32 :: a := by
  intro a e
  rw [e] at h
  simp [Lib.hasPrefix, List.isPrefixOf] at h
theorem suf_yes {l : List UInt8} (h : Lib.hasSuffix l [32] = false) : ∀ a, l ≠ a ++ [32] := by
  intro a e
  have : Lib.hasSuffix (a ++ [32]) [32] = true := by
    unfold Lib.hasSuffix
    rw [List.isSuffixOf_iff_suffix]
    exact ⟨a, rfl⟩
  rw [e, this] at h
  cases h
theorem suf_no {l : List UInt8} (h : ∀ a, l ≠ a ++ [32]) : Lib.hasSuffix l [32] = false := by
  cases hq : Lib.hasSuffix l [32] with
  | false => rfl
  | true =>
    exfalso
    unfold Lib.hasSuffix at hq
    rw [List.isSuffixOf_iff_suffix] at hq
    obtain ⟨a, ha⟩ := hq
    exact h a ha.symm
theorem clean_is_called (l : List UInt8) : calledP (Pure.clean l) = true := by
  obtain ⟨h1, h2, h3, h4, h5⟩ := Pure.clean_called l
  unfold calledP
  have h2' : (Pure.clean l).any badI = false := h2
  rw [decide_eq_true h3, h1, h2', pre_no h4, suf_no h5]
  rfl
theorem called_stays {l : List UInt8} (h : calledP l = true) : Pure.clean l = l := by
  unfold calledP at h
  simp only [Bool.and_eq_true, Bool.not_eq_true', decide_eq_true_eq] at h
  obtain ⟨⟨⟨⟨h1, h2⟩, h3⟩, h4⟩, h5⟩ := h
  exact Pure.clean_same h2 h3 h1 (pre_yes h4) (suf_yes h5)

set_option maxRecDepth 100000 in
set_option maxHeartbeats 4000000 in
theorem law_IdentCleans (s : ByteArray) (w : World) (hs : s.size ≤ 9223372036854775807) (hu : U8Ok w) (ht : TabOk w) :
    Calls Tryd.prog 5 #[.string s] w fun e w' => e = .returned (.bool true) ∧ Grew w w' := by
  have g0 : Grew w w := Below.refl _ _
  have ca := (fun W g => awake06 W (u8_grew hu g) (ht.grew g) : ∀ W, Grew w W → _)
  by_cases h0 : 1500 < s.size
  · have f1 : decide (1500 < (s.size : Int)) = true := decide_eq_true (by omega)
    clear hu ht
    go_enter Tryd.func5, Tryd.ntmps5
    go_wp2_with (first | (go_at_call 9; with_reducible refine (ca _ (by assumption)).mono ?_; rintro e1 W1 ⟨rfl, g1⟩; replace g1 := Grew.trans' (a := w) (by assumption) g1))
    go_ret
    exact ⟨rfl, by assumption⟩
  have f1 : decide (1500 < (s.size : Int)) = false := decide_eq_false (by omega)
  obtain ⟨C, hC⟩ : ∃ C : ByteArray, (⟨(Pure.clean s.data.toList).toArray⟩ : ByteArray) = C := ⟨_, rfl⟩
  have hCL : C.data.toList = Pure.clean s.data.toList := by rw [← hC]
  have hCs : C.size ≤ 200 := by
    rw [Lib.size_eq, hCL]
    exact (Pure.clean_called _).2.2.1
  have hCC : (⟨(Pure.clean C.data.toList).toArray⟩ : ByteArray) = C := by
    rw [called_stays (by rw [hCL]; exact clean_is_called _)]
  have c1 := (fun W g => ident_Clean s W (by omega) (u8_grew hu g) : ∀ W, Grew w W → _)
  have c2 := (fun W g => ref06_Clean s W (by omega) (u8_grew hu g) : ∀ W, Grew w W → _)
  have c3 := (fun W g => ident_Clean C W (by omega) (u8_grew hu g) : ∀ W, Grew w W → _)
  have c4 := (fun W g => ident_Right ⟨C, ⟨#[]⟩, 0, 0⟩ W (by show C.size ≤ _; omega) emptyB_le (u8_grew hu g) : ∀ W, Grew w W → _)
  have c5 := (fun W g => ref_RightN ⟨s, ⟨#[]⟩, 0, 0⟩ W (by show s.size ≤ _; omega) emptyB_le (u8_grew hu g) : ∀ W, Grew w W → _)
  rw [hC] at c1 c2
  rw [hCC] at c3
  rw [right_name, hCL, clean_is_called] at c4
  rw [right_name] at c5
  have hmay : calledP s.data.toList = true → (C.toList == s.toList) = true := by
    intro h
    rw [beq_iff_eq, ByteArray.toList_eq, ByteArray.toList_eq, hCL, called_stays h]
  obtain ⟨M, hM⟩ : ∃ M, calledP s.data.toList = M := ⟨_, rfl⟩
  rw [hM] at c5 hmay
  have hself : (C.toList == C.toList) = true := by simp
  simp only [Idn.cells] at c4 c5
  clear hu ht hC hCL hCC hM h0
  cases M with
  | true =>
    have hms := hmay rfl
    clear hmay
    go_enter Tryd.func5, Tryd.ntmps5
    go_wp2_with (first | (go_at_call 9; with_reducible refine (ca _ (by assumption)).mono ?_; rintro e1 W1 ⟨rfl, g1⟩; replace g1 := Grew.trans' (a := w) (by assumption) g1) | (go_at_call 13; with_reducible refine (c1 _ (by assumption)).mono ?_; rintro e1 W1 ⟨rfl, g1⟩; replace g1 := Grew.trans' (a := w) (by assumption) g1) | (go_at_call 13; with_reducible refine (c3 _ (by assumption)).mono ?_; rintro e1 W1 ⟨rfl, g1⟩; replace g1 := Grew.trans' (a := w) (by assumption) g1) | (go_at_call 14; with_reducible refine (c2 _ (by assumption)).mono ?_; rintro e1 W1 ⟨rfl, g1⟩; replace g1 := Grew.trans' (a := w) (by assumption) g1) | (go_at_call 10; with_reducible refine (c4 _ (by assumption)).mono ?_; rintro e1 W1 ⟨rfl, g1⟩; replace g1 := Grew.trans' (a := w) (by assumption) g1) | (go_at_call 8; with_reducible refine (c5 _ (by assumption)).mono ?_; rintro e1 W1 ⟨rfl, g1⟩; replace g1 := Grew.trans' (a := w) (by assumption) g1))
    go_ret
    exact ⟨rfl, by assumption⟩
  | false =>
    clear hmay
    go_enter Tryd.func5, Tryd.ntmps5
    go_wp2_with (first | (go_at_call 9; with_reducible refine (ca _ (by assumption)).mono ?_; rintro e1 W1 ⟨rfl, g1⟩; replace g1 := Grew.trans' (a := w) (by assumption) g1) | (go_at_call 13; with_reducible refine (c1 _ (by assumption)).mono ?_; rintro e1 W1 ⟨rfl, g1⟩; replace g1 := Grew.trans' (a := w) (by assumption) g1) | (go_at_call 13; with_reducible refine (c3 _ (by assumption)).mono ?_; rintro e1 W1 ⟨rfl, g1⟩; replace g1 := Grew.trans' (a := w) (by assumption) g1) | (go_at_call 14; with_reducible refine (c2 _ (by assumption)).mono ?_; rintro e1 W1 ⟨rfl, g1⟩; replace g1 := Grew.trans' (a := w) (by assumption) g1) | (go_at_call 10; with_reducible refine (c4 _ (by assumption)).mono ?_; rintro e1 W1 ⟨rfl, g1⟩; replace g1 := Grew.trans' (a := w) (by assumption) g1) | (go_at_call 8; with_reducible refine (c5 _ (by assumption)).mono ?_; rintro e1 W1 ⟨rfl, g1⟩; replace g1 := Grew.trans' (a := w) (by assumption) g1))
    go_ret
    exact ⟨rfl, by assumption⟩

end Go.Proofs.YtibgjadnamgneaaDoor

/- The laws RefnameBranches and RefnameLong of layer 11, walked: for any input the call returns true, and nothing that was there has changed. Conditions: the library's tables are laid. -/
import Derived.Test.YtgapnfalmdjlcaaDoorLaw11a
import Derived.Test.YtgapnfalmdjlcaaDoorPure11b
namespace Go.Proofs.YtgapnfalmdjlcaaDoor
set_option linter.unusedVariables false
set_option linter.unusedSimpArgs false
open Go.RowKit

/-- A text that begins with a sign: its length, and its first byte. -/
theorem prefix_first (s : ByteArray) (c : UInt8) : Lib.hasPrefix s.data.toList [c] = if h : 0 < s.size then (((s[0]'h).toNat : Int) == (c.toNat : Int)) else false := by
  split
  · rename_i h
    have h1 := Lib.data_getElem? s 0 h
    cases hl : s.data.toList with
    | nil => rw [hl] at h1; cases h1
    | cons a r =>
      rw [hl] at h1
      have e := Option.some.inj h1
      rw [← e, Bool.eq_iff_iff]
      simp only [Lib.hasPrefix, List.isPrefixOf, Bool.and_true, beq_iff_eq]
      constructor
      · intro h; rw [h]
      · intro h; exact UInt8.toNat_inj.1 (by omega)
  · rename_i h
    have : s.data.toList.length = s.size := Array.length_toList
    rw [List.eq_nil_of_length_eq_zero (by omega : s.data.toList.length = 0)]
    rfl

theorem two_list (s t : ByteArray) : (s ++ (⟨#[47]⟩ : ByteArray) ++ t).data.toList = s.data.toList ++ 47 :: t.data.toList := by simp

/-- What stands behind the hyphen's test. -/
theorem branches_rest (s t : ByteArray) (w : World) (hs : s.size ≤ 80) (ht : t.size ≤ 80) (hm : MaxOk w) (hu : U8Ok w) (A : Bool) (hA : Lib.hasPrefix s.data.toList [45] = A) :
    (∀ W, Grew w W → Calls Tryd.prog 10 #[.string s] W fun e w' => e = .returned (.bool (!A && Pure.right (Pure.headsL ++ s.data.toList))) ∧ Grew W w') ∧
    (∀ W, Grew w W → Calls Tryd.prog 8 #[.string (⟨#[114, 101, 102, 115, 47, 104, 101, 97, 100, 115, 47]⟩ ++ s)] W fun e w' => e = .returned (.bool (Pure.right (Pure.headsL ++ s.data.toList))) ∧ Grew W w') ∧
    (∀ W, Grew w W → Calls Tryd.prog 10 #[.string t] W fun e w' => e = .returned (.bool (Pure.branch t.data.toList)) ∧ Grew W w') ∧
    (∀ W, Grew w W → Calls Tryd.prog 10 #[.string (s ++ (⟨#[47]⟩ : ByteArray) ++ t)] W fun e w' => e = .returned (.bool (Pure.branch (s.data.toList ++ 47 :: t.data.toList))) ∧ Grew W w') ∧
    (∀ W, Grew w W → Calls Tryd.prog 8 #[.string (s ++ (⟨#[47]⟩ : ByteArray) ++ t)] W fun e w' => e = .returned (.bool (Pure.right (s.data.toList ++ 47 :: t.data.toList))) ∧ Grew W w') := by
  have hz : (s ++ (⟨#[47]⟩ : ByteArray) ++ t).size ≤ 161 := by
    rw [ByteArray.size_append, ByteArray.size_append]; show s.size + 1 + t.size ≤ 161; omega
  refine ⟨fun W g => ?_, fun W g => ?_, fun W g => ?_, fun W g => ?_, fun W g => ?_⟩
  · have := refname_Branch s W (by omega) (hm.grew g) (u8_grew hu g)
    rw [Pure.branch, hA] at this
    exact this
  · have := refname_Right (⟨#[114, 101, 102, 115, 47, 104, 101, 97, 100, 115, 47]⟩ ++ s) W (by rw [ByteArray.size_append]; show 11 + s.size ≤ _; omega) (hm.grew g) (u8_grew hu g)
    rw [heads_list] at this
    exact this
  · exact refname_Branch t W (by omega) (hm.grew g) (u8_grew hu g)
  · have := refname_Branch (s ++ (⟨#[47]⟩ : ByteArray) ++ t) W (by omega) (hm.grew g) (u8_grew hu g)
    rw [two_list] at this
    exact this
  · have := refname_Right (s ++ (⟨#[47]⟩ : ByteArray) ++ t) W (by omega) (hm.grew g) (u8_grew hu g)
    rw [two_list] at this
    exact this

set_option maxRecDepth 100000 in
set_option maxHeartbeats 1000000 in
theorem law_RefnameBranches (s t : ByteArray) (w : World) (hs : s.size ≤ 9223372036854775807) (ht : t.size ≤ 9223372036854775807) (hm : MaxOk w) (hu : U8Ok w) :
    Calls Tryd.prog 6 #[.string s, .string t] w fun e w' => e = .returned (.bool true) ∧ Grew w w' := by
  have ca := awake11 w hm hu
  by_cases l1 : 80 < s.size
  · clear hm hu
    go_enter Tryd.func6, Tryd.ntmps6
    go_wp2_with (go_at_call 7; refine ca.mono ?_; rintro e w1 ⟨rfl, g1⟩)
    go_ret
    exact ⟨rfl, g1⟩
  by_cases l2 : 80 < t.size
  · clear hm hu
    go_enter Tryd.func6, Tryd.ntmps6
    go_wp2_with (go_at_call 7; refine ca.mono ?_; rintro e w1 ⟨rfl, g1⟩)
    go_ret
    exact ⟨rfl, g1⟩
  have e1 : s.data.toList.length = s.size := Array.length_toList
  have e2 : t.data.toList.length = t.size := Array.length_toList
  obtain ⟨A, hA⟩ : ∃ A, Lib.hasPrefix s.data.toList [45] = A := ⟨_, rfl⟩
  obtain ⟨c1, c2, c3, c4, c5⟩ := branches_rest s t w (by omega) (by omega) hm hu A hA
  have hall := Pure.branches s.data.toList t.data.toList (by omega) (by omega)
  rw [show Pure.branch s.data.toList = (!A && Pure.right (Pure.headsL ++ s.data.toList)) by rw [Pure.branch, hA]] at hall
  rw [prefix_first] at hA
  generalize Pure.right (Pure.headsL ++ s.data.toList) = R at *
  generalize Pure.branch t.data.toList = B at *
  generalize Pure.branch (s.data.toList ++ 47 :: t.data.toList) = C at *
  generalize Pure.right (s.data.toList ++ 47 :: t.data.toList) = D at *
  have HALL := Lib.hid hall
  have h80 : decide (80 < (s.size : Int)) = false := decide_eq_false (by omega)
  have h80' : decide (80 < (t.size : Int)) = false := decide_eq_false (by omega)
  clear hall hm hu e1 e2
  have hbe : ∀ b : Bool, (b == b) = true := by intro b; simp
  by_cases h0 : 0 < s.size
  · rw [dif_pos h0] at hA
    have hA' : (((s[0]'h0).toNat : Int) == 45) = A := hA
    have h0' : decide (0 < (s.size : Int)) = true := decide_eq_true (by omega)
    clear hA
    cases A <;> cases R <;> cases B
    all_goals
      have g0 : Grew w w := Below.refl _ _
      go_enter Tryd.func6, Tryd.ntmps6
      go_wp2_with (first | (go_at_call 7; with_reducible refine (ca).mono ?_; rintro e1 W1 ⟨rfl, g1⟩; replace g1 := Grew.trans' (a := w) (by assumption) g1) | (go_at_call 10; with_reducible refine (c1 _ (by assumption)).mono ?_; rintro e1 W1 ⟨rfl, g1⟩; replace g1 := Grew.trans' (a := w) (by assumption) g1) | (go_at_call 10; with_reducible refine (c3 _ (by assumption)).mono ?_; rintro e1 W1 ⟨rfl, g1⟩; replace g1 := Grew.trans' (a := w) (by assumption) g1) | (go_at_call 10; with_reducible refine (c4 _ (by assumption)).mono ?_; rintro e1 W1 ⟨rfl, g1⟩; replace g1 := Grew.trans' (a := w) (by assumption) g1) | (go_at_call 8; with_reducible refine (c2 _ (by assumption)).mono ?_; rintro e1 W1 ⟨rfl, g1⟩; replace g1 := Grew.trans' (a := w) (by assumption) g1) | (go_at_call 8; with_reducible refine (c5 _ (by assumption)).mono ?_; rintro e1 W1 ⟨rfl, g1⟩; replace g1 := Grew.trans' (a := w) (by assumption) g1))
      all_goals
        go_ret
        refine ⟨?_, by assumption⟩
        have := HALL.out
        simp_all
  · rw [dif_neg h0] at hA
    subst hA
    have h0' : decide (0 < (s.size : Int)) = false := decide_eq_false (by omega)
    cases R <;> cases B
    all_goals
      have g0 : Grew w w := Below.refl _ _
      go_enter Tryd.func6, Tryd.ntmps6
      go_wp2_with (first | (go_at_call 7; with_reducible refine (ca).mono ?_; rintro e1 W1 ⟨rfl, g1⟩; replace g1 := Grew.trans' (a := w) (by assumption) g1) | (go_at_call 10; with_reducible refine (c1 _ (by assumption)).mono ?_; rintro e1 W1 ⟨rfl, g1⟩; replace g1 := Grew.trans' (a := w) (by assumption) g1) | (go_at_call 10; with_reducible refine (c3 _ (by assumption)).mono ?_; rintro e1 W1 ⟨rfl, g1⟩; replace g1 := Grew.trans' (a := w) (by assumption) g1) | (go_at_call 10; with_reducible refine (c4 _ (by assumption)).mono ?_; rintro e1 W1 ⟨rfl, g1⟩; replace g1 := Grew.trans' (a := w) (by assumption) g1) | (go_at_call 8; with_reducible refine (c2 _ (by assumption)).mono ?_; rintro e1 W1 ⟨rfl, g1⟩; replace g1 := Grew.trans' (a := w) (by assumption) g1) | (go_at_call 8; with_reducible refine (c5 _ (by assumption)).mono ?_; rintro e1 W1 ⟨rfl, g1⟩; replace g1 := Grew.trans' (a := w) (by assumption) g1))
      all_goals
        go_ret
        refine ⟨?_, by assumption⟩
        have := HALL.out
        simp_all

theorem long189 : Pure.right (Pure.headsL ++ List.replicate 189 120) = true := by decide +kernel
theorem long190 : Pure.right (Pure.headsL ++ List.replicate 190 120) = false := by decide +kernel

set_option maxRecDepth 100000 in
set_option maxHeartbeats 1000000 in
theorem law_RefnameLong (more : Bool) (w : World) (hm : MaxOk w) (hu : U8Ok w) :
    Calls Tryd.prog 5 #[.bool more] w fun e w' => e = .returned (.bool true) ∧ Grew w w' := by
  have ca := awake11 w hm hu
  cases more with
  | true =>
    have g0 : Grew w w := Below.refl _ _
    go_enter Tryd.func5, Tryd.ntmps5
    go_wp2
    go_loopw [3] (fun v wr => ∃ (k : Nat) (S : ByteArray), v = .string S ∧ k ≤ 190 ∧ S.size = 11 + k ∧ Hid (S.data.toList = Pure.headsL ++ List.replicate k 120) ∧ w = wr) (fun v _ => match v with | .string x => 211 - x.size | _ => 0)
    case atStart => exact ⟨0, _, rfl, by omega, rfl, rfl, rfl⟩
    case round =>
      obtain ⟨k, S, rfl, hk, hsz, hS, rfl⟩ := hrel
      by_cases hlt : k < 190
      · go_wp2
        go_roundw
        case rel => exact ⟨k + 1, S ++ ⟨#[120]⟩, rfl, by omega, by rw [ByteArray.size_append, hsz]; rfl, by unfold Hid; rw [append_list, hS.out, List.append_assoc, List.replicate_succ'], by trivial⟩
        case measure => simp only [ByteArray.size_append, hsz]; show 211 - (11 + k + 1) < _; omega
      · have hkn : k = 190 := by omega
        subst hkn
        have cr := (fun W g => refname_Right S W (by omega) (hm.grew g) (u8_grew hu g) : ∀ W, Grew w W → _)
        have cb := (fun W g => refname_Branch (S.extract 11 S.size) W (by rw [ByteArray.size_extract]; omega) (hm.grew g) (u8_grew hu g) : ∀ W, Grew w W → _)
        have hSe : (S.extract 11 S.size).data.toList = List.replicate 190 120 := by rw [Lib.extract_to_end, hS.out]; simp [Pure.headsL]
        rw [hSe, Pure.branch, show Lib.hasPrefix (List.replicate 190 120) [45] = false by decide +kernel, long190] at cb
        rw [hS.out, long190] at cr
        rw [show S.size = 201 by omega] at cb
        clear hS hSe hm hu
        go_wp2_with (first | (go_at_call 7; with_reducible refine (ca).mono ?_; rintro e1 W1 ⟨rfl, g1⟩; replace g1 := Grew.trans' (a := w) (by assumption) g1) | (go_at_call 8; with_reducible refine (cr _ (by assumption)).mono ?_; rintro e1 W1 ⟨rfl, g1⟩; replace g1 := Grew.trans' (a := w) (by assumption) g1) | (go_at_call 10; with_reducible refine (cb _ (by assumption)).mono ?_; rintro e1 W1 ⟨rfl, g1⟩; replace g1 := Grew.trans' (a := w) (by assumption) g1))
        go_ret
        exact ⟨rfl, by assumption⟩
  | false =>
    have g0 : Grew w w := Below.refl _ _
    go_enter Tryd.func5, Tryd.ntmps5
    go_wp2
    go_loopw [3] (fun v wr => ∃ (k : Nat) (S : ByteArray), v = .string S ∧ k ≤ 189 ∧ S.size = 11 + k ∧ Hid (S.data.toList = Pure.headsL ++ List.replicate k 120) ∧ w = wr) (fun v _ => match v with | .string x => 211 - x.size | _ => 0)
    case atStart => exact ⟨0, _, rfl, by omega, rfl, rfl, rfl⟩
    case round =>
      obtain ⟨k, S, rfl, hk, hsz, hS, rfl⟩ := hrel
      by_cases hlt : k < 189
      · go_wp2
        go_roundw
        case rel => exact ⟨k + 1, S ++ ⟨#[120]⟩, rfl, by omega, by rw [ByteArray.size_append, hsz]; rfl, by unfold Hid; rw [append_list, hS.out, List.append_assoc, List.replicate_succ'], by trivial⟩
        case measure => simp only [ByteArray.size_append, hsz]; show 211 - (11 + k + 1) < _; omega
      · have hkn : k = 189 := by omega
        subst hkn
        have cr := (fun W g => refname_Right S W (by omega) (hm.grew g) (u8_grew hu g) : ∀ W, Grew w W → _)
        have cb := (fun W g => refname_Branch (S.extract 11 S.size) W (by rw [ByteArray.size_extract]; omega) (hm.grew g) (u8_grew hu g) : ∀ W, Grew w W → _)
        have hSe : (S.extract 11 S.size).data.toList = List.replicate 189 120 := by rw [Lib.extract_to_end, hS.out]; simp [Pure.headsL]
        rw [hSe, Pure.branch, show Lib.hasPrefix (List.replicate 189 120) [45] = false by decide +kernel, long189] at cb
        rw [hS.out, long189] at cr
        rw [show S.size = 200 by omega] at cb
        clear hS hSe hm hu
        go_wp2_with (first | (go_at_call 7; with_reducible refine (ca).mono ?_; rintro e1 W1 ⟨rfl, g1⟩; replace g1 := Grew.trans' (a := w) (by assumption) g1) | (go_at_call 8; with_reducible refine (cr _ (by assumption)).mono ?_; rintro e1 W1 ⟨rfl, g1⟩; replace g1 := Grew.trans' (a := w) (by assumption) g1) | (go_at_call 10; with_reducible refine (cb _ (by assumption)).mono ?_; rintro e1 W1 ⟨rfl, g1⟩; replace g1 := Grew.trans' (a := w) (by assumption) g1))
        go_ret
        exact ⟨rfl, by assumption⟩

end Go.Proofs.YtgapnfalmdjlcaaDoor

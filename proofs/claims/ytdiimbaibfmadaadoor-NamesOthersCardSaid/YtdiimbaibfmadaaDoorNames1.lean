/- names.Mark and names.Ref: a ref's bookmark, and a bookmark's ref; so the reference's. Conditions: the library's tables are laid, the texts are at most 2^38 bytes long. -/
import Derived.Test.YtdiimbaibfmadaaDoorName4
import Derived.Test.YtdiimbaibfmadaaDoorPure25
namespace Go.Proofs.YtdiimbaibfmadaaDoor
set_option linter.unusedVariables false
set_option linter.unusedSimpArgs false
open Go.RowKit

abbrev headsB : ByteArray := ⟨#[114, 101, 102, 115, 47, 104, 101, 97, 100, 115, 47]⟩
abbrev otherB : ByteArray := ⟨#[114, 101, 102, 47]⟩
/-- A text or none, as two results. -/
def tellV : Option (List UInt8) → Value
  | some m => .tuple #[.string ⟨m.toArray⟩, .bool true]
  | none => .tuple #[.string ⟨#[]⟩, .bool false]
theorem tell_some {s : ByteArray} {m : List UInt8} (h : s.data.toList = m) : tellV (some m) = .tuple #[.string s, .bool true] := by
  subst h
  rfl

set_option maxRecDepth 100000 in
set_option maxHeartbeats 1000000 in
theorem names_Mark (s : ByteArray) (w : World) (hs : s.size ≤ 274877906944) (hm : MaxOk w) (hu : U8Ok w) :
    Calls Tryd.prog 8 #[.string s] w fun e w' => e = .returned (tellV (Pure.mark s.data.toList)) ∧ Grew w w' := by
  have g0 : Grew w w := Below.refl _ _
  have cR := (fun W g => refname_Right s W (by omega) (hm.grew g) (u8_grew hu g) : ∀ W, Grew w W → _)
  cases hR : Pure.right s.data.toList with
  | false =>
    have he : Pure.mark s.data.toList = none := by unfold Pure.mark; rw [if_pos hR]
    rw [he]
    rw [hR] at cR
    clear hm hu he hR
    go_enter Tryd.func8, Tryd.ntmps8
    go_wp2_with (first | (go_at_call 14; with_reducible refine (cR _ (by assumption)).mono ?_; rintro e1 W1 ⟨rfl, g1⟩; replace g1 := Grew.trans' (a := w) (by assumption) g1))
    go_ret2
    exact ⟨rfl, by assumption⟩
  | true =>
    rw [hR] at cR
    have cC := fun W => Tryd.strings_CutPrefix s headsB W
    obtain ⟨P, hP⟩ : ∃ P, Lib.hasPrefix s.data.toList Pure.headsL = P := ⟨_, rfl⟩
    obtain ⟨T, hT⟩ : ∃ T : ByteArray, (⟨(Lib.trimPrefix s.data.toList headsB.data.toList).toArray⟩ : ByteArray) = T := ⟨_, rfl⟩
    have hTd : T.data.toList = Lib.trimPrefix s.data.toList Pure.headsL := by rw [← hT]; rfl
    have hTl : T.size ≤ 274877906944 := by
      have h1 : T.data.toList.length = T.size := Array.length_toList
      have h2 : s.data.toList.length = s.size := Array.length_toList
      rw [← h1, hTd]
      unfold Lib.trimPrefix
      split
      · rw [List.length_drop]; omega
      · omega
    rw [hT, show headsB.data.toList = Pure.headsL from rfl, hP] at cC
    have c2 := (fun W g => refname_Branch (otherB ++ s) W (by rw [ByteArray.size_append]; show 4 + s.size ≤ _; omega) (hm.grew g) (u8_grew hu g) : ∀ W, Grew w W → _)
    have hO : (otherB ++ s).data.toList = Pure.otherL ++ s.data.toList := by rw [append_list]; rfl
    rw [hO] at c2
    obtain ⟨B2, hB2⟩ : ∃ B, Pure.branch (Pure.otherL ++ s.data.toList) = B := ⟨_, rfl⟩
    rw [hB2] at c2
    cases P with
    | false =>
      have he : Pure.mark s.data.toList = if B2 = true then some (Pure.otherL ++ s.data.toList) else none := by
        unfold Pure.mark; rw [if_neg (by rw [hR]; simp), hP, hB2]; rfl
      have HE := Lib.hid he
      have HO := Lib.hid hO
      clear hm hu he hR hP hB2 hT hTd hO
      cases B2
      all_goals
        go_enter Tryd.func8, Tryd.ntmps8
        go_wp2_with (first | (go_at_call 14; with_reducible refine (cR _ (by assumption)).mono ?_; rintro e1 W1 ⟨rfl, g1⟩; replace g1 := Grew.trans' (a := w) (by assumption) g1) | (go_at_call 15; with_reducible refine (cC _).mono ?_; rintro e1 W1 ⟨rfl, h1⟩; subst W1) | (go_at_call 16; with_reducible refine (c2 _ (by assumption)).mono ?_; rintro e1 W1 ⟨rfl, g1⟩; replace g1 := Grew.trans' (a := w) (by assumption) g1))
        go_ret2
        refine ⟨?_, by assumption⟩
        rw [HE.out]
        first | rfl | exact congrArg Ending.returned (tell_some HO.out).symm
    | true =>
      have hTd2 : T.data.toList = s.data.toList.drop 11 := by rw [hTd, Lib.trimPrefix, if_pos hP]; rfl
      have c1 := (fun W g => refname_Branch T W (by omega) (hm.grew g) (u8_grew hu g) : ∀ W, Grew w W → _)
      have c3 := fun W => Tryd.strings_HasPrefix T otherB W
      rw [hTd2] at c1
      rw [hTd2, show otherB.data.toList = Pure.otherL from rfl] at c3
      obtain ⟨B1, hB1⟩ : ∃ B, Pure.branch (s.data.toList.drop 11) = B := ⟨_, rfl⟩
      obtain ⟨O, hO1⟩ : ∃ B, Lib.hasPrefix (s.data.toList.drop 11) Pure.otherL = B := ⟨_, rfl⟩
      rw [hB1] at c1
      rw [hO1] at c3
      have he : Pure.mark s.data.toList = if (B1 && !O) = true then some (s.data.toList.drop 11) else if B2 = true then some (Pure.otherL ++ s.data.toList) else none := by
        unfold Pure.mark; rw [if_neg (by rw [hR]; simp), hP, hB1, hO1, hB2]; rfl
      have HE := Lib.hid he
      have HO := Lib.hid hO
      have HT := Lib.hid hTd2
      clear hm hu he hR hP hB2 hT hTd hO hB1 hO1 hTd2
      cases B1 <;> cases O <;> cases B2
      all_goals
        go_enter Tryd.func8, Tryd.ntmps8
        go_wp2_with (first | (go_at_call 14; with_reducible refine (cR _ (by assumption)).mono ?_; rintro e1 W1 ⟨rfl, g1⟩; replace g1 := Grew.trans' (a := w) (by assumption) g1) | (go_at_call 15; with_reducible refine (cC _).mono ?_; rintro e1 W1 ⟨rfl, h1⟩; subst W1) | (go_at_call 17; with_reducible refine (c3 _).mono ?_; rintro e1 W1 ⟨rfl, h1⟩; subst W1) | (go_at_call 16; with_reducible refine (c1 _ (by assumption)).mono ?_; rintro e1 W1 ⟨rfl, g1⟩; replace g1 := Grew.trans' (a := w) (by assumption) g1) | (go_at_call 16; with_reducible refine (c2 _ (by assumption)).mono ?_; rintro e1 W1 ⟨rfl, g1⟩; replace g1 := Grew.trans' (a := w) (by assumption) g1))
        go_ret2
        refine ⟨?_, by assumption⟩
        rw [HE.out]
        first | rfl | exact congrArg Ending.returned (tell_some HO.out).symm | exact congrArg Ending.returned (tell_some HT.out).symm

theorem same_text {X m : ByteArray} (h : X.data.toList = m.data.toList) : X = m := by
  cases X with | mk a => cases m with | mk b =>
  simp only at h
  rw [Array.toList_inj.1 h]

set_option maxRecDepth 100000 in
set_option maxHeartbeats 1000000 in
theorem names_Ref (m : ByteArray) (w : World) (hs : m.size ≤ 137438953472) (hm : MaxOk w) (hu : U8Ok w) :
    Calls Tryd.prog 11 #[.string m] w fun e w' => e = .returned (tellV (Pure.refOf m.data.toList)) ∧ Grew w w' := by
  have g0 : Grew w w := Below.refl _ _
  have cC := fun W => Tryd.strings_CutPrefix m otherB W
  obtain ⟨P, hP⟩ : ∃ P, Lib.hasPrefix m.data.toList Pure.otherL = P := ⟨_, rfl⟩
  obtain ⟨T, hT⟩ : ∃ T : ByteArray, (⟨(Lib.trimPrefix m.data.toList otherB.data.toList).toArray⟩ : ByteArray) = T := ⟨_, rfl⟩
  have hTd : T.data.toList = Lib.trimPrefix m.data.toList Pure.otherL := by rw [← hT]; rfl
  have h1 : T.data.toList.length = T.size := Array.length_toList
  have h2 : m.data.toList.length = m.size := Array.length_toList
  have hTl : T.size ≤ 274877906944 := by
    rw [← h1, hTd]
    unfold Lib.trimPrefix
    split
    · rw [List.length_drop]; omega
    · omega
  rw [hT, show otherB.data.toList = Pure.otherL from rfl, hP] at cC
  obtain ⟨R, hR⟩ : ∃ R : ByteArray, (if P = true then T else headsB ++ m) = R := ⟨_, rfl⟩
  have hRd : R.data.toList = if P = true then m.data.toList.drop 4 else Pure.headsL ++ m.data.toList := by
    rw [← hR]
    cases P with
    | true => rw [if_pos rfl, if_pos rfl, hTd, Lib.trimPrefix, if_pos hP]; rfl
    | false => rw [if_neg (by simp), if_neg (by simp), append_list]; rfl
  have hRl : R.size ≤ 274877906944 := by
    rw [← hR]
    split
    · exact hTl
    · rw [ByteArray.size_append]; show 11 + m.size ≤ _; omega
  have cM := (fun W g => names_Mark R W hRl (hm.grew g) (u8_grew hu g) : ∀ W, Grew w W → _)
  have he : Pure.refOf m.data.toList = if Pure.mark R.data.toList = some m.data.toList then some R.data.toList else none := by
    unfold Pure.refOf
    rw [hP, ← hRd]
  have HE := Lib.hid he
  clear hm hu he hTd h1 h2 hT hRd hP
  cases hM : Pure.mark R.data.toList with
  | none =>
    rw [hM] at cM HE
    rw [show tellV none = .tuple #[.string ⟨#[]⟩, .bool false] from rfl] at cM
    have hf := HE.out
    rw [if_neg (by simp)] at hf
    have HF := Lib.hid hf
    clear hf HE hM
    cases P
    all_goals
      simp only [if_true, Bool.false_eq_true, if_false] at hR
      subst hR
      go_enter Tryd.func11, Tryd.ntmps11
      go_wp2_with (first | (go_at_call 15; with_reducible refine (cC _).mono ?_; rintro e1 W1 ⟨rfl, h1⟩; subst W1) | (go_at_call 8; with_reducible refine (cM _ (by assumption)).mono ?_; rintro e1 W1 ⟨rfl, g1⟩; replace g1 := Grew.trans' (a := w) (by assumption) g1))
      go_ret2
      refine ⟨?_, by assumption⟩
      rw [HF.out]
      rfl
  | some x =>
    rw [hM] at cM HE
    obtain ⟨X, hX⟩ : ∃ X : ByteArray, X.data.toList = x := ⟨⟨x.toArray⟩, rfl⟩
    rw [tell_some hX] at cM
    rw [← hX] at HE
    have HRR := Lib.hid (rfl : R.data.toList = R.data.toList)
    by_cases hxm : X = m
    · subst hxm
      have hf := HE.out
      rw [if_pos rfl] at hf
      have HF := Lib.hid hf
      clear hf HE hM hX
      have hself : (X.toList == X.toList) = true := by simp
      cases P
      all_goals
        simp only [if_true, Bool.false_eq_true, if_false] at hR
        subst hR
        go_enter Tryd.func11, Tryd.ntmps11
        go_wp2_with (first | (go_at_call 15; with_reducible refine (cC _).mono ?_; rintro e1 W1 ⟨rfl, h1⟩; subst W1) | (go_at_call 8; with_reducible refine (cM _ (by assumption)).mono ?_; rintro e1 W1 ⟨rfl, g1⟩; replace g1 := Grew.trans' (a := w) (by assumption) g1))
        go_ret2
        refine ⟨?_, by assumption⟩
        rw [HF.out]
        exact congrArg Ending.returned (tell_some rfl).symm
    · have hne : (X.toList == m.toList) = false := by
        rw [beq_eq_false_iff_ne]
        intro h
        rw [Lib.toList_data, Lib.toList_data] at h
        exact hxm (same_text h)
      have hf := HE.out
      rw [if_neg (by intro h; exact hxm (same_text (Option.some.inj h)))] at hf
      have HF := Lib.hid hf
      clear hf HE hM hX
      cases P
      all_goals
        simp only [if_true, Bool.false_eq_true, if_false] at hR
        subst hR
        go_enter Tryd.func11, Tryd.ntmps11
        go_wp2_with (first | (go_at_call 15; with_reducible refine (cC _).mono ?_; rintro e1 W1 ⟨rfl, h1⟩; subst W1) | (go_at_call 8; with_reducible refine (cM _ (by assumption)).mono ?_; rintro e1 W1 ⟨rfl, g1⟩; replace g1 := Grew.trans' (a := w) (by assumption) g1))
        go_ret2
        refine ⟨?_, by assumption⟩
        rw [HF.out]
        rfl

end Go.Proofs.YtdiimbaibfmadaaDoor

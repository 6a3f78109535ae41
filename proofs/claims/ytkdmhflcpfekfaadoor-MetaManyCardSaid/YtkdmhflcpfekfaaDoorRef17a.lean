/- The reference's key, without and path of extras and copies. Conditions: at most 2^30 bytes; the library's tables are laid. -/
import Derived.Test.YtkdmhflcpfekfaaDoorChg1
import Derived.Test.YtkdmhflcpfekfaaDoorQ3
import Derived.Test.YtkdmhflcpfekfaaDoorHelpText
namespace Go.Proofs.YtkdmhflcpfekfaaDoor
set_option linter.unusedVariables false
set_option linter.unusedSimpArgs false
open Go.RowKit

/-- How the reference asks for a byte. -/
def badR (x : Int) (p : Int) : Bool := !(decide (97 ≤ x) && decide (x ≤ 122)) && (p == 0 || !((decide (48 ≤ x) && decide (x ≤ 57)) || (x == 45 || x == 46)))
theorem badR_ok (c : UInt8) (pos : Nat) : badR (c.toNat : Int) (pos : Int) = !okK (pos == 0) c := by
  have e1 : (decide (97 ≤ (c.toNat : Int)) && decide ((c.toNat : Int) ≤ 122)) = smallB c := by
    unfold smallB
    rw [Bool.eq_iff_iff]
    simp only [Bool.and_eq_true, decide_eq_true_eq]
    omega
  have e2 : ((decide (48 ≤ (c.toNat : Int)) && decide ((c.toNat : Int) ≤ 57)) || ((c.toNat : Int) == 45 || (c.toNat : Int) == 46)) = (c.toNat == 45 || c.toNat == 46 || decide (48 ≤ c.toNat ∧ c.toNat ≤ 57)) := by
    rw [Bool.eq_iff_iff]
    simp only [Bool.and_eq_true, Bool.or_eq_true, decide_eq_true_eq, beq_iff_eq]
    omega
  unfold badR okK
  rw [e1, e2]
  by_cases h : pos = 0
  · subst h
    simp
  · have h1 : ((pos : Int) == 0) = false := by rw [beq_eq_false_iff_ne]; omega
    have h2 : (pos == 0) = false := by rw [beq_eq_false_iff_ne]; exact h
    rw [h1, h2]
    unfold otherB
    cases smallB c <;> simp

set_option maxRecDepth 100000 in
set_option maxHeartbeats 4000000 in
theorem ref17_key (s : ByteArray) (w : World) (hs : s.size ≤ 1073741824) :
    Calls Tryd.prog 58 #[.string s] w fun e w' => e = .returned (.bool (keyP s.data.toList)) ∧ w' = w := by
  have hsl : s.data.toList.length = s.size := Array.length_toList
  have hkp := keyP_scan s.data.toList
  obtain ⟨A, hA⟩ : ∃ A, scanK true s.data.toList = A := ⟨_, rfl⟩
  rw [hA] at hkp
  have HSL := Lib.hid hsl
  have HKP := Lib.hid hkp
  have HA := Lib.hid hA.symm
  clear hsl hkp hA
  go_enter Tryd.func58, Tryd.ntmps58
  go_wp2
  go_loop [3] (fun i => ∃ pos : Nat, i = .int .i64 (pos : Int) ∧ pos ≤ s.size ∧ Hid (A = scanK (pos == 0) (s.data.toList.drop pos))) (fun i => s.size - (intOf i).toNat)
  case atStart => exact ⟨0, rfl, Nat.zero_le _, by rw [List.drop_zero]; exact HA⟩
  case round =>
    obtain ⟨pos, rfl, hps, hal⟩ := hrel
    by_cases hp : pos < s.size
    · obtain ⟨c, hc⟩ : ∃ c, s.data.toList[pos]? = some c := ⟨_, List.getElem?_eq_getElem (by rw [HSL.out]; exact hp)⟩
      have hdrop : s.data.toList.drop pos = c :: s.data.toList.drop (pos + 1) := by
        rw [List.drop_eq_getElem_cons (by rw [HSL.out]; exact hp), (List.getElem?_eq_some_iff.1 hc).2]
      have hal2 := hal.out
      rw [hdrop] at hal2
      replace hal2 : A = (okK (pos == 0) c && scanK false (s.data.toList.drop (pos + 1))) := hal2
      have hix := index_str s pos c hc
      have hbk := badR_ok c pos
      obtain ⟨x, hx⟩ : ∃ x : Int, (c.toNat : Int) = x := ⟨_, rfl⟩
      rw [hx] at hix hbk
      obtain ⟨K, hK⟩ : ∃ K, okK (pos == 0) c = K := ⟨_, rfl⟩
      rw [hK] at hbk hal2
      have HAL := Lib.hid hal2
      have hbk2 : (!(decide (97 ≤ x) && decide (x ≤ 122)) && ((pos : Int) == 0 || !((decide (48 ≤ x) && decide (x ≤ 57)) || (x == 45 || x == 46)))) = !K := hbk
      have ways : (decide (97 ≤ x) = true ∧ decide (x ≤ 122) = true ∧ K = true) ∨
          ((decide (97 ≤ x) = false ∨ (decide (97 ≤ x) = true ∧ decide (x ≤ 122) = false)) ∧
            (((pos : Int) == 0) = true ∧ K = false ∨
              (((pos : Int) == 0) = false ∧ ((decide (48 ≤ x) = true ∧ decide (x ≤ 57) = true ∧ K = true) ∨ ((decide (48 ≤ x) = false ∨ (decide (48 ≤ x) = true ∧ decide (x ≤ 57) = false)) ∧ ((x == 45) = true ∧ K = true ∨ ((x == 45) = false ∧ ((x == 46) = true ∧ K = true ∨ (x == 46) = false ∧ K = false)))))))) := by
        revert hbk2
        cases decide (97 ≤ x) <;> cases decide (x ≤ 122) <;> cases ((pos : Int) == 0) <;> cases (x == 45) <;> cases (x == 46) <;> cases decide (48 ≤ x) <;> cases decide (x ≤ 57) <;> cases K <;> simp
      clear hbk hbk2 hx hdrop hal2 hal hK hc
      rcases ways with ⟨a1, a2, rfl⟩ | ⟨a1 | ⟨a1, a2⟩, ⟨a3, rfl⟩ | ⟨a3, ⟨a4, a5, rfl⟩ | ⟨a4 | ⟨a4, a5⟩, ⟨a6, rfl⟩ | ⟨a6, ⟨a7, rfl⟩ | ⟨a7, rfl⟩⟩⟩⟩⟩
      all_goals
        go_wp2
        first
          | (go_ret
             exact ⟨by rw [HKP.out, HAL.out]; rfl, rfl⟩)
          | (go_round
             case rel => exact ⟨pos + 1, by go_num, by omega, by have := HAL.out; unfold Hid; rw [this, Bool.true_and]; rfl⟩
             case measure => simp [intOf]; omega)
    · obtain rfl : pos = s.size := by omega
      have hal2 := hal.out
      rw [List.drop_eq_nil_of_le (by have := HSL.out; omega)] at hal2
      have hk2 : keyP s.data.toList = (decide (1 ≤ s.size) && decide (s.size ≤ 40)) := by
        have he : s.data.toList.isEmpty = !decide (1 ≤ s.size) := by
          rw [← HSL.out]
          cases s.data.toList <;> simp
        rw [HKP.out, hal2, HSL.out, he, Bool.not_not]
        rfl
      have HK2 := Lib.hid hk2
      clear hal2 hal hk2
      by_cases h1 : 1 ≤ s.size
      · by_cases h40 : s.size ≤ 40
        · have f1 : decide (1 ≤ (s.size : Int)) = true := decide_eq_true (by omega)
          have f2 : decide ((s.size : Int) ≤ 40) = true := decide_eq_true (by omega)
          have HH : Hid ((decide (1 ≤ s.size) && decide (s.size ≤ 40)) = true) := by simp [Hid, h40, h1]
          go_wp2
          go_ret
          exact ⟨by rw [HK2.out, HH.out]; rfl, rfl⟩
        · have f1 : decide (1 ≤ (s.size : Int)) = true := decide_eq_true (by omega)
          have f2 : decide ((s.size : Int) ≤ 40) = false := decide_eq_false (by omega)
          have HH : Hid ((decide (1 ≤ s.size) && decide (s.size ≤ 40)) = false) := by simp [Hid, h40]
          go_wp2
          go_ret
          exact ⟨by rw [HK2.out, HH.out]; rfl, rfl⟩
      · have f1 : decide (1 ≤ (s.size : Int)) = false := decide_eq_false (by omega)
        have HH : Hid ((decide (1 ≤ s.size) && decide (s.size ≤ 40)) = false) := by simp [Hid, h1]
        go_wp2
        go_ret
        exact ⟨by rw [HK2.out, HH.out]; rfl, rfl⟩

theorem mk_list' (s : ByteArray) : (⟨s.data.toList.toArray⟩ : ByteArray) = s := by cases s; rfl
/-- Has a text none of these bytes? -/
def noneOf (bs l : List UInt8) : Bool := l.all fun c => !bs.contains c
theorem noneOf_one (c : UInt8) (l : List UInt8) : noneOf [c] l = !l.contains c := by
  unfold noneOf
  rw [Bool.eq_iff_iff, List.all_eq_true]
  simp
  exact ⟨fun h hc => h c hc rfl, fun h x hx e => h (e ▸ hx)⟩
theorem find_one (l : List UInt8) (c : UInt8) : decide (0 ≤ Lib.index l [c]) = l.contains c := by
  have h := Pure.cut_one l c
  unfold Lib.cut at h
  cases hq : Pure.cutC c l with
  | none =>
    rw [hq] at h
    have h2 := (Pure.cutC_none c l).1 hq
    have h3 : l.contains c = false := by
      cases hc : l.contains c with
      | false => rfl
      | true => exact absurd rfl (h2 c (by simpa using hc))
    rw [h3]
    simp only at h
    split at h
    · simp at h
    · rw [decide_eq_false]; assumption
  | some y =>
    obtain ⟨a, b⟩ := y
    rw [hq] at h
    have h2 := ((Pure.cutC_some c l a b).1 hq).1
    have h3 : l.contains c = true := by rw [h2]; simp
    rw [h3]
    simp only at h
    split at h
    · rw [decide_eq_true]; assumption
    · simp at h

set_option maxRecDepth 100000 in
set_option maxHeartbeats 4000000 in
theorem ref17_without (s bs : ByteArray) (w : World) (hs : s.size ≤ 1073741824) (hb : bs.size ≤ 1000) :
    Calls Tryd.prog 59 #[.string s, .string bs] w fun e w' => e = .returned (.bool (noneOf bs.data.toList s.data.toList)) ∧ w' = w := by
  have hsl : s.data.toList.length = s.size := Array.length_toList
  have HSL := Lib.hid hsl
  obtain ⟨A, hA⟩ : ∃ A, noneOf bs.data.toList s.data.toList = A := ⟨_, rfl⟩
  rw [hA]
  have HA := Lib.hid hA.symm
  clear hsl hA
  go_enter Tryd.func59, Tryd.ntmps59
  go_wp2
  go_loop [5] (fun i => ∃ pos : Nat, i = .int .i64 (pos : Int) ∧ pos ≤ s.size ∧ Hid (A = noneOf bs.data.toList (s.data.toList.drop pos))) (fun i => s.size - (intOf i).toNat)
  case atStart => exact ⟨0, rfl, Nat.zero_le _, by rw [List.drop_zero]; exact HA⟩
  case round =>
    obtain ⟨pos, rfl, hps, hal⟩ := hrel
    by_cases hp : pos < s.size
    · obtain ⟨c, hc⟩ : ∃ c, s.data.toList[pos]? = some c := ⟨_, List.getElem?_eq_getElem (by rw [HSL.out]; exact hp)⟩
      have hdrop : s.data.toList.drop pos = c :: s.data.toList.drop (pos + 1) := by
        rw [List.drop_eq_getElem_cons (by rw [HSL.out]; exact hp), (List.getElem?_eq_some_iff.1 hc).2]
      have hal2 := hal.out
      rw [hdrop] at hal2
      replace hal2 : A = (!bs.data.toList.contains c && noneOf bs.data.toList (s.data.toList.drop (pos + 1))) := hal2
      have hex : s.extract pos (pos + 1) = ⟨#[c]⟩ := by
        have : (s.extract pos (pos + 1)).data.toList = [c] := by
          rw [ByteArray.data_extract]
          simp only [Array.toList_extract, List.extract_eq_take_drop]
          rw [hdrop, show pos + 1 - pos = 1 by omega]
          rfl
        have h2 := mk_list' (s.extract pos (pos + 1))
        rw [this] at h2
        exact h2.symm
      have cF := fun W => help_Find bs ⟨#[c]⟩ W (by omega) (by show 1 ≤ 1099511627776; decide) (by show 1 ≤ 1; decide)
      have hcd : (⟨#[c]⟩ : ByteArray).data.toList = [c] := rfl
      simp only [hcd] at cF
      have hfo := find_one bs.data.toList c
      obtain ⟨F, hF⟩ : ∃ F, Lib.index bs.data.toList [c] = F := ⟨_, rfl⟩
      obtain ⟨B, hB⟩ : ∃ B, bs.data.toList.contains c = B := ⟨_, rfl⟩
      rw [hF, hB] at hfo
      simp only [hF] at cF
      rw [hB] at hal2
      have HAL := Lib.hid hal2
      have HEX := Lib.hid hex
      obtain ⟨T, hT⟩ : ∃ T : ByteArray, (⟨#[c]⟩ : ByteArray) = T := ⟨_, rfl⟩
      rw [hT] at cF hex
      clear hal2 hal hdrop hcd hF hB hc hT
      cases B with
      | true =>
        go_wp2_with (go_at_call 23; with_reducible refine (cF _).mono ?_; rintro e9 W9 ⟨rfl, h9⟩; subst W9)
        go_ret
        exact ⟨by rw [HAL.out]; rfl, rfl⟩
      | false =>
        go_wp2_with (go_at_call 23; with_reducible refine (cF _).mono ?_; rintro e9 W9 ⟨rfl, h9⟩; subst W9)
        go_round
        case rel => exact ⟨pos + 1, by go_num, by omega, by have := HAL.out; unfold Hid; rw [this]; rfl⟩
        case measure => simp [intOf]; omega
    · obtain rfl : pos = s.size := by omega
      have hal2 := hal.out
      rw [List.drop_eq_nil_of_le (by have := HSL.out; omega)] at hal2
      have HAL := Lib.hid hal2
      clear hal hal2
      go_wp2
      go_ret
      exact ⟨by rw [HAL.out]; rfl, rfl⟩

set_option maxRecDepth 100000 in
theorem ref17_path (s : ByteArray) (w : World) (hs : s.size ≤ 1073741824) (hu : U8Ok w) :
    Calls Tryd.prog 60 #[.string s] w fun e w' => e = .returned (.bool (pathC s.data.toList)) ∧ Grew w w' := by
  have cP := ref_Path s w hs hu
  have cW := fun W => ref17_without s ⟨#[10]⟩ W hs (by decide)
  have hcd : (⟨#[10]⟩ : ByteArray).data.toList = [10] := rfl
  simp only [hcd, noneOf_one] at cW
  have hp : pathC s.data.toList = (Pure.pathP s.data.toList && !s.data.toList.contains 10) := rfl
  rw [hp]
  generalize Pure.pathP s.data.toList = B at cP ⊢
  generalize (!s.data.toList.contains 10) = C at cW ⊢
  clear hu hcd hp
  cases B with
  | false =>
    go_enter Tryd.func60, Tryd.ntmps60
    go_wp2_with (go_at_call 69; with_reducible refine cP.mono ?_; rintro e1 W1 ⟨rfl, g1⟩)
    go_ret
    exact ⟨rfl, g1⟩
  | true =>
    go_enter Tryd.func60, Tryd.ntmps60
    go_wp2_with (first | (go_at_call 69; with_reducible refine cP.mono ?_; rintro e1 W1 ⟨rfl, g1⟩) | (go_at_call 59; with_reducible refine (cW _).mono ?_; rintro e5 W5 ⟨rfl, h5⟩; subst W5))
    go_ret
    exact ⟨by simp, g1⟩

end Go.Proofs.YtkdmhflcpfekfaaDoor

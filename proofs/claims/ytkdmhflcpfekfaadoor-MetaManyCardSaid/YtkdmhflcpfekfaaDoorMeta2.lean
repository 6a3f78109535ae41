/- meta.Take. Conditions: the library's tables are laid; at most 100000 bytes. -/
import Derived.Test.YtkdmhflcpfekfaaDoorMeta1
namespace Go.Proofs.YtkdmhflcpfekfaaDoor
set_option linter.unusedVariables false
set_option linter.unusedSimpArgs false
open Go.RowKit

theorem ext_list' (q : ByteArray) (i j : Nat) (l : List UInt8) (h : (q.data.toList.take j).drop i = l) : (q.extract i j).data.toList = l := by
  rw [ByteArray.data_extract]
  simp only [Array.toList_extract, List.extract_eq_take_drop]
  rw [← h, List.drop_take]
theorem take_none {t : List UInt8} (hb : bearsP t = true) (h : takeG (t.drop (lastM t + 15)).length [] [] (t.drop (lastM t + 15)) = none) : takeP t = (t, [], [], false) := by
  unfold takeP
  rw [if_neg (by rw [hb]; decide), h]
theorem take_some {t : List UInt8} {l c : List Two} {r : List UInt8} (hb : bearsP t = true) (h : takeG (t.drop (lastM t + 15)).length [] [] (t.drop (lastM t + 15)) = some (l, c, r)) : takeP t = if r = [] ∧ packP (t.take (lastM t)) l c = (t, 0) then (t.take (lastM t), l, c, true) else (t, [], [], false) := by
  unfold takeP
  rw [if_neg (by rw [hb]; decide), h]
theorem pack_eq {t s : List UInt8} {l c : List Two} : packP t l c = (s, 0) ↔ (packP t l c).2 = 0 ∧ (packP t l c).1 = s := by
  constructor
  · intro h; rw [h]; exact ⟨rfl, rfl⟩
  · rintro ⟨h1, h2⟩; rw [← h1, ← h2]

set_option maxRecDepth 100000 in
set_option maxHeartbeats 4000000 in
theorem meta_Take (t : ByteArray) (w : World) (ht : t.size ≤ 100000) (hm : MaxOk w) (hu : U8Ok w) (hF : FoldOk w) :
    Calls Tryd.prog 13 #[.string t] w (TakenPost t.data.toList w) := by
  have g0 : Grew w w := Below.refl _ _
  have htl : t.data.toList.length = t.size := Array.length_toList
  have cB := fun W (g : Grew w W) => meta_Bears t W (by omega) (hm.grew g)
  have hte : (⟨t.data.toList.toArray⟩ : ByteArray) = t := mk_list t
  cases hb : bearsP t.data.toList with
  | false =>
    have htk : takeP t.data.toList = (t.data.toList, [], [], true) := by unfold takeP; rw [if_pos hb]
    simp only [hb] at cB
    have HTK := Lib.hid htk
    have HTL := Lib.hid htl
    clear hm hu hF hb htl hte htk
    go_enter Tryd.func13, Tryd.ntmps13
    go_wp2_with (first | (go_at_call 19; with_reducible refine (cB _ (by assumption)).mono ?_; rintro e1 W1 ⟨rfl, h1⟩; subst W1))
    refine bodyPost_ret (results_tmp4 rfl _ _ _) rfl ?_
    exact ⟨g0, _, [], [], true, _, _, HTK.out, by rw [mk_list]; rfl, OwnG.nil _ _ _, OwnG.nil _ _ _, by simp, by simp, Nat.le_refl _, by simp⟩
  | true =>
    simp only [hb] at cB
    obtain ⟨ho, hli, -⟩ := last_occ hb
    have hlo := (occ_len ho).1
    obtain ⟨L, hL⟩ : ∃ L, lastM t.data.toList = L := ⟨_, rfl⟩
    have hli2 : Lib.lastIndex t.data.toList markT.data.toList = (L : Int) := by rw [← hL]; exact hli
    have cL : ∀ W, Calls Tryd.prog 28 #[.string t, .string markT] W fun e w' => e = .returned (.int .i64 (L : Int)) ∧ w' = W := fun W => (Tryd.strings_LastIndex t markT (by omega) W).mono (fun e w' h => ⟨by rw [h.1, hli2], h.2⟩)
    rw [hL] at hlo
    obtain ⟨X, hX⟩ : ∃ X, t.extract (L + 15) t.size = X := ⟨_, rfl⟩
    obtain ⟨P, hP⟩ : ∃ X, t.extract 0 L = X := ⟨_, rfl⟩
    have hXl : X.data.toList = t.data.toList.drop (L + 15) := by
      rw [← hX]
      refine ext_list' _ _ _ _ ?_
      rw [List.take_of_length_le (by omega)]
    have hPl : P.data.toList = t.data.toList.take L := by
      rw [← hP]
      refine ext_list' _ _ _ _ ?_
      rw [List.drop_zero]
    have hXs : X.size ≤ t.size := by rw [← hX, ByteArray.size_extract]; omega
    have hPs : P.size ≤ t.size := by rw [← hP, ByteArray.size_extract]; omega
    have o1 : L + 15 ≤ t.size := by omega
    have o2 : L ≤ t.size := by omega
    have hnone := fun h => take_none (t := t.data.toList) hb h
    have hsome := fun l c r h => take_some (t := t.data.toList) (l := l) (c := c) (r := r) hb h
    simp only [hL] at hnone hsome
    rw [← hXl] at hnone
    simp only [← hXl, ← hPl] at hsome
    have cT := fun W (g : Grew w W) => change_TakeTrailer X W (by omega) (hm.grew g)
    have HN := Lib.hid hnone
    have HS := Lib.hid hsome
    have HM := Lib.hid hm
    have HU := Lib.hid hu
    have HF := Lib.hid hF
    have HTL := Lib.hid htl
    have HXL : Hid (X.data.toList.length ≤ t.size) := by
      unfold Hid
      rw [hXl, List.length_drop]
      omega
    have HPL : Hid (P.data.toList.length ≤ t.size) := by
      unfold Hid
      rw [hPl, List.length_take]
      omega
    clear hnone hsome hm hu hF hli hli2 hb hL hXl hPl htl hte ho hlo
    go_enter Tryd.func13, Tryd.ntmps13
    go_wp2_with (first | (go_at_call 19; with_reducible refine (cB _ (by assumption)).mono ?_; rintro e1 W1 ⟨rfl, h1⟩; subst W1) | (go_at_call 28; with_reducible refine (cL _).mono ?_; rintro e1 W1 ⟨rfl, h1⟩; subst W1) | (go_at_call 29; with_reducible refine (cT _ (by assumption)).mono ?_))
    rintro e2 W2 ⟨g2, ⟨hn, rfl⟩ | ⟨l, c, r, v, u, hs, rfl, hol, hoc, hfl, hfc, hsz⟩⟩
    · have htk := HN.out hn
      have cP := meta_Pack P none none [] [] 0 0 W2 (by omega) (by decide) (by decide) (.inl rfl) (.inl rfl) (by simp) (by simp) (by decide) (HM.out.grew g2) (u8_grew HU.out g2) (HF.out.grew g2)
      have HTK := Lib.hid htk
      generalize (packP P.data.toList [] []).1.toArray = PA at cP
      generalize (packP P.data.toList [] []).2 = PE at cP
      clear hn htk
      go_wp2_with (go_at_call 11; refine cP.mono ?_; rintro e3 W3 ⟨rfl, g3⟩)
      refine bodyPost_ret (results_tmp4 rfl _ _ _) rfl ?_
      exact ⟨g2.trans' g3, _, [], [], false, _, _, HTK.out, by rw [mk_list]; rfl, OwnG.nil _ _ _, OwnG.nil _ _ _, by simp, by simp, Nat.le_refl _, by simp⟩
    · have htk := HS.out l c _ hs
      obtain ⟨pv, cv, rfl, hrv, -, -, -⟩ := hol.val
      obtain ⟨pu, cu, rfl, hru, -, -, -⟩ := hoc.val
      have hzz := takeG_sizes t.size _ _ _ _ _ _ _ HXL.out (by simp) (by simp) hs
      have htl2 := trailer_le hzz.1 hzz.2
      have hln : l.length + c.length ≤ t.size := by have := HXL.out; omega
      have hbnd : (trailerP l c).length ≤ 1099511627776 := by
        have h1 : l.length * (8 + 4 * t.size) ≤ 100000 * 400008 := Nat.mul_le_mul (by omega) (by omega)
        have h2 : c.length * (8 + 4 * t.size) ≤ 100000 * 400008 := Nat.mul_le_mul (by omega) (by omega)
        omega
      have cP := meta_Pack P pv pu l c cv cu W2 (by omega) (by omega) (by omega) hrv hru hfl hfc hbnd (HM.out.grew g2) (u8_grew HU.out g2) (HF.out.grew g2)
      have hpq := pack_eq (t := P.data.toList) (s := t.data.toList) (l := l) (c := c)
      obtain ⟨PK, hPK⟩ : ∃ K : ByteArray, (⟨(packP P.data.toList l c).1.toArray⟩ : ByteArray) = K := ⟨_, rfl⟩
      have hPKl : PK.data.toList = (packP P.data.toList l c).1 := by rw [← hPK]
      rw [hPK] at cP
      obtain ⟨E, hE⟩ : ∃ E, (packP P.data.toList l c).2 = E := ⟨_, rfl⟩
      rw [hE] at cP hpq
      rw [← hPKl] at hpq
      obtain ⟨R0, hR0⟩ : ∃ R, (r.toList != ([] : List UInt8)) = R := ⟨_, rfl⟩
      have hR1 : (!r.toList.isEmpty) = R0 := by rw [← hR0]; cases r.toList <;> rfl
      have hR2 : r.toList.isEmpty = !R0 := by rw [← hR1, Bool.not_not]
      obtain ⟨E0, hE0⟩ : ∃ R, (E != 0) = R := ⟨_, rfl⟩
      obtain ⟨Q0, hQ0⟩ : ∃ R, (PK.toList != t.toList) = R := ⟨_, rfl⟩
      have hR3 : (r.toList == ([] : List UInt8)) = !R0 := by rw [← hR0]; simp [bne]
      have hQ1 : (PK.toList == t.toList) = !Q0 := by rw [← hQ0]; simp [bne]
      have hcond : (r.data.toList = [] ∧ packP P.data.toList l c = (t.data.toList, 0)) ↔ (R0 = false ∧ E0 = false ∧ Q0 = false) := by
        rw [hpq, ← hR0, ← hE0, ← hQ0]
        simp only [bne_eq_false_iff_eq, ByteArray.toList_eq]
      have ways : (R0 = true ∨ (R0 = false ∧ (E0 = true ∨ (E0 = false ∧ Q0 = true)))) ∧ takeP t.data.toList = (t.data.toList, [], [], false) ∨ (R0 = false ∧ E0 = false ∧ Q0 = false ∧ takeP t.data.toList = (P.data.toList, l, c, true)) := by
        by_cases h : R0 = false ∧ E0 = false ∧ Q0 = false
        · right
          rw [htk, if_pos (hcond.2 h)]
          exact ⟨h.1, h.2.1, h.2.2, rfl⟩
        · left
          rw [htk, if_neg (fun k => h (hcond.1 k))]
          refine ⟨?_, rfl⟩
          cases R0 <;> cases E0 <;> cases Q0 <;> simp_all
      have HOL := Lib.hid hol
      have HOC := Lib.hid hoc
      have HZ := Lib.hid hzz
      clear hcond hpq hs htk hPK hPKl hE hzz htl2 hbnd hrv hru hfl hfc hol hoc hsz
      rcases ways with ⟨h | ⟨h, h' | ⟨h', h2⟩⟩, htk⟩ | ⟨h, h', h2, htk⟩
      rotate_right
      · subst h
        subst h'
        subst h2
        have HTK := Lib.hid htk
        simp only [Bool.not_false] at hR2 hR3 hQ1
        clear htk
        go_wp2_with (go_at_call 11; refine cP.mono ?_; rintro e3 W3 ⟨rfl, g3⟩)
        refine bodyPost_ret (results_tmp4 rfl _ _ _) rfl ?_
        exact ⟨g2.trans' g3, _, l, c, true, _, _, HTK.out, by rw [mk_list]; rfl, HOL.out.below g3, HOC.out.below g3, by rw [HTL.out]; exact HZ.out.1, by rw [HTL.out]; exact HZ.out.2, by rw [HTL.out]; exact HPL.out, by rw [HTL.out]; exact hln⟩
      all_goals
        subst h
        try subst h'
        try subst h2
        have HTK := Lib.hid htk
        (try simp only [Bool.not_false, Bool.not_true] at hR2)
        (try simp only [Bool.not_false, Bool.not_true] at hR3)
        (try simp only [Bool.not_false, Bool.not_true] at hQ1)
        clear htk
        go_wp2_with (go_at_call 11; refine cP.mono ?_; rintro e3 W3 ⟨rfl, g3⟩)
        refine bodyPost_ret (results_tmp4 rfl _ _ _) rfl ?_
        exact ⟨g2.trans' g3, _, [], [], false, _, _, HTK.out, by rw [mk_list]; rfl, OwnG.nil _ _ _, OwnG.nil _ _ _, by simp, by simp, Nat.le_refl _, by simp⟩

end Go.Proofs.YtkdmhflcpfekfaaDoor

/- The reference's Take of layer 21. Conditions: the library's tables are laid; at most 100000 bytes. -/
import Derived.Test.YtkdmhflcpfekfaaDoorMeta2
import Derived.Test.YtkdmhflcpfekfaaDoorMeta3
import Derived.Test.YtkdmhflcpfekfaaDoorRef17b
namespace Go.Proofs.YtkdmhflcpfekfaaDoor
set_option linter.unusedVariables false
set_option linter.unusedSimpArgs false
open Go.RowKit

theorem takeQ_some {t : List UInt8} {l c : List Two} {r : List UInt8} (hb : bearsP t = true) (h : takeR (t.drop (lastM t + 15)).length [] [] (t.drop (lastM t + 15)) = (l, c, r)) : takeP t = if r = [] ∧ packP (t.take (lastM t)) l c = (t, 0) then (t.take (lastM t), l, c, true) else (t, [], [], false) := by
  rw [← take_same]
  unfold takeQ
  rw [if_neg (by rw [hb]; decide), h]
/-- The last place of the mark, sought from the front. -/
theorem last_end (t : List UInt8) : Lib.lastOcc t markM t.length = if bearsP t = true then (lastM t : Int) else -1 := by
  rcases Lib.lastOcc_spec t markM t.length with ⟨e, hn⟩ | ⟨i, hi, e, ho, hn⟩
  · rw [e, if_neg]
    intro hb
    obtain ⟨h1, -, -⟩ := last_occ hb
    have := (occ_len h1).1
    rw [hn (lastM t) (by omega)] at h1
    cases h1
  · have hl := (occ_len ho).1
    have hb : bearsP t = true := by
      rw [contains_last]
      refine decide_eq_true ?_
      unfold Lib.lastIndex
      rw [if_pos (show markM.length ≤ t.length from Nat.le_trans (show markM.length ≤ i + 15 from Nat.le_add_left 15 i) hl)]
      rcases Lib.lastOcc_spec t markM (t.length - markM.length + 1) with ⟨_, h2⟩ | ⟨j, _, e2, _, _⟩
      · rw [h2 i (by have : markM.length = 15 := rfl; omega)] at ho; cases ho
      · rw [e2]; omega
    rw [e, if_pos hb]
    obtain ⟨h1, -, h3⟩ := last_occ hb
    have h4 := (occ_len h1).1
    rcases Nat.lt_trichotomy i (lastM t) with h | h | h
    · rw [hn _ h (by omega)] at h1; cases h1
    · rw [h]
    · rw [h3 i h] at ho; cases ho

set_option maxRecDepth 100000 in
set_option maxHeartbeats 4000000 in
theorem ref21_Take (t : ByteArray) (w : World) (ht : t.size ≤ 100000) (hu : U8Ok w) :
    Calls Tryd.prog 14 #[.string t] w (TakenPost t.data.toList w) := by
  have g0 : Grew w w := Below.refl _ _
  have htl : t.data.toList.length = t.size := Array.length_toList
  have hend := last_end t.data.toList
  rw [htl] at hend
  have HEND := Lib.hid hend
  have HU := Lib.hid hu
  have HTL := Lib.hid htl
  clear hend htl hu
  go_enter Tryd.func14, Tryd.ntmps14
  go_wp2
  go_loopw [6, 7] (fun a i wr => ∃ k : Nat, a = .int .i64 (Lib.lastOcc t.data.toList markM k) ∧ i = .int .i64 (k : Int) ∧ k ≤ t.size ∧ w = wr) (fun _ i _ => t.size - (intOf i).toNat)
  case atStart => exact ⟨0, rfl, rfl, Nat.zero_le _, by first | trivial | rfl⟩
  case round =>
    obtain ⟨k, rfl, rfl, hk, hw⟩ := hrel
    subst hw
    by_cases hlt : k < t.size
    · obtain ⟨X, hX⟩ : ∃ X, t.extract k t.size = X := ⟨_, rfl⟩
      have hXl : X.data.toList = t.data.toList.drop k := by
        rw [← hX]
        refine ext_list' _ _ _ _ ?_
        rw [List.take_of_length_le (by rw [HTL.out]; exact Nat.le_refl _)]
      obtain ⟨B, hB⟩ : ∃ B, Lib.occAt t.data.toList markM k = B := ⟨_, rfl⟩
      have hB2 : Lib.hasPrefix X.data.toList markT.data.toList = B := by rw [← hB, hXl]; rfl
      have cP : ∀ W, Calls Tryd.prog 30 #[.string X, .string markT] W fun e w' => e = .returned (.bool B) ∧ w' = W := fun W => by
        have h := help_Begins X markT W
        rwa [hB2] at h
      have HB := Lib.hid hB
      clear hB hB2 hXl
      cases B
      all_goals
        go_wp2_with (go_at_call 30; with_reducible refine (cP _).mono ?_; rintro e1 W1 ⟨rfl, h1⟩; subst W1)
        go_roundw
        case rel => exact ⟨k + 1, by first | rw [Lib.lastOcc_miss _ _ _ HB.out] | rw [Lib.lastOcc_hit _ _ _ HB.out], by go_num, by omega, by first | trivial | rfl⟩
        case measure => simp [intOf]; omega
    · obtain rfl : k = t.size := by omega
      have hend := HEND.out
      clear hlt hk HEND
      cases hb : bearsP t.data.toList with
      | false =>
        rw [hb, if_neg (by decide)] at hend
        have htk : takeP t.data.toList = (t.data.toList, [], [], true) := by unfold takeP; rw [if_pos hb]
        have hpk : packP t.data.toList [] [] = (t.data.toList, 0) := by rw [pack_good hb (by rfl)]; rfl
        have cP := fun W (g : Grew w W) => ref21_Pack t none none [] [] 0 0 W (by omega) (by decide) (by decide) (.inl rfl) (.inl rfl) (by simp) (by simp) (by decide) (u8_grew HU.out g)
        simp only [hpk, mk_list] at cP
        have HTK := Lib.hid htk
        rw [hend]
        clear hb htk hpk hend
        go_wp2_with (go_at_call 12; refine (cP _ (by assumption)).mono ?_; rintro e3 W3 ⟨rfl, g3⟩)
        refine bodyPost_ret (results_tmp4 rfl _ _ _) rfl ?_
        exact ⟨g3, _, [], [], true, _, _, HTK.out, by rw [mk_list]; rfl, OwnG.nil _ _ _, OwnG.nil _ _ _, by simp, by simp, Nat.le_refl _, by simp⟩
      | true =>
        rw [if_pos hb] at hend
        rw [hend]
        obtain ⟨ho, -, -⟩ := last_occ hb
        have hlo := (occ_len ho).1
        have htl := HTL.out
        obtain ⟨L, hL⟩ : ∃ L, lastM t.data.toList = L := ⟨_, rfl⟩
        rw [hL] at hlo ⊢
        obtain ⟨X, hX⟩ : ∃ X, t.extract (L + 15) t.size = X := ⟨_, rfl⟩
        obtain ⟨P, hP⟩ : ∃ X, t.extract 0 L = X := ⟨_, rfl⟩
        have hXl : X.data.toList = t.data.toList.drop (L + 15) := by
          rw [← hX]
          refine ext_list' _ _ _ _ ?_
          rw [List.take_of_length_le (by omega)]
        have hPl : P.data.toList = t.data.toList.take L := by
          rw [← hP]
          refine ext_list' _ _ _ _ ?_
          rw [List.drop_zero]
        have hXs : X.size ≤ t.size := by rw [← hX, ByteArray.size_extract]; omega
        have hPs : P.size ≤ t.size := by rw [← hP, ByteArray.size_extract]; omega
        have o1 : L + 15 ≤ t.size := by omega
        have o2 : L ≤ t.size := by omega
        have o3 : IntKind.i64.wrap ((L : Int) + 15) = (L : Int) + 15 := IntWalk.i64_in _ (by omega)
        have hsome := fun l c r h => takeQ_some (t := t.data.toList) (l := l) (c := c) (r := r) hb h
        simp only [hL] at hsome
        simp only [← hXl, ← hPl] at hsome
        have cT := fun W => ref17_Lines X W (by omega)
        have HS := Lib.hid hsome
        have HXL : Hid (X.data.toList.length ≤ t.size) := by
          unfold Hid
          rw [hXl, List.length_drop]
          omega
        have HPL : Hid (P.data.toList.length ≤ t.size) := by
          unfold Hid
          rw [hPl, List.length_take]
          omega
        clear hsome hb hL hXl hPl htl ho hlo hend
        go_wp2_with (go_at_call 31; with_reducible refine (cT _).mono ?_)
        rintro e2 W2 ⟨g2, l, c, r, v, u, hs, rfl, hol, hoc, hfl, hfc, hsz⟩
        have htk := HS.out l c _ hs
        obtain ⟨pv, cv, rfl, hrv, -, -, -⟩ := hol.val
        obtain ⟨pu, cu, rfl, hru, -, -, -⟩ := hoc.val
        have hzz := takeR_sizes t.size _ _ _ _ _ _ _ HXL.out (by simp) (by simp) hs
        have htl2 := trailer_le hzz.1 hzz.2
        have hln : l.length + c.length ≤ t.size := by have := HXL.out; omega
        have hbnd : (trailerP l c).length ≤ 1099511627776 := by
          have h1 : l.length * (8 + 4 * t.size) ≤ 100000 * 400008 := Nat.mul_le_mul (by omega) (by omega)
          have h2 : c.length * (8 + 4 * t.size) ≤ 100000 * 400008 := Nat.mul_le_mul (by omega) (by omega)
          omega
        have cP := ref21_Pack P pv pu l c cv cu W2 (by omega) (by omega) (by omega) hrv hru hfl hfc hbnd (u8_grew HU.out g2)
        have hpq := pack_eq (t := P.data.toList) (s := t.data.toList) (l := l) (c := c)
        obtain ⟨PK, hPK⟩ : ∃ K : ByteArray, (⟨(packP P.data.toList l c).1.toArray⟩ : ByteArray) = K := ⟨_, rfl⟩
        have hPKl : PK.data.toList = (packP P.data.toList l c).1 := by rw [← hPK]
        rw [hPK] at cP
        obtain ⟨E, hE⟩ : ∃ E, (packP P.data.toList l c).2 = E := ⟨_, rfl⟩
        rw [hE] at cP hpq
        rw [← hPKl] at hpq
        obtain ⟨R0, hR0⟩ : ∃ R, (r.toList != ([] : List UInt8)) = R := ⟨_, rfl⟩
        have hR1 : (!r.toList.isEmpty) = R0 := by rw [← hR0]; cases r.toList <;> rfl
        have hR2 : r.toList.isEmpty = !R0 := by rw [← hR1, Bool.not_not]
        obtain ⟨E0, hE0⟩ : ∃ R, (E != 0) = R := ⟨_, rfl⟩
        obtain ⟨Q0, hQ0⟩ : ∃ R, (PK.toList != t.toList) = R := ⟨_, rfl⟩
        have hR3 : (r.toList == ([] : List UInt8)) = !R0 := by rw [← hR0]; simp [bne]
        have hQ1 : (PK.toList == t.toList) = !Q0 := by rw [← hQ0]; simp [bne]
        have hcond : (r.data.toList = [] ∧ packP P.data.toList l c = (t.data.toList, 0)) ↔ (R0 = false ∧ E0 = false ∧ Q0 = false) := by
          rw [hpq, ← hR0, ← hE0, ← hQ0]
          simp only [bne_eq_false_iff_eq, ByteArray.toList_eq]
        have ways : (R0 = true ∨ (R0 = false ∧ (E0 = true ∨ (E0 = false ∧ Q0 = true)))) ∧ takeP t.data.toList = (t.data.toList, [], [], false) ∨ (R0 = false ∧ E0 = false ∧ Q0 = false ∧ takeP t.data.toList = (P.data.toList, l, c, true)) := by
          by_cases h : R0 = false ∧ E0 = false ∧ Q0 = false
          · right
            rw [htk, if_pos (hcond.2 h)]
            exact ⟨h.1, h.2.1, h.2.2, rfl⟩
          · left
            rw [htk, if_neg (fun k => h (hcond.1 k))]
            refine ⟨?_, rfl⟩
            cases R0 <;> cases E0 <;> cases Q0 <;> simp_all
        have HOL := Lib.hid hol
        have HOC := Lib.hid hoc
        have HZ := Lib.hid hzz
        clear hcond hpq hs htk hPK hPKl hE hzz htl2 hbnd hrv hru hfl hfc hol hoc hsz
        rcases ways with ⟨h | ⟨h, h' | ⟨h', h2⟩⟩, htk⟩ | ⟨h, h', h2, htk⟩
        rotate_right
        · subst h
          subst h'
          subst h2
          have HTK := Lib.hid htk
          simp only [Bool.not_false] at hR2 hR3 hQ1
          clear htk
          go_wp2_with (go_at_call 12; refine cP.mono ?_; rintro e3 W3 ⟨rfl, g3⟩)
          refine bodyPost_ret (results_tmp4 rfl _ _ _) rfl ?_
          exact ⟨g2.trans' g3, _, l, c, true, _, _, HTK.out, by rw [mk_list]; rfl, HOL.out.below g3, HOC.out.below g3, by rw [HTL.out]; exact HZ.out.1, by rw [HTL.out]; exact HZ.out.2, by rw [HTL.out]; exact HPL.out, by rw [HTL.out]; exact hln⟩
        all_goals
          subst h
          try subst h'
          try subst h2
          have HTK := Lib.hid htk
          (try simp only [Bool.not_false, Bool.not_true] at hR2)
          (try simp only [Bool.not_false, Bool.not_true] at hR3)
          (try simp only [Bool.not_false, Bool.not_true] at hQ1)
          clear htk
          go_wp2_with (go_at_call 12; refine cP.mono ?_; rintro e3 W3 ⟨rfl, g3⟩)
          refine bodyPost_ret (results_tmp4 rfl _ _ _) rfl ?_
          exact ⟨g2.trans' g3, _, [], [], false, _, _, HTK.out, by rw [mk_list]; rfl, OwnG.nil _ _ _, OwnG.nil _ _ _, by simp, by simp, Nat.le_refl _, by simp⟩

end Go.Proofs.YtkdmhflcpfekfaaDoor

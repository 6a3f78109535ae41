/- The reference's Path tells which texts may be paths. Conditions: the decoder's tables are laid; the text is at most 2^30 bytes long. -/
import Derived.Test.YtkdmhflcpfekfaaDoorQ1b
namespace Go.Proofs.YtkdmhflcpfekfaaDoor
set_option linter.unusedVariables false
set_option linter.unusedSimpArgs false
open Go.RowKit

set_option maxRecDepth 100000 in
set_option maxHeartbeats 1000000 in
theorem ref_Path (s : ByteArray) (w : World) (hs : s.size ≤ 1073741824) (hu : U8Ok w) :
    Calls Tryd.prog 69 #[.string s] w fun e w' => e = .returned (.bool (Pure.pathP s.data.toList)) ∧ Grew w w' := by
  have hsl : s.data.toList.length = s.size := Array.length_toList
  have g0 : Grew w w := Below.refl _ _
  by_cases hl : 400 < s.size ∨ s.size = 0
  · have hr : Pure.pathP s.data.toList = false := by
      rcases hl with hl | hl
      · unfold Pure.pathP
        rw [decide_eq_false (show ¬ s.data.toList.length ≤ 400 by omega)]
        simp only [Bool.false_and]
      · rw [List.eq_nil_of_length_eq_zero (by omega : s.data.toList.length = 0)]
        exact Pure.path_nil
    rw [hr]
    clear hr
    rcases hl with hl | hl
    all_goals
      go_enter Tryd.func69, Tryd.ntmps69
      go_wp2
      go_ret
      exact ⟨rfl, Below.refl _ _⟩
  have h400 : decide (400 < (s.size : Int)) = false := decide_eq_false (by omega)
  have h1 : decide ((s.size : Int) < 1) = false := decide_eq_false (by omega)
  have cV := (fun W g => Tryd.utf8_ValidString s W (by omega) (u8_grew hu g) : ∀ W, Grew w W → _)
  obtain ⟨V, hV⟩ : ∃ V, Lib.validD s.data.toList = V := ⟨_, rfl⟩
  have hR : Pure.pathP s.data.toList = (V && Pure.scanQ [] 1 s.data.toList) := by
    rw [Pure.path_scan, hV, decide_eq_true (by omega), Bool.true_and]
  simp only [hV] at cV
  clear hV hu
  cases V with
  | false =>
    have HR := Lib.hid hR
    clear hR
    go_enter Tryd.func69, Tryd.ntmps69
    go_wp2_with (first | (go_at_call 75; with_reducible refine (cV _ (by assumption)).mono ?_; rintro e1 W1 ⟨rfl, g1⟩; replace g1 := Grew.trans' (a := w) (by assumption) g1))
    go_ret
    exact ⟨by rw [HR.out]; simp, by assumption⟩
  | true =>
  rw [Bool.true_and] at hR
  have HR2 := Lib.hid hR
  have HSL := Lib.hid hsl
  clear hR hsl
  go_enter Tryd.func69, Tryd.ntmps69
  go_wp2_with (first | (go_at_call 75; with_reducible refine (cV _ (by assumption)).mono ?_; rintro e1 W1 ⟨rfl, g1⟩; replace g1 := Grew.trans' (a := w) (by assumption) g1))
  have gw : Grew w W1 := by assumption
  clear cV
  go_loopw [3, 4, 5] (fun n f i wr => ∃ nn ff ii : Nat, n = .int .i64 nn ∧ f = .int .i64 ff ∧ i = .int .i64 ii ∧ Grew w wr ∧ nn ≤ ii + 1 ∧
      ((ff ≤ ii ∧ ii ≤ s.size ∧ Hid (Pure.scanQ [] 1 s.data.toList = Pure.scanQ ((s.data.toList.take ii).drop ff) nn (s.data.toList.drop ii))) ∨ (ii = s.size + 1 ∧ Hid (Pure.scanQ [] 1 s.data.toList = decide (nn ≤ 16))))) (fun _ _ i _ => s.size + 1 - (intOf i).toNat)
  case atStart => exact ⟨1, 0, 0, rfl, rfl, rfl, gw, by omega, .inl ⟨by omega, by omega, by simp [Hid]⟩⟩
  case round =>
    obtain ⟨nn, ff, ii, rfl, rfl, rfl, hb, hni, hcase⟩ := hrel
    clear gw
    rcases hcase with ⟨hfi, his, hsc⟩ | ⟨rfl, hsc⟩
    · by_cases hlt : ii < s.size
      · have hx := Lib.data_getElem? s ii hlt
        have hdrop : s.data.toList.drop ii = (s[ii]'hlt) :: s.data.toList.drop (ii + 1) := by
          rw [List.getElem?_eq_getElem (by have := HSL.out; omega)] at hx
          rw [List.drop_eq_getElem_cons (by have := HSL.out; omega), Option.some.inj hx]
        have hiin : ((ii : Int) == (s.size : Int)) = false := beq_eq_false_iff_ne.2 (by omega)
        by_cases h00 : (s[ii]'hlt) = 0
        · have q0 : (((s[ii]'hlt).toNat : Int) == 0) = true := by rw [h00]; rfl
          have hsc2 := hsc.out
          rw [hdrop, h00, Pure.scanQ_zero] at hsc2
          have HSC := Lib.hid hsc2
          clear hsc hsc2 hdrop hx h00
          go_wp2
          go_ret
          exact ⟨by rw [HR2.out, HSC.out]; rfl, hb⟩
        have q0 : (((s[ii]'hlt).toNat : Int) == 0) = false := by
          rw [beq_eq_false_iff_ne]
          intro h
          exact h00 (UInt8.toNat_inj.1 (by show _ = (0 : Nat); omega))
        by_cases h47 : (s[ii]'hlt) = 47
        · have q47 : (((s[ii]'hlt).toNat : Int) == 47) = true := by rw [h47]; rfl
          have hsc2 := hsc.out
          rw [hdrop, h47] at hsc2
          have hpd : (s.extract ff ii).data.toList = (s.data.toList.take ii).drop ff := by rw [Lib.extract_data, List.drop_take]
          rw [Pure.scanQ_slash, ← hpd] at hsc2
          have cp := ref_name (s.extract ff ii) wr (by rw [ByteArray.size_extract]; omega)
          obtain ⟨B, hB⟩ : ∃ B, Pure.nameP (s.extract ff ii).data.toList = B := ⟨_, rfl⟩
          rw [hB] at cp hsc2
          have HSC := Lib.hid hsc2
          clear hsc hsc2 hB hpd hdrop hx h47 h00
          cases B with
          | false =>
            go_wp2_with (go_at_call 78; with_reducible refine cp.mono ?_; rintro e w2 ⟨rfl, g2⟩)
            go_ret
            exact ⟨by rw [HR2.out, HSC.out]; simp, hb.trans' g2⟩
          | true =>
            go_wp2_with (go_at_call 78; with_reducible refine cp.mono ?_; rintro e w2 ⟨rfl, g2⟩)
            go_roundw
            case rel => exact ⟨nn + 1, ii + 1, ii + 1, by go_num, by go_num, by go_num, hb.trans' g2, by omega, .inl ⟨by omega, by omega, by have := HSC.out; unfold Hid; rw [this]; simp [List.drop_take]⟩⟩
            case measure => simp [intOf]; omega
        · have q47 : (((s[ii]'hlt).toNat : Int) == 47) = false := by
            rw [beq_eq_false_iff_ne]
            intro h
            exact h47 (UInt8.toNat_inj.1 (by show _ = (47 : Nat); omega))
          have hsc2 := hsc.out
          rw [hdrop, Pure.scanQ_other _ _ h00 h47] at hsc2
          have hnext : (s.data.toList.take ii).drop ff ++ [s[ii]'hlt] = (s.data.toList.take (ii + 1)).drop ff := by
            rw [List.getElem?_eq_getElem (by have := HSL.out; omega)] at hx
            rw [Pure.piece_next _ _ _ hfi (by have := HSL.out; omega), Option.some.inj hx]
          rw [hnext] at hsc2
          have HSC := Lib.hid hsc2
          clear hsc hsc2 hdrop hx h47 h00 hnext
          go_wp2
          go_roundw
          case rel => exact ⟨nn, ff, ii + 1, by go_num, by go_num, by go_num, hb, by omega, .inl ⟨by omega, by omega, HSC⟩⟩
          case measure => simp [intOf]; omega
      · have hie : ii = s.size := by omega
        subst hie
        have hpd : (s.extract ff s.size).data.toList = (s.data.toList.take s.size).drop ff := by rw [Lib.extract_data, List.drop_take]
        have hsc2 := hsc.out
        rw [show s.data.toList.drop s.size = [] from List.drop_of_length_le (by have := HSL.out; omega), Pure.scanQ_end, ← hpd] at hsc2
        have cp := ref_name (s.extract ff s.size) wr (by rw [ByteArray.size_extract]; omega)
        obtain ⟨B, hB⟩ : ∃ B, Pure.nameP (s.extract ff s.size).data.toList = B := ⟨_, rfl⟩
        rw [hB] at cp hsc2
        have HSC := Lib.hid hsc2
        clear hsc hsc2 hB hpd
        cases B with
        | false =>
          go_wp2_with (go_at_call 78; with_reducible refine cp.mono ?_; rintro e w2 ⟨rfl, g2⟩)
          go_ret
          exact ⟨by rw [HR2.out, HSC.out]; simp, hb.trans' g2⟩
        | true =>
          go_wp2_with (go_at_call 78; with_reducible refine cp.mono ?_; rintro e w2 ⟨rfl, g2⟩)
          go_roundw
          case rel => exact ⟨nn, s.size + 1, s.size + 1, by go_num, by go_num, by go_num, hb.trans' g2, by omega, .inr ⟨rfl, by have := HSC.out; unfold Hid; rw [this]; simp⟩⟩
          case measure => simp [intOf]
    · have hsc2 := hsc.out
      have hfin : Pure.pathP s.data.toList = decide ((nn : Int) ≤ 16) := by
        rw [HR2.out, hsc2]
        simp
        omega
      have HF := Lib.hid hfin
      clear hfin hsc2 hsc
      go_wp2
      go_ret
      exact ⟨by rw [HF.out]; rfl, hb⟩

end Go.Proofs.YtkdmhflcpfekfaaDoor

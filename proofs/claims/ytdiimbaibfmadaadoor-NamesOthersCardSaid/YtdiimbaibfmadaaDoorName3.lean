/- The reference's part and Right tell which parts, and which texts, are names of refs. Conditions: the library's tables are laid, the text is at most 2^40 bytes long. -/
import Derived.Test.YtdiimbaibfmadaaDoorPure11
import Derived.Test.YtdiimbaibfmadaaDoorTabs
import Derived.Test.YtdiimbaibfmadaaDoorHelpText
namespace Go.Proofs.YtdiimbaibfmadaaDoor
set_option linter.unusedVariables false
set_option linter.unusedSimpArgs false
open Go.RowKit

theorem bad_all : ∀ n : Fin 256, Pure.badB (UInt8.ofNat n.val) = (decide ((n.val : Int) ≤ 32) || ((n.val : Int) == 127) || decide (0 ≤ Lib.index [126, 94, 58, 63, 42, 91, 92] [UInt8.ofNat n.val])) := by decide +kernel
theorem bad_all' (c : UInt8) : Pure.badB c = (decide ((c.toNat : Int) ≤ 32) || ((c.toNat : Int) == 127) || decide (0 ≤ Lib.index [126, 94, 58, 63, 42, 91, 92] [c])) := by
  have key := bad_all ⟨c.toNat, c.toNat_lt⟩
  simpa using key

set_option maxRecDepth 100000 in
set_option maxHeartbeats 1000000 in
theorem ref_part (s : ByteArray) (w : World) (hs : s.size ≤ 9223372036854775807) :
    Calls Tryd.prog 21 #[.string s] w fun e w' => e = .returned (.bool (Pure.partP s.data.toList)) ∧ w = w' := by
  have c2 := help_Ends s ⟨#[46, 108, 111, 99, 107]⟩
  obtain ⟨B, hB⟩ : ∃ B, Lib.hasSuffix s.data.toList [46, 108, 111, 99, 107] = B := ⟨_, rfl⟩
  simp only [hB] at c2
  cases hl : s.data.toList with
  | nil =>
    have e : s = ⟨#[]⟩ := by
      cases s with | mk d =>
      simp only at hl
      rw [Array.toList_eq_nil_iff.1 hl]
    subst e
    show Calls _ _ _ _ fun e w' => e = .returned (.bool false) ∧ w = w'
    clear c2 hB hl
    go_enter Tryd.func21, Tryd.ntmps21
    go_wp2
    go_ret
    exact ⟨rfl, rfl⟩
  | cons c r =>
    have hix := index_str s 0 c (by rw [hl]; rfl)
    have hz : s.size ≠ 0 := by
      have : s.data.toList.length = s.size := Array.length_toList
      rw [hl] at this; simp at this; omega
    have he : Pure.partP (c :: r) = (!((c.toNat : Int) == 46) && !B) := by
      unfold Pure.partP
      rw [← hl, hB, hl]
      have : Lib.hasPrefix (c :: r) [46] = ((c.toNat : Int) == 46) := by
        rw [Bool.eq_iff_iff]
        simp only [Lib.hasPrefix, List.isPrefixOf, Bool.and_true, beq_iff_eq]
        constructor
        · intro h; rw [← h]; rfl
        · intro h; exact UInt8.toNat_inj.1 (by show (46 : Nat) = _; omega)
      rw [this]; simp
    rw [he]
    have hp0 : 0 < s.size := by omega
    have hx : c = s[0]'hp0 := by
      have h1 := Lib.data_getElem? s 0 hp0
      rw [hl] at h1
      exact Option.some.inj h1
    rw [hx]
    clear hix
    have hem : s.toList.isEmpty = false := by rw [Lib.toList_data, hl]; rfl
    clear hx he hB hl
    cases hq : (((s[0]'hp0).toNat : Int) == 46) with
    | true =>
      have hq2 : (((s[0]'hp0).toNat : Int) != 46) = false := by simp [bne, hq]
      go_enter Tryd.func21, Tryd.ntmps21
      go_wp2
      go_ret
      exact ⟨rfl, rfl⟩
    | false =>
      have hq2 : (((s[0]'hp0).toNat : Int) != 46) = true := by simp [bne, hq]
      go_enter Tryd.func21, Tryd.ntmps21
      go_wp2_with (go_at_call 30; refine (c2 _ hs).mono ?_; rintro e w1 ⟨rfl, rfl⟩)
      go_ret
      exact ⟨rfl, rfl⟩

set_option maxRecDepth 100000 in
set_option maxHeartbeats 1000000 in
theorem ref_Right (s : ByteArray) (w : World) (hs : s.size ≤ 1099511627776) (hu : U8Ok w) :
    Calls Tryd.prog 13 #[.string s] w fun e w' => e = .returned (.bool (Pure.right s.data.toList)) ∧ Grew w w' := by
  have hsl : s.data.toList.length = s.size := Array.length_toList
  by_cases hl : 200 < s.size
  · have hr : Pure.right s.data.toList = false := by
      unfold Pure.right
      rw [decide_eq_false (show ¬ s.data.toList.length ≤ 200 by omega)]
      simp only [Bool.false_and]
    rw [hr]
    clear hr
    go_enter Tryd.func13, Tryd.ntmps13
    go_wp2
    go_ret
    exact ⟨rfl, Below.refl _ _⟩
  by_cases h0 : s.size = 0
  · have hr : Pure.right s.data.toList = false := by
      rw [List.eq_nil_of_length_eq_zero (by omega : s.data.toList.length = 0)]
      exact Pure.right_nil
    rw [hr]
    clear hr
    go_enter Tryd.func13, Tryd.ntmps13
    go_wp2
    go_ret
    exact ⟨rfl, Below.refl _ _⟩
  have h200 : decide (200 < (s.size : Int)) = false := by rw [decide_eq_false_iff_not]; omega
  have h1 : decide ((s.size : Int) < 1) = false := by rw [decide_eq_false_iff_not]; omega
  have cV := Tryd.utf8_ValidString s w (by omega) hu
  have cC1 := fun W => help_Find s ⟨#[46, 46]⟩ W hs (by decide) (by decide)
  have cC2 := fun W => help_Find s ⟨#[64, 123]⟩ W hs (by decide) (by decide)
  obtain ⟨V, hV⟩ : ∃ V, Lib.validD s.data.toList = V := ⟨_, rfl⟩
  have hC1 : Lib.contains s.data.toList [46, 46] = decide (0 ≤ Lib.index s.data.toList [46, 46]) := rfl
  have hC2 : Lib.contains s.data.toList [64, 123] = decide (0 ≤ Lib.index s.data.toList [64, 123]) := rfl
  obtain ⟨X1, hX1⟩ : ∃ X, Lib.index s.data.toList [46, 46] = X := ⟨_, rfl⟩
  obtain ⟨X2, hX2⟩ : ∃ X, Lib.index s.data.toList [64, 123] = X := ⟨_, rfl⟩
  rw [hX1] at hC1
  rw [hX2] at hC2
  have hlast : s.size - 1 < s.size := by omega
  have hD : Lib.hasSuffix s.data.toList [46] = (((s[s.size - 1]'hlast).toNat : Int) == 46) := by
    have hx := Lib.data_getElem? s (s.size - 1) hlast
    rw [← Lib.hasSuffix_of_drop]
    have hd : s.data.toList.drop (s.data.toList.length - ([46] : List UInt8).length) = [s[s.size - 1]'hlast] := by
      rw [hsl, show ([46] : List UInt8).length = 1 from rfl, List.drop_eq_getElem_cons (by omega)]
      rw [List.getElem?_eq_getElem (by omega)] at hx
      rw [Option.some.inj hx, List.drop_of_length_le (by omega)]
    rw [hd, hsl, show ([46] : List UInt8).length = 1 from rfl, decide_eq_true (by omega), Bool.true_and, Bool.eq_iff_iff]
    simp only [beq_iff_eq, List.cons.injEq, and_true]
    constructor
    · intro h; rw [h]; rfl
    · intro h; exact UInt8.toNat_inj.1 (by show _ = (46 : Nat); omega)
  have hR : Pure.right s.data.toList = (V && !decide (0 ≤ X1) && !decide (0 ≤ X2) && !(((s[s.size - 1]'hlast).toNat : Int) == 46) && Pure.scan [] 0 s.data.toList) := by
    rw [Pure.right_scan, hV, hC1, hC2, hD, decide_eq_true (by omega), Bool.true_and]
  simp only [hV] at cV
  simp only [hX1] at cC1
  simp only [hX2] at cC2
  clear hV hC1 hC2 hX1 hX2 hD hu
  have HR := Lib.hid hR
  clear hR
  cases V with
  | false =>
    go_enter Tryd.func13, Tryd.ntmps13
    go_wp2_with (go_at_call 19; refine cV.mono ?_; rintro e w1 ⟨rfl, g⟩)
    go_ret
    exact ⟨by rw [HR.out]; simp, by assumption⟩
  | true =>
  by_cases q1 : 0 ≤ X1
  · have d1 : decide (0 ≤ X1) = true := decide_eq_true q1
    go_enter Tryd.func13, Tryd.ntmps13
    go_wp2_with (go_at_call 19; refine cV.mono ?_; rintro e w1 ⟨rfl, g⟩)
    refine (cC1 _).mono ?_
    rintro e w2 ⟨rfl, rfl⟩
    go_wp2
    go_ret
    exact ⟨by rw [HR.out, d1]; simp, by assumption⟩
  have d1 : decide (0 ≤ X1) = false := by rw [decide_eq_false_iff_not]; exact q1
  by_cases q2 : 0 ≤ X2
  · have d2 : decide (0 ≤ X2) = true := decide_eq_true q2
    go_enter Tryd.func13, Tryd.ntmps13
    go_wp2_with (go_at_call 19; refine cV.mono ?_; rintro e w1 ⟨rfl, g⟩)
    refine (cC1 _).mono ?_
    rintro e w2 ⟨rfl, rfl⟩
    go_wp2_with (go_at_call 20; refine (cC2 _).mono ?_; rintro e w1 ⟨rfl, rfl⟩)
    go_wp2
    go_ret
    exact ⟨by rw [HR.out, d2]; simp, by assumption⟩
  have d2 : decide (0 ≤ X2) = false := by rw [decide_eq_false_iff_not]; exact q2
  cases q3 : (((s[s.size - 1]'hlast).toNat : Int) == 46) with
  | true =>
    go_enter Tryd.func13, Tryd.ntmps13
    go_wp2_with (go_at_call 19; refine cV.mono ?_; rintro e w1 ⟨rfl, g⟩)
    refine (cC1 _).mono ?_
    rintro e w2 ⟨rfl, rfl⟩
    go_wp2_with (go_at_call 20; refine (cC2 _).mono ?_; rintro e w1 ⟨rfl, rfl⟩)
    go_wp2
    go_ret
    exact ⟨by rw [HR.out, q3]; simp, by assumption⟩
  | false =>
    go_enter Tryd.func13, Tryd.ntmps13
    go_wp2_with (go_at_call 19; refine cV.mono ?_; rintro e w1 ⟨rfl, g⟩)
    refine (cC1 _).mono ?_
    rintro e w2 ⟨rfl, rfl⟩
    go_wp2_with (go_at_call 20; refine (cC2 _).mono ?_; rintro e w1 ⟨rfl, rfl⟩)
    go_wp2
    have hR : Pure.right s.data.toList = Pure.scan [] 0 s.data.toList := by rw [HR.out, d1, d2, q3]; simp
    have HR2 := Lib.hid hR
    have HSL := Lib.hid hsl
    clear hR HR d1 d2 q1 q2 q3 cC1 cC2 cV h200 h1 h0 hsl
    have gw : Grew w w1 := by assumption
    go_loopw [3, 4, 5] (fun n f i wr => ∃ nn ff ii : Nat, n = .int .i64 nn ∧ f = .int .i64 ff ∧ i = .int .i64 ii ∧ Grew w wr ∧ nn ≤ ii ∧
      ((ff ≤ ii ∧ ii ≤ s.size ∧ Hid (Pure.scan [] 0 s.data.toList = Pure.scan ((s.data.toList.take ii).drop ff) nn (s.data.toList.drop ii))) ∨ (ii = s.size + 1 ∧ Hid (Pure.scan [] 0 s.data.toList = decide (2 ≤ nn))))) (fun _ _ i _ => s.size + 1 - (intOf i).toNat)
    case atStart => exact ⟨0, 0, 0, rfl, rfl, rfl, gw, by omega, .inl ⟨by omega, by omega, by simp [Hid]⟩⟩
    case round =>
      obtain ⟨nn, ff, ii, rfl, rfl, rfl, hb, hni, hcase⟩ := hrel
      clear gw
      rcases hcase with ⟨hfi, his, hsc⟩ | ⟨rfl, hsc⟩
      · by_cases hlt : ii < s.size
        · have hx := Lib.data_getElem? s ii hlt
          have hdrop : s.data.toList.drop ii = (s[ii]'hlt) :: s.data.toList.drop (ii + 1) := by
            rw [List.getElem?_eq_getElem (by have := HSL.out; omega)] at hx
            rw [List.drop_eq_getElem_cons (by have := HSL.out; omega), Option.some.inj hx]
          by_cases h47 : (s[ii]'hlt) = 47
          · have q47 : (((s[ii]'hlt).toNat : Int) == 47) = true := by rw [h47]; rfl
            have hsc2 := hsc.out
            rw [hdrop, h47] at hsc2
            have hpd : (s.extract ff ii).data.toList = (s.data.toList.take ii).drop ff := by rw [Lib.extract_data, List.drop_take]
            rw [Pure.scan_slash, ← hpd] at hsc2
            have cp := ref_part (s.extract ff ii) wr (by rw [ByteArray.size_extract]; omega)
            obtain ⟨B, hB⟩ : ∃ B, Pure.partP (s.extract ff ii).data.toList = B := ⟨_, rfl⟩
            rw [hB] at cp hsc2
            have HSC := Lib.hid hsc2
            clear hsc hsc2 hB hpd hdrop hx
            cases B with
            | false =>
              go_wp2_with (go_at_call 21; refine cp.mono ?_; rintro e w2 ⟨rfl, rfl⟩)
              go_ret
              exact ⟨by rw [HR2.out, HSC.out]; simp, hb⟩
            | true =>
              go_wp2_with (go_at_call 21; refine cp.mono ?_; rintro e w2 ⟨rfl, rfl⟩)
              go_roundw
              case rel => exact ⟨nn + 1, ii + 1, ii + 1, by go_num, by go_num, by go_num, hb, by omega, .inl ⟨by omega, by omega, by have := HSC.out; unfold Hid; rw [this]; simp [List.drop_take]⟩⟩
              case measure => simp [intOf]; omega
          · have q47 : (((s[ii]'hlt).toNat : Int) == 47) = false := by
              rw [beq_eq_false_iff_ne]
              intro h
              exact h47 (UInt8.toNat_inj.1 (by show _ = (47 : Nat); omega))
            have hsc2 := hsc.out
            rw [hdrop, Pure.scan_other _ _ h47] at hsc2
            have hnext : (s.data.toList.take ii).drop ff ++ [s[ii]'hlt] = (s.data.toList.take (ii + 1)).drop ff := by
              rw [List.getElem?_eq_getElem (by have := HSL.out; omega)] at hx
              rw [Pure.piece_next _ _ _ hfi (by have := HSL.out; omega), Option.some.inj hx]
            rw [hnext, bad_all'] at hsc2
            have HSC := Lib.hid hsc2
            have cF := fun W => help_Find ⟨#[126, 94, 58, 63, 42, 91, 92]⟩ ⟨#[s[ii]'hlt]⟩ W (by decide) (by show 1 ≤ 1099511627776; decide) (by show 1 ≤ 1; decide)
            obtain ⟨Y, hY⟩ : ∃ Y, Lib.index [126, 94, 58, 63, 42, 91, 92] [s[ii]'hlt] = Y := ⟨_, rfl⟩
            simp only [hY] at cF
            have hbox : (wr.alloc (.cells #[.int .u8 ((s[ii]'hlt).toNat : Int)] 5)).heap[wr.heap.size]? = some (.cells #[.int .u8 ((s[ii]'hlt).toNat : Int)] 5 (0, 0)) := heap_alloc_new wr _
            have hcv := conv_string (w := wr.alloc (.cells #[.int .u8 ((s[ii]'hlt).toNat : Int)] 5)) (p := some ⟨wr.heap.size, 0, none⟩) (l := [s[ii]'hlt]) 1 (.inr ⟨wr.heap.size, 0, rfl, by simp, fun i hi => by
              rw [cell_of_row _ _ _ _ _ (0, 0) hbox]
              have : i = 0 := by simp at hi; omega
              subst this; rfl⟩)
            have hb2 : Grew w (wr.alloc (.cells #[.int .u8 ((s[ii]'hlt).toNat : Int)] 5)) := Grew.trans' hb ((Below.refl _ _).alloc (Nat.le_refl _) _)
            simp only [List.length_cons, List.length_nil] at hcv
            rw [hY] at HSC
            clear hsc hsc2 hdrop hx hnext hbox
            by_cases b1 : ((s[ii]'hlt).toNat : Int) ≤ 32
            · go_wp2
              go_ret
              exact ⟨by rw [HR2.out, HSC.out, decide_eq_true b1]; simp, hb⟩
            have f1 : decide (((s[ii]'hlt).toNat : Int) ≤ 32) = false := decide_eq_false b1
            cases f2 : (((s[ii]'hlt).toNat : Int) == 127) with
            | true =>
              go_wp2
              go_ret
              exact ⟨by rw [HR2.out, HSC.out, f2]; simp, hb⟩
            | false =>
              rw [f1, f2] at HSC
              by_cases b3 : 0 ≤ Y
              · have f3 : decide (0 ≤ Y) = true := decide_eq_true b3
                rw [f3] at HSC
                go_wp2_with (go_at_call 20; refine (cF _).mono ?_; rintro e w2 ⟨rfl, rfl⟩)
                go_ret
                exact ⟨by rw [HR2.out, HSC.out]; simp, hb2⟩
              · have f3 : decide (0 ≤ Y) = false := decide_eq_false b3
                rw [f3] at HSC
                go_wp2_with (go_at_call 20; refine (cF _).mono ?_; rintro e w2 ⟨rfl, rfl⟩)
                go_roundw
                case rel => exact ⟨nn, ff, ii + 1, by go_num, by go_num, by go_num, hb2, by omega, .inl ⟨by omega, by omega, by have := HSC.out; unfold Hid; rw [this]; simp⟩⟩
                case measure => simp [intOf]; omega
        · have hie : ii = s.size := by omega
          subst hie
          have hpd : (s.extract ff s.size).data.toList = (s.data.toList.take s.size).drop ff := by rw [Lib.extract_data, List.drop_take]
          have hsc2 := hsc.out
          rw [show s.data.toList.drop s.size = [] from List.drop_of_length_le (by have := HSL.out; omega), Pure.scan_end, ← hpd] at hsc2
          have cp := ref_part (s.extract ff s.size) wr (by rw [ByteArray.size_extract]; omega)
          obtain ⟨B, hB⟩ : ∃ B, Pure.partP (s.extract ff s.size).data.toList = B := ⟨_, rfl⟩
          rw [hB] at cp hsc2
          have HSC := Lib.hid hsc2
          clear hsc hsc2 hB hpd
          cases B with
          | false =>
            go_wp2_with (go_at_call 21; refine cp.mono ?_; rintro e w2 ⟨rfl, rfl⟩)
            go_ret
            exact ⟨by rw [HR2.out, HSC.out]; simp, hb⟩
          | true =>
            go_wp2_with (go_at_call 21; refine cp.mono ?_; rintro e w2 ⟨rfl, rfl⟩)
            go_roundw
            case rel => exact ⟨nn + 1, s.size + 1, s.size + 1, by go_num, by go_num, by go_num, hb, by omega, .inr ⟨rfl, by have := HSC.out; unfold Hid; rw [this]; simp⟩⟩
            case measure => simp [intOf]
      · have hsc2 := hsc.out
        have hfin : Pure.right s.data.toList = decide (2 ≤ (nn : Int)) := by
          rw [HR2.out, hsc2]
          simp
          omega
        have HF := Lib.hid hfin
        clear hfin hsc2 hsc
        go_wp2
        go_ret
        exact ⟨by rw [HF.out]; rfl, hb⟩

end Go.Proofs.YtdiimbaibfmadaaDoor

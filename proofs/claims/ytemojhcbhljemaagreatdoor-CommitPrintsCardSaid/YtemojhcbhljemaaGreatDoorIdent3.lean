/- The reference's barred, word, Right: which idents may be. Conditions: the decoder's tables are laid; names of at most 2^40 bytes. -/
import Derived.Test.YtemojhcbhljemaaGreatDoorIdent2
namespace Go.Proofs.YtemojhcbhljemaaGreatDoor
set_option linter.unusedVariables false
set_option linter.unusedSimpArgs false
open Go.RowKit

set_option maxRecDepth 100000 in
theorem ref_barred (c : UInt8) (w : World) :
    Calls Tryz.prog 79 #[.int .u8 (c.toNat : Int)] w fun e w' => e = .returned (.bool (badI c)) ∧ w = w' := by
  unfold badI
  generalize c.toNat = x
  have e0 : ((x : Int) == 0) = (x == 0) := by rw [Bool.eq_iff_iff]; simp
  have e1 : ((x : Int) == 10) = (x == 10) := by rw [Bool.eq_iff_iff]; simp; omega
  have e2 : ((x : Int) == 60) = (x == 60) := by rw [Bool.eq_iff_iff]; simp; omega
  have e3 : ((x : Int) == 62) = (x == 62) := by rw [Bool.eq_iff_iff]; simp; omega
  cases h0 : (x == 0) <;> cases h1 : (x == 10) <;> cases h2 : (x == 60) <;> cases h3 : (x == 62)
  all_goals
    rw [h0] at e0
    rw [h1] at e1
    rw [h2] at e2
    rw [h3] at e3
    go_enter Tryz.func79, Tryz.ntmps79
    go_wp2
    go_ret
    exact ⟨rfl, rfl⟩

theorem pre_blank (s : ByteArray) (h : 0 < s.size) : Lib.hasPrefix s.data.toList [32] = (((s[0]'h).toNat : Int) == 32) := by
  have h1 := Lib.data_getElem? s 0 h
  cases hl : s.data.toList with
  | nil => rw [hl] at h1; simp at h1
  | cons c r =>
    rw [hl] at h1
    have hx : c = s[0]'h := Option.some.inj h1
    rw [← hx, Bool.eq_iff_iff]
    simp only [Lib.hasPrefix, List.isPrefixOf, Bool.and_true, beq_iff_eq]
    constructor
    · intro h; rw [← h]; rfl
    · intro h; exact UInt8.toNat_inj.1 (by show (32 : Nat) = _; omega)
theorem suf_blank (s : ByteArray) (h : s.size - 1 < s.size) : Lib.hasSuffix s.data.toList [32] = (((s[s.size - 1]'h).toNat : Int) == 32) := by
  have h1 := Lib.data_getElem? s (s.size - 1) h
  have hl : s.data.toList.length = s.size := Array.length_toList
  obtain ⟨l, c, e⟩ : ∃ l c, s.data.toList = l ++ [c] := ⟨s.data.toList.dropLast, _, (List.dropLast_concat_getLast (by intro e; rw [e] at hl; simp at hl; omega)).symm⟩
  have hc : c = s[s.size - 1]'h := by
    have hl2 : s.size - 1 = l.length := by rw [e] at hl; simp at hl; omega
    rw [e] at h1
    generalize s[s.size - 1]'h = d at h1 ⊢
    rw [hl2] at h1
    simpa using h1
  rw [e, ← hc, Bool.eq_iff_iff]
  simp only [Lib.hasSuffix, List.isSuffixOf_iff_suffix, beq_iff_eq]
  constructor
  · rintro ⟨t, ht⟩
    have := List.append_inj_right' ht rfl
    simp at this
    rw [← this]; rfl
  · intro h
    have : (32 : UInt8) = c := UInt8.toNat_inj.1 (by show (32 : Nat) = _; omega)
    exact ⟨l, by rw [this]⟩

set_option maxRecDepth 100000 in
set_option maxHeartbeats 2000000 in
theorem ref_wordW (s : ByteArray) (w : World) (hs : s.size ≤ 9223372036854775807) (hu : U8Ok w) :
    Calls Tryz.prog 57 #[.string s] w fun e w' => e = .returned (.bool (calledP s.data.toList)) ∧ Grew w w' := by
  have g0 : Grew w w := Below.refl _ _
  have hsl : s.data.toList.length = s.size := Array.length_toList
  have HU := Lib.hid hu
  have HL := Lib.hid hsl
  clear hu hsl
  go_enter Tryz.func57, Tryz.ntmps57
  go_wp2
  go_loopw [3] (fun i wr => ∃ k : Nat, .int .i64 (k : Int) = i ∧ k ≤ s.size ∧ wr = w ∧ Hid ((s.data.toList.take k).any badI = false)) (fun i _ => s.size - (intOf i).toNat)
  case atStart => exact ⟨0, rfl, Nat.zero_le _, rfl, rfl⟩
  case round =>
    obtain ⟨k, rfl, hk, rfl, hN⟩ := hrel
    by_cases hlt : k < s.size
    · have f1 : decide ((k : Int) < (s.size : Int)) = true := decide_eq_true (by omega)
      have hx := Lib.data_getElem? s k hlt
      have cb := fun W => ref_barred (s[k]'hlt) W
      have hst : (s.data.toList.take (k + 1)).any badI = badI (s[k]'hlt) := by
        rw [List.take_add_one, hx, List.any_append, hN.out]; simp
      have HST := Lib.hid hst
      obtain ⟨b, hb⟩ : ∃ b, badI (s[k]'hlt) = b := ⟨_, rfl⟩
      simp only [hb] at cb
      have HB := Lib.hid hb
      clear hst hb hx
      cases b
      · go_wp2_with (first | (go_at_call 79; with_reducible refine (cb _).mono ?_; rintro e1 W1 ⟨rfl, h1⟩; subst W1))
        go_roundw
        case rel => exact ⟨k + 1, by go_num, by omega, trivial, by unfold Hid; rw [HST.out, HB.out]⟩
        case measure => simp [intOf]; omega
      · go_wp2_with (first | (go_at_call 79; with_reducible refine (cb _).mono ?_; rintro e1 W1 ⟨rfl, h1⟩; subst W1))
        go_ret
        refine ⟨?_, g0⟩
        have : s.data.toList.any badI = true := by
          have h1 := HST.out
          rw [HB.out, List.any_eq_true] at h1
          obtain ⟨x, hx, hb⟩ := h1
          exact List.any_eq_true.2 ⟨x, List.mem_of_mem_take hx, hb⟩
        unfold calledP
        rw [this]
        simp
    · obtain rfl : k = s.size := by omega
      have f0 : decide ((s.size : Int) < (s.size : Int)) = false := decide_eq_false (by omega)
      have hA : s.data.toList.any badI = false := by have := hN.out; rwa [List.take_of_length_le (by rw [HL.out]; exact Nat.le_refl _)] at this
      have cV := fun W (g : Grew wr W) => Tryz.utf8_ValidString s W (by omega) (u8_grew HU.out g)
      obtain ⟨V, hV⟩ : ∃ V, Lib.validD s.data.toList = V := ⟨_, rfl⟩
      simp only [hV] at cV
      have hC : calledP s.data.toList = (decide (s.size ≤ 200) && V && !(Lib.hasPrefix s.data.toList [32]) && !(Lib.hasSuffix s.data.toList [32])) := by unfold calledP; rw [hA, HL.out, hV]; simp
      have HC := Lib.hid hC
      clear hN hA hV hC
      by_cases h2 : 200 < s.size
      · have f1 : decide (200 < (s.size : Int)) = true := decide_eq_true (by omega)
        go_wp2
        go_ret
        exact ⟨by rw [HC.out, decide_eq_false (by omega)]; rfl, g0⟩
      · have f1 : decide (200 < (s.size : Int)) = false := decide_eq_false (by omega)
        have f2 : decide (s.size ≤ 200) = true := decide_eq_true (by omega)
        cases V
        · go_wp2_with (first | (go_at_call 73; with_reducible refine (cV _ (by assumption)).mono ?_; rintro e1 W1 ⟨rfl, g1⟩; replace g1 := Grew.trans' (a := wr) (by assumption) g1))
          go_ret
          exact ⟨by rw [HC.out]; simp, by assumption⟩
        · by_cases h0 : s.size = 0
          · have hnil : s.data.toList = [] := List.eq_nil_of_length_eq_zero (by rw [HL.out]; exact h0)
            have hem : s.toList.isEmpty = true := by rw [ByteArray.toList_eq, hnil]; rfl
            have HNIL := Lib.hid hnil
            clear hnil
            go_wp2_with (first | (go_at_call 73; with_reducible refine (cV _ (by assumption)).mono ?_; rintro e1 W1 ⟨rfl, g1⟩; replace g1 := Grew.trans' (a := wr) (by assumption) g1))
            go_ret
            exact ⟨by rw [HC.out, f2, HNIL.out]; rfl, by assumption⟩
          · have hp : 0 < s.size := by omega
            have hq : s.size - 1 < s.size := by omega
            have hem : s.toList.isEmpty = false := by
              rw [ByteArray.toList_eq]
              cases hl : s.data.toList with
              | nil => have := HL.out; rw [hl] at this; simp at this; omega
              | cons c r => rfl
            have hP := pre_blank s hp
            have hQ := suf_blank s hq
            have HPQ := HC.out
            rw [hP, hQ, f2] at HPQ
            have HPQ2 := Lib.hid HPQ
            have hw : IntKind.i64.wrap ((s.size : Int) - 1) = ((s.size - 1 : Nat) : Int) := by rw [IntWalk.i64_in _ (by omega)]; omega
            have hw2 : ((s.size - 1 : Nat) : Int) < (s.size : Int) := by omega
            clear hP hQ HPQ
            go_wp2_with (first | (go_at_call 73; with_reducible refine (cV _ (by assumption)).mono ?_; rintro e1 W1 ⟨rfl, g1⟩; replace g1 := Grew.trans' (a := wr) (by assumption) g1))
            all_goals
              go_ret
              refine ⟨?_, by assumption⟩
              rw [HPQ2.out]
              simp_all [bne]
theorem ref_word (s : ByteArray) (w : World) (hs : s.size ≤ 1099511627776) (hu : U8Ok w) :
    Calls Tryz.prog 57 #[.string s] w fun e w' => e = .returned (.bool (calledP s.data.toList)) ∧ Grew w w' := ref_wordW s w (by omega) hu

end Go.Proofs.YtemojhcbhljemaaGreatDoor

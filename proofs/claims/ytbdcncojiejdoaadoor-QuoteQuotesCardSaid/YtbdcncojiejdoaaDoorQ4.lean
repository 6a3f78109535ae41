/- Plain on both sides; the reference's clean, octal, one and Quote. Conditions: the text is at most 2^30 bytes long. -/
import Derived.Test.YtbdcncojiejdoaaDoorQ1b
import Derived.Test.YtbdcncojiejdoaaDoorBuf
namespace Go.Proofs.YtbdcncojiejdoaaDoor
set_option linter.unusedVariables false
set_option linter.unusedSimpArgs false
open Go.RowKit

theorem odd_B (c : UInt8) : Pure.oddB c = (decide ((c.toNat : Int) < 32) || ((c.toNat : Int) == 127) || ((c.toNat : Int) == 34) || ((c.toNat : Int) == 92)) := by
  have key : ∀ n : Fin 256, Pure.oddB (UInt8.ofNat n.val) = (decide ((n.val : Int) < 32) || ((n.val : Int) == 127) || ((n.val : Int) == 34) || ((n.val : Int) == 92)) := by decide +kernel
  have := key ⟨c.toNat, c.toNat_lt⟩
  simpa using this

/-- What stands ahead of a text's first byte is plain, or not. -/
theorem plain_fin (s : ByteArray) (h0 : 0 < s.size) (h : s.data.toList.all (fun c => !Pure.oddB c) = true) : Pure.plainP s.data.toList = !(((s[0]'h0).toNat : Int) == 32) := by
  have hx := Lib.data_getElem? s 0 h0
  unfold Pure.plainP
  rw [h, Bool.true_and, List.head?_eq_getElem?, hx]
  have hne : s.data.toList.isEmpty = false := by
    cases hl : s.data.toList with
    | nil => rw [hl] at hx; simp at hx
    | cons a b => rfl
  rw [hne, Bool.not_false, Bool.true_and]
  congr 1
  rw [Bool.eq_iff_iff]
  simp only [beq_iff_eq, Option.some.injEq]
  constructor
  · intro e; rw [e]; rfl
  · intro e; exact UInt8.toNat_inj.1 (by show _ = (32 : Nat); omega)

theorem clean_B (c : UInt8) : (!(c.toNat == 32 || decide (127 < c.toNat))) = !(((c.toNat : Int) == 32) || decide (127 < (c.toNat : Int))) := by
  congr 1
  rw [Bool.eq_iff_iff]
  simp only [Bool.or_eq_true, beq_iff_eq, decide_eq_true_eq]
  omega

set_option maxRecDepth 100000 in
set_option maxHeartbeats 1000000 in
theorem quote_Plain (s : ByteArray) (w : World) (hs : s.size ≤ 1073741824) :
    Calls Tryd.prog 11 #[.string s] w fun e w' => e = .returned (.bool (Pure.plainP s.data.toList)) ∧ Grew w w' := by
  have hsl : s.data.toList.length = s.size := Array.length_toList
  have HSL := Lib.hid hsl
  clear hsl
  go_enter Tryd.func11, Tryd.ntmps11
  go_wp2
  go_loopw [6] (fun i wr => ∃ k : Nat, i = .int .i64 k ∧ k ≤ s.size ∧ Grew w wr ∧ Hid (s.data.toList.all (fun c => !Pure.oddB c) = (s.data.toList.drop k).all (fun c => !Pure.oddB c))) (fun i _ => s.size - (intOf i).toNat)
  case atStart => exact ⟨0, rfl, Nat.zero_le _, Below.refl _ _, by simp [Hid]⟩
  case round =>
    obtain ⟨k, rfl, hk, hb, hal⟩ := hrel
    by_cases hlt : k < s.size
    · have hx := Lib.data_getElem? s k hlt
      have hdrop : s.data.toList.drop k = (s[k]'hlt) :: s.data.toList.drop (k + 1) := by
        rw [List.getElem?_eq_getElem (by have := HSL.out; omega)] at hx
        rw [List.drop_eq_getElem_cons (by have := HSL.out; omega), Option.some.inj hx]
      have hal2 := hal.out
      rw [hdrop, List.all_cons, odd_B (s[k]'hlt)] at hal2
      have HAL := Lib.hid hal2
      clear hal hal2 hdrop hx
      go_wp2
      all_goals first
        | (go_roundw
           case rel => exact ⟨k + 1, by go_num, by omega, hb, by have := HAL.out; unfold Hid; rw [this]; simp_all⟩
           case measure => simp [intOf]; omega)
        | (go_ret
           refine ⟨?_, hb⟩
           have h := HAL.out
           have hf : Pure.plainP s.data.toList = false := by unfold Pure.plainP; rw [h]; simp_all
           rw [hf]; rfl)
        | (go_ret
           refine ⟨?_, hb⟩
           have h := HAL.out
           have hB : (decide (((s[k]'hlt).toNat : Int) < 32) || ((s[k]'hlt).toNat : Int) == 127 || ((s[k]'hlt).toNat : Int) == 34 || ((s[k]'hlt).toNat : Int) == 92) = true := by
             simp only [Bool.or_eq_true, decide_eq_true_eq, beq_iff_eq] at *
             omega
           rw [hB] at h
           have hf : Pure.plainP s.data.toList = false := by unfold Pure.plainP; rw [h]; simp
           rw [hf]; rfl)
    · have hie : k = s.size := by omega
      subst hie
      have hal2 := hal.out
      rw [List.drop_of_length_le (by have := HSL.out; omega), List.all_nil] at hal2
      by_cases h0 : 0 < s.size
      · have hp := plain_fin s h0 hal2
        have HP := Lib.hid hp
        have hem := not_empty h0
        clear hal hal2 hp
        cases hq : (((s[0]'h0).toNat : Int) == 32)
        all_goals
          have hq2 := congrArg (!·) hq
          simp only [Bool.not_false, Bool.not_true] at hq2
          have hq3 : (((s[0]'h0).toNat : Int) != 32) = !(((s[0]'h0).toNat : Int) == 32) := rfl
          rw [hq2] at hq3
          clear hq2
          go_wp2
          go_ret
          exact ⟨by rw [HP.out, hq]; rfl, hb⟩
      · have he : s.data.toList = [] := List.eq_nil_of_length_eq_zero (by have := HSL.out; omega)
        have hp : Pure.plainP s.data.toList = false := by rw [he]; decide
        have hem : s.toList.isEmpty = true := by rw [ByteArray.toList_eq, he]; rfl
        have HP := Lib.hid hp
        clear hal hal2 hp he
        go_wp2
        go_ret
        exact ⟨by rw [HP.out]; rfl, hb⟩


set_option maxRecDepth 100000 in
set_option maxHeartbeats 1000000 in
theorem ref_Plain (s : ByteArray) (w : World) (hs : s.size ≤ 1073741824) :
    Calls Tryd.prog 12 #[.string s] w fun e w' => e = .returned (.bool (Pure.plainP s.data.toList)) ∧ Grew w w' := by
  have hsl : s.data.toList.length = s.size := Array.length_toList
  have HSL := Lib.hid hsl
  clear hsl
  go_enter Tryd.func12, Tryd.ntmps12
  go_wp2
  go_loopw [3] (fun i wr => ∃ k : Nat, i = .int .i64 k ∧ k ≤ s.size ∧ Grew w wr ∧ Hid (s.data.toList.all (fun c => !Pure.oddB c) = (s.data.toList.drop k).all (fun c => !Pure.oddB c))) (fun i _ => s.size - (intOf i).toNat)
  case atStart => exact ⟨0, rfl, Nat.zero_le _, Below.refl _ _, by simp [Hid]⟩
  case round =>
    obtain ⟨k, rfl, hk, hb, hal⟩ := hrel
    by_cases hlt : k < s.size
    · have hx := Lib.data_getElem? s k hlt
      have hdrop : s.data.toList.drop k = (s[k]'hlt) :: s.data.toList.drop (k + 1) := by
        rw [List.getElem?_eq_getElem (by have := HSL.out; omega)] at hx
        rw [List.drop_eq_getElem_cons (by have := HSL.out; omega), Option.some.inj hx]
      have hal2 := hal.out
      rw [hdrop, List.all_cons, odd_B (s[k]'hlt)] at hal2
      have HAL := Lib.hid hal2
      clear hal hal2 hdrop hx
      go_wp2
      all_goals first
        | (go_roundw
           case rel => exact ⟨k + 1, by go_num, by omega, hb, by have := HAL.out; unfold Hid; rw [this]; simp_all⟩
           case measure => simp [intOf]; omega)
        | (go_ret
           refine ⟨?_, hb⟩
           have h := HAL.out
           have hf : Pure.plainP s.data.toList = false := by unfold Pure.plainP; rw [h]; simp_all
           rw [hf]; rfl)
        | (go_ret
           refine ⟨?_, hb⟩
           have h := HAL.out
           have hB : (decide (((s[k]'hlt).toNat : Int) < 32) || ((s[k]'hlt).toNat : Int) == 127 || ((s[k]'hlt).toNat : Int) == 34 || ((s[k]'hlt).toNat : Int) == 92) = true := by
             simp only [Bool.or_eq_true, decide_eq_true_eq, beq_iff_eq] at *
             omega
           rw [hB] at h
           have hf : Pure.plainP s.data.toList = false := by unfold Pure.plainP; rw [h]; simp
           rw [hf]; rfl)
    · have hie : k = s.size := by omega
      subst hie
      have hal2 := hal.out
      rw [List.drop_of_length_le (by have := HSL.out; omega), List.all_nil] at hal2
      by_cases h0 : 0 < s.size
      · have hp := plain_fin s h0 hal2
        have HP := Lib.hid hp
        have hem := not_empty h0
        clear hal hal2 hp
        cases hq : (((s[0]'h0).toNat : Int) == 32)
        all_goals
          have hq2 := congrArg (!·) hq
          simp only [Bool.not_false, Bool.not_true] at hq2
          have hq3 : (((s[0]'h0).toNat : Int) != 32) = !(((s[0]'h0).toNat : Int) == 32) := rfl
          rw [hq2] at hq3
          clear hq2
          go_wp2
          go_ret
          exact ⟨by rw [HP.out, hq]; rfl, hb⟩
      · have he : s.data.toList = [] := List.eq_nil_of_length_eq_zero (by have := HSL.out; omega)
        have hp : Pure.plainP s.data.toList = false := by rw [he]; decide
        have hem : s.toList.isEmpty = true := by rw [ByteArray.toList_eq, he]; rfl
        have HP := Lib.hid hp
        clear hal hal2 hp he
        go_wp2
        go_ret
        exact ⟨by rw [HP.out]; rfl, hb⟩


set_option maxRecDepth 100000 in
set_option maxHeartbeats 1000000 in
theorem ref_clean (s : ByteArray) (w : World) (hs : s.size ≤ 1073741824) :
    Calls Tryd.prog 33 #[.string s] w fun e w' => e = .returned (.bool (Pure.cleanP s.data.toList)) ∧ Grew w w' := by
  have hsl : s.data.toList.length = s.size := Array.length_toList
  have HSL := Lib.hid hsl
  clear hsl
  go_enter Tryd.func33, Tryd.ntmps33
  go_wp2
  go_loopw [3] (fun i wr => ∃ k : Nat, i = .int .i64 k ∧ k ≤ s.size ∧ Grew w wr ∧ Hid (s.data.toList.all (fun c => !(c.toNat == 32 || decide (127 < c.toNat))) = (s.data.toList.drop k).all (fun c => !(c.toNat == 32 || decide (127 < c.toNat))))) (fun i _ => s.size - (intOf i).toNat)
  case atStart => exact ⟨0, rfl, Nat.zero_le _, Below.refl _ _, by simp [Hid]⟩
  case round =>
    obtain ⟨k, rfl, hk, hb, hal⟩ := hrel
    by_cases hlt : k < s.size
    · have hx := Lib.data_getElem? s k hlt
      have hdrop : s.data.toList.drop k = (s[k]'hlt) :: s.data.toList.drop (k + 1) := by
        rw [List.getElem?_eq_getElem (by have := HSL.out; omega)] at hx
        rw [List.drop_eq_getElem_cons (by have := HSL.out; omega), Option.some.inj hx]
      have hal2 := hal.out
      rw [hdrop, List.all_cons, clean_B (s[k]'hlt)] at hal2
      have HAL := Lib.hid hal2
      clear hal hal2 hdrop hx
      go_wp2
      all_goals first
        | (go_roundw
           case rel => exact ⟨k + 1, by go_num, by omega, hb, by have := HAL.out; unfold Hid; rw [this]; simp_all⟩
           case measure => simp [intOf]; omega)
        | (go_ret
           refine ⟨?_, hb⟩
           have h := HAL.out
           have hf : Pure.cleanP s.data.toList = false := by unfold Pure.cleanP; rw [h]; simp_all
           rw [hf]; rfl)
        | (go_ret
           refine ⟨?_, hb⟩
           have h := HAL.out
           have hB : (decide (((s[k]'hlt).toNat : Int) < 32) || ((s[k]'hlt).toNat : Int) == 127 || ((s[k]'hlt).toNat : Int) == 34 || ((s[k]'hlt).toNat : Int) == 92) = true := by
             simp only [Bool.or_eq_true, decide_eq_true_eq, beq_iff_eq] at *
             omega
           rw [hB] at h
           have hf : Pure.cleanP s.data.toList = false := by unfold Pure.cleanP; rw [h]; simp
           rw [hf]; rfl)
    · have hie : k = s.size := by omega
      subst hie
      have hal2 := hal.out
      rw [List.drop_of_length_le (by have := HSL.out; omega), List.all_nil] at hal2
      have hp : Pure.cleanP s.data.toList = true := hal2
      have HP := Lib.hid hp
      clear hal hal2 hp
      go_wp2
      go_ret
      exact ⟨by rw [HP.out]; rfl, hb⟩


end Go.Proofs.YtbdcncojiejdoaaDoor

/- refname.bad and refname.part tell which runes may not stand in a name, and which parts may be. Conditions: a part is no longer than a string may be. -/
import Derived.Test.YtdiimbaibfmadaaDoorRune1
import Derived.Test.YtdiimbaibfmadaaDoorPure11
import Derived.Test.YtdiimbaibfmadaaDoorTabs
namespace Go.Proofs.YtdiimbaibfmadaaDoor
set_option linter.unusedVariables false
set_option linter.unusedSimpArgs false
open Go.RowKit

theorem bad_ascii : ∀ n : Fin 128, Pure.badB (UInt8.ofNat n.val) = (decide ((n.val : Int) ≤ 32) || ((n.val : Int) == 127) || decide (0 ≤ Lib.indexByte [126, 94, 58, 63, 42, 91, 92] (n.val : Int).toNat.toUInt8)) := by decide +kernel

set_option maxRecDepth 100000 in
set_option maxHeartbeats 1000000 in
theorem refname_bad_ascii (c : UInt8) (hc : c.toNat < 128) (w : World) :
    Calls Tryd.prog 24 #[.int .i32 (c.toNat : Int)] w fun e w' => e = .returned (.bool (Pure.badB c)) ∧ w = w' := by
  have key := bad_ascii ⟨c.toNat, hc⟩
  simp only [UInt8.ofNat_toNat] at key
  obtain ⟨B, hB⟩ : ∃ B, Pure.badB c = B := ⟨_, rfl⟩
  rw [hB] at key ⊢
  obtain ⟨r, hr⟩ : ∃ r : Int, (c.toNat : Int) = r := ⟨_, rfl⟩
  have h0 : 0 ≤ r := by omega
  have h1 : r < 128 := by omega
  rw [hr] at key ⊢
  have cc := Tryd.strings_ContainsRune_ascii ⟨#[126, 94, 58, 63, 42, 91, 92]⟩ r w h0 h1
  simp only at cc
  by_cases a : r ≤ 32
  · have : B = true := by rw [key]; simp [a]
    subst this
    clear key cc
    go_enter Tryd.func24, Tryd.ntmps24
    go_wp2
    go_ret
    exact ⟨rfl, rfl⟩
  by_cases b : (r == 127) = true
  · have : B = true := by rw [key]; simp [b]
    subst this
    clear key cc
    go_enter Tryd.func24, Tryd.ntmps24
    go_wp2
    go_ret
    exact ⟨rfl, rfl⟩
  · rw [Bool.not_eq_true] at b
    have key2 : B = decide (0 ≤ Lib.indexByte [126, 94, 58, 63, 42, 91, 92] r.toNat.toUInt8) := by rw [key]; simp [a, b]
    rw [← key2] at cc
    clear key key2
    go_enter Tryd.func24, Tryd.ntmps24
    go_wp2_with (go_at_call 33; refine cc.mono ?_; rintro e w1 ⟨rfl, rfl⟩)
    go_ret
    exact ⟨rfl, rfl⟩

set_option maxRecDepth 100000 in
set_option maxHeartbeats 1000000 in
theorem refname_bad_high (r : Int) (h0 : 128 ≤ r) (h1 : r ≤ 1114111) (w : World) :
    Calls Tryd.prog 24 #[.int .i32 r] w fun e w' => e = .returned (.bool false) ∧ Grew w w' := by
  have cc := containsRune_high ⟨#[126, 94, 58, 63, 42, 91, 92]⟩ r w h0 h1 (by decide +kernel) (by decide) (by decide)
  have hb : (r == 127) = false := by rw [beq_eq_false_iff_ne]; omega
  go_enter Tryd.func24, Tryd.ntmps24
  go_wp2_with (go_at_call 33; refine cc.mono ?_; rintro e w1 ⟨rfl, g⟩)
  go_ret
  exact ⟨by simp [hb, show ¬ r ≤ 32 by omega], g⟩

set_option maxRecDepth 100000 in
set_option maxHeartbeats 1000000 in
theorem refname_part (s : ByteArray) (w : World) (hs : s.size ≤ 9223372036854775807) :
    Calls Tryd.prog 26 #[.string s] w fun e w' => e = .returned (.bool (Pure.partP s.data.toList)) ∧ w = w' := by
  have c1 := Tryd.strings_HasPrefix s ⟨#[46]⟩
  have c2 := Tryd.strings_HasSuffix s ⟨#[46, 108, 111, 99, 107]⟩
  obtain ⟨A, hA⟩ : ∃ A, Lib.hasPrefix s.data.toList [46] = A := ⟨_, rfl⟩
  obtain ⟨B, hB⟩ : ∃ B, Lib.hasSuffix s.data.toList [46, 108, 111, 99, 107] = B := ⟨_, rfl⟩
  simp only [hA, hB] at c1 c2
  have he : Pure.partP s.data.toList = (!s.data.toList.isEmpty && !A && !B) := by unfold Pure.partP; rw [hA, hB]
  rw [he]
  clear he hA hB
  go_enter Tryd.func26, Tryd.ntmps26
  go_wp2_with (first | (go_at_call 17; refine (c1 _).mono ?_; rintro e w1 ⟨rfl, rfl⟩) | (go_at_call 23; refine (c2 _ hs).mono ?_; rintro e w1 ⟨rfl, rfl⟩))
  all_goals (go_ret; refine ⟨?_, rfl⟩; simp_all [Lib.toList_data])

end Go.Proofs.YtdiimbaibfmadaaDoor

/- The law RefnameParts of layer 11, walked: for any input the call returns true, and nothing that was there has changed. Conditions: the library's tables are laid. -/
import Derived.Test.YtgapnfalmdjlcaaDoorLaw11a
import Derived.Test.YtgapnfalmdjlcaaDoorPure11b
import Derived.Test.YtgapnfalmdjlcaaDoorInts
namespace Go.Proofs.YtgapnfalmdjlcaaDoor.Pure
open Go.Lib
def pieces : List (List UInt8) := [[97], [98, 45, 99], [118, 49, 46, 48], [99, 97, 102, 195, 169], [64]]
def worse : List (List UInt8) := [[], [46, 97], [97, 46, 108, 111, 99, 107], [97, 46, 46, 98], [97, 64, 123, 98], [97, 32, 98], [97, 126], [97, 94], [97, 58], [97, 63], [97, 42], [97, 91], [97, 92], [97, 127], [97, 1], [97, 46]]
/-- A text of k parts that may be. -/
def Good (k : Nat) (l : List UInt8) : Prop := (k = 0 ∧ l = []) ∨ (1 ≤ k ∧ body l = true ∧ hasSuffix l [46] = false ∧ (splitS l).length = k ∧ l.length ≤ 6 * k)
theorem piece_good : ∀ K, K < 5 → body (pieces.getD K []) = true ∧ hasSuffix (pieces.getD K []) [46] = false ∧ splitS (pieces.getD K []) = [pieces.getD K []] ∧ (pieces.getD K []).length ≤ 5 := by decide +kernel
theorem worse_bad : ∀ K, K < 16 → body (worse.getD K []) = false ∨ (worse.getD K [] ≠ [] ∧ hasSuffix (worse.getD K []) [46] = true) := by decide +kernel

theorem Good.first {K : Nat} (h : K < 5) : Good 1 ([] ++ pieces.getD K []) := by
  obtain ⟨h1, h2, h3, h4⟩ := piece_good K h
  exact .inr ⟨by omega, h1, h2, by rw [List.nil_append, h3]; rfl, by rw [List.nil_append]; omega⟩
theorem Good.next {k : Nat} {l : List UInt8} (hg : Good k l) (hk : 1 ≤ k) {K : Nat} (h : K < 5) : Good (k + 1) (l ++ [47] ++ pieces.getD K []) := by
  obtain ⟨h1, h2, h3, h4⟩ := piece_good K h
  rcases hg with ⟨h0, _⟩ | ⟨_, g1, g2, g3, g4⟩
  · omega
  · rw [show l ++ [47] ++ pieces.getD K [] = l ++ 47 :: pieces.getD K [] by simp]
    refine .inr ⟨by omega, ?_, ?_, ?_, ?_⟩
    · rw [body_slash _ _ (body_valid g1), g1, h1]; rfl
    · rw [show l ++ 47 :: pieces.getD K [] = (l ++ [47]) ++ pieces.getD K [] by simp, suffix_one 46 _ _ (body_ne h1)]; exact h2
    · rw [splitS_append, List.length_append, g3, h3]; rfl
    · rw [List.length_append, List.length_cons]; omega
theorem Good.right {k : Nat} {l : List UInt8} (hg : Good k l) (hk : 1 ≤ k) (hk2 : k ≤ 12) : right l = decide (2 ≤ k) ∧ l.length ≤ 72 := by
  rcases hg with ⟨h0, _⟩ | ⟨_, g1, g2, g3, g4⟩
  · omega
  · rw [right_body, g1, g2, g3, decide_eq_true (by omega)]
    exact ⟨by simp, by omega⟩
theorem Good.worse {k : Nat} {l : List UInt8} (hg : Good k l) (hk : 1 ≤ k) {K : Nat} (h : K < 16) : Pure.right (l ++ [47] ++ Pure.worse.getD K []) = false := by
  rcases hg with ⟨h0, _⟩ | ⟨_, g1, g2, g3, g4⟩
  · omega
  · rw [show l ++ [47] ++ Pure.worse.getD K [] = l ++ 47 :: Pure.worse.getD K [] by simp, right_body, body_slash _ _ (body_valid g1), g1]
    rcases worse_bad K h with hb | ⟨hne, hb⟩
    · rw [hb]; simp
    · rw [show l ++ 47 :: Pure.worse.getD K [] = (l ++ [47]) ++ Pure.worse.getD K [] by simp, suffix_one 46 _ _ hne, hb]; simp
end Go.Proofs.YtgapnfalmdjlcaaDoor.Pure
namespace Go.Proofs.YtgapnfalmdjlcaaDoor
set_option linter.unusedVariables false
set_option linter.unusedSimpArgs false
open Go.RowKit

set_option maxRecDepth 100000 in
set_option maxHeartbeats 1000000 in
theorem law_RefnameParts (p : Option Addr) (zs : List Int) (cap : Nat) (x : Int) (w : World) (hr : RdZ w p zs) (hl : zs.length ≤ 9223372036854775807) (hz : ∀ z ∈ zs, -9223372036854775808 ≤ z ∧ z ≤ 9223372036854775807) (hx0 : -9223372036854775808 ≤ x) (hx1 : x ≤ 9223372036854775807) (hm : MaxOk w) (hu : U8Ok w) :
    Calls Tryd.prog 4 #[.slice p zs.length cap, .int .i64 x] w fun e w' => e = .returned (.bool true) ∧ Grew w w' := by
  have ca := fun W g => awake11 W (hm.grew g) (u8_grew hu g)
  have g0 : Grew w w := Below.refl _ _
  by_cases h0 : zs.length = 0
  · clear hm hu
    go_enter Tryd.func4, Tryd.ntmps4
    go_wp2_with (first | (go_at_call 7; with_reducible refine (ca _ (by assumption)).mono ?_; rintro e1 W1 ⟨rfl, g1⟩; replace g1 := Grew.trans' (a := w) (by assumption) g1))
    go_ret
    exact ⟨rfl, by assumption⟩
  by_cases h12 : 12 < zs.length
  · clear hm hu
    go_enter Tryd.func4, Tryd.ntmps4
    go_wp2_with (first | (go_at_call 7; with_reducible refine (ca _ (by assumption)).mono ?_; rintro e1 W1 ⟨rfl, g1⟩; replace g1 := Grew.trans' (a := w) (by assumption) g1))
    go_ret
    exact ⟨rfl, by assumption⟩
  have f1 : decide (12 < (zs.length : Int)) = false := decide_eq_false (by omega)
  have f2 : ((zs.length : Int) == 0) = false := by rw [beq_eq_false_iff_ne]; omega
  rcases hr with hr | ⟨b, o, rfl, hlt, hcell⟩
  · subst hr; simp at h0
  have HC := Lib.hid hcell
  have HZ := Lib.hid hz
  clear hcell hz
  go_enter Tryd.func4, Tryd.ntmps4
  go_wp2
  go_loopw [5, 6] (fun v i wr => ∃ (k : Nat) (S : ByteArray), v = .string S ∧ i = .int .i64 (k : Int) ∧ k ≤ zs.length ∧ S.size ≤ 6 * k ∧ Hid (Pure.Good k S.data.toList) ∧ Grew w wr) (fun _ i _ => zs.length - (intOf i).toNat)
  case atStart => exact ⟨0, _, rfl, rfl, by omega, Nat.le_refl _, .inl ⟨rfl, rfl⟩, g0⟩
  case round =>
    obtain ⟨k, S, rfl, rfl, hk, hSz, hG, hb⟩ := hrel
    by_cases hlk : k < zs.length
    · have hce := (hb.cell (p := ⟨b, o + k, none⟩) hlt).trans (HC.out k hlk)
      obtain ⟨z, hzk⟩ : ∃ z, zs.getD k 0 = z := ⟨_, rfl⟩
      rw [hzk] at hce
      obtain ⟨K, hK, hK5⟩ := pick_wrap z 5 5 rfl (by decide) (by decide)
      clear hzk
      have hceA : (wr.alloc (.cells #[Value.string { data := #[97] }, Value.string { data := #[98, 45, 99] }, Value.string { data := #[118, 49, 46, 48] }, Value.string { data := #[99, 97, 102, 195, 169] }, Value.string { data := #[64] }] 9)).cell? ⟨b, o + k, none⟩ = some (.int .i64 z) := cell_grew hce ((Below.refl _ _).alloc (Nat.le_refl _) _)
      have hpc : (wr.alloc (.cells #[Value.string { data := #[97] }, Value.string { data := #[98, 45, 99] }, Value.string { data := #[118, 49, 46, 48] }, Value.string { data := #[99, 97, 102, 195, 169] }, Value.string { data := #[64] }] 9)).cell? ⟨wr.heap.size, K, none⟩ = some (.string ⟨(Pure.pieces.getD K []).toArray⟩) := by
        rw [cell_of_row _ _ _ _ _ (0, 0) (heap_alloc_new wr _)]
        have : K = 0 ∨ K = 1 ∨ K = 2 ∨ K = 3 ∨ K = 4 := by omega
        rcases this with rfl | rfl | rfl | rfl | rfl <;> rfl
      obtain ⟨P, hP⟩ : ∃ P : ByteArray, (⟨(Pure.pieces.getD K []).toArray⟩ : ByteArray) = P := ⟨_, rfl⟩
      rw [hP] at hpc
      have hPs : P.size ≤ 5 := by rw [← hP]; exact (Pure.piece_good K hK5).2.2.2
      have hPd : P.data.toList = Pure.pieces.getD K [] := by rw [← hP]
      have HP := Lib.hid hPd
      have HK5 := Lib.hid hK5
      clear hP hPd
      have hbA : Grew w (wr.alloc (.cells #[Value.string { data := #[97] }, Value.string { data := #[98, 45, 99] }, Value.string { data := #[118, 49, 46, 48] }, Value.string { data := #[99, 97, 102, 195, 169] }, Value.string { data := #[64] }] 9)) := Grew.trans' hb ((Below.refl _ _).alloc (Nat.le_refl _) _)
      by_cases hk0 : k = 0
      · have hkd : decide (0 < k) = false := decide_eq_false (by omega)
        have hS : S.data.toList = [] := by
          rcases hG.out with ⟨_, h⟩ | ⟨h, _⟩
          · exact h
          · omega
        have HS := Lib.hid hS
        have HK := Lib.hid hk0
        clear hS hG hk0
        go_wp2
        go_roundw
        case rel => exact ⟨k + 1, _, rfl, by go_num, by omega, by rw [ByteArray.size_append]; omega, by unfold Hid; rw [HK.out]; rw [append_list, HS.out, HP.out]; exact Pure.Good.first HK5.out, hbA⟩
        case measure => simp [intOf]; omega
      · have hkd : decide (0 < k) = true := decide_eq_true (by omega)
        go_wp2
        go_roundw
        case rel => exact ⟨k + 1, _, rfl, by go_num, by omega, by rw [ByteArray.size_append, ByteArray.size_append]; show S.size + 1 + P.size ≤ _; omega, by unfold Hid; rw [append_list, append_list, HP.out]; exact hG.out.next (by omega) HK5.out, hbA⟩
        case measure => simp [intOf]; omega
    · have hkz : k = zs.length := by omega
      obtain ⟨K, hK, hK16⟩ := pick_wrap x 16 16 rfl (by decide) (by decide)
      have hpc : (wr.alloc (.cells #[Value.string { data := #[] }, Value.string { data := #[46, 97] }, Value.string { data := #[97, 46, 108, 111, 99, 107] }, Value.string { data := #[97, 46, 46, 98] }, Value.string { data := #[97, 64, 123, 98] }, Value.string { data := #[97, 32, 98] }, Value.string { data := #[97, 126] }, Value.string { data := #[97, 94] }, Value.string { data := #[97, 58] }, Value.string { data := #[97, 63] }, Value.string { data := #[97, 42] }, Value.string { data := #[97, 91] }, Value.string { data := #[97, 92] }, Value.string { data := #[97, 127] }, Value.string { data := #[97, 1] }, Value.string { data := #[97, 46] }] 9)).cell? ⟨wr.heap.size, K, none⟩ = some (.string ⟨(Pure.worse.getD K []).toArray⟩) := by
        rw [cell_of_row _ _ _ _ _ (0, 0) (heap_alloc_new wr _)]
        have : K = 0 ∨ K = 1 ∨ K = 2 ∨ K = 3 ∨ K = 4 ∨ K = 5 ∨ K = 6 ∨ K = 7 ∨ K = 8 ∨ K = 9 ∨ K = 10 ∨ K = 11 ∨ K = 12 ∨ K = 13 ∨ K = 14 ∨ K = 15 := by omega
        rcases this with rfl | rfl | rfl | rfl | rfl | rfl | rfl | rfl | rfl | rfl | rfl | rfl | rfl | rfl | rfl | rfl <;> rfl
      obtain ⟨P, hP⟩ : ∃ P : ByteArray, (⟨(Pure.worse.getD K []).toArray⟩ : ByteArray) = P := ⟨_, rfl⟩
      rw [hP] at hpc
      have hPs : P.size ≤ 6 := by rw [← hP]; exact (by decide : ∀ K, K < 16 → (Pure.worse.getD K []).length ≤ 6) K hK16
      have hPd : P.data.toList = Pure.worse.getD K [] := by rw [← hP]
      have hGr := hG.out.right (by omega) (by omega)
      have hSl : S.data.toList.length = S.size := Array.length_toList
      have hbad := hG.out.worse (by omega) hK16
      rw [← hPd] at hbad
      have hS72 : S.size ≤ 72 := by omega
      have hS200 : decide ((S.size : Int) < 200) = true := decide_eq_true (by omega)
      have cr := (fun W g => refname_Right S W (by omega) (hm.grew g) (u8_grew hu g) : ∀ W, Grew w W → _)
      have ct := (fun W g => refname_Right (S ++ (⟨#[47]⟩ : ByteArray) ++ P) W (by rw [ByteArray.size_append, ByteArray.size_append]; show S.size + 1 + P.size ≤ _; omega) (hm.grew g) (u8_grew hu g) : ∀ W, Grew w W → _)
      rw [append_list, append_list, hbad] at ct
      rw [hGr.1, hkz, show decide (2 ≤ zs.length) = decide (2 ≤ (zs.length : Int)) from decide_eq_decide.2 (by omega)] at cr
      have hbA : Grew w (wr.alloc (.cells #[Value.string { data := #[] }, Value.string { data := #[46, 97] }, Value.string { data := #[97, 46, 108, 111, 99, 107] }, Value.string { data := #[97, 46, 46, 98] }, Value.string { data := #[97, 64, 123, 98] }, Value.string { data := #[97, 32, 98] }, Value.string { data := #[97, 126] }, Value.string { data := #[97, 94] }, Value.string { data := #[97, 58] }, Value.string { data := #[97, 63] }, Value.string { data := #[97, 42] }, Value.string { data := #[97, 91] }, Value.string { data := #[97, 92] }, Value.string { data := #[97, 127] }, Value.string { data := #[97, 1] }, Value.string { data := #[97, 46] }] 9)) := Grew.trans' hb ((Below.refl _ _).alloc (Nat.le_refl _) _)
      obtain ⟨D, hD⟩ : ∃ D, decide (2 ≤ (zs.length : Int)) = D := ⟨_, rfl⟩
      rw [hD] at cr
      have hDD : (D == D) = true := by simp
      clear hm hu hGr hbad hPd hP hG hSl hSz
      go_wp2_with (first | (go_at_call 7; with_reducible refine (ca _ (by assumption)).mono ?_; rintro e1 W1 ⟨rfl, g1⟩; replace g1 := Grew.trans' (a := w) (by assumption) g1) | (go_at_call 8; with_reducible refine (cr _ (by assumption)).mono ?_; rintro e1 W1 ⟨rfl, g1⟩; replace g1 := Grew.trans' (a := w) (by assumption) g1) | (go_at_call 8; with_reducible refine (ct _ (by assumption)).mono ?_; rintro e1 W1 ⟨rfl, g1⟩; replace g1 := Grew.trans' (a := w) (by assumption) g1))
      go_ret
      exact ⟨rfl, by assumption⟩

end Go.Proofs.YtgapnfalmdjlcaaDoor

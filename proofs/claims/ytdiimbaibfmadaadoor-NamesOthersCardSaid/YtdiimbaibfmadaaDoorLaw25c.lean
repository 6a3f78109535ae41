/- The law NamesOthers of layer 25, walked: for any input the call returns true, and nothing that was there has changed. Conditions: the library's tables are laid. -/
import Derived.Test.YtdiimbaibfmadaaDoorLaw25a
namespace Go.Proofs.YtdiimbaibfmadaaDoor
set_option linter.unusedVariables false
set_option linter.unusedSimpArgs false
open Go.RowKit

def others : List (List UInt8) := [[114, 101, 102, 115, 47, 116, 97, 103, 115, 47], [114, 101, 102, 115, 47, 110, 111, 116, 101, 115, 47], [114, 101, 102, 115, 47, 104, 101, 97, 100, 115, 47, 114, 101, 102, 47], [114, 101, 102, 115, 47, 104, 101, 97, 100, 115, 47, 45]]
theorem others_no : ∀ K, K < 4 → (others.getD K []).length ≤ 15 := by decide
theorem others_kept (K : Nat) (h : K < 4) (l : List UInt8) : (Lib.hasPrefix (others.getD K [] ++ l) Pure.headsL && Pure.branch ((others.getD K [] ++ l).drop 11) && !Lib.hasPrefix ((others.getD K [] ++ l).drop 11) Pure.otherL) = false := by
  have : K = 0 ∨ K = 1 ∨ K = 2 ∨ K = 3 := by omega
  rcases this with rfl | rfl | rfl | rfl
  · simp [others, Lib.hasPrefix, Pure.headsL, List.isPrefixOf]
  · simp [others, Lib.hasPrefix, Pure.headsL, List.isPrefixOf]
  · simp [others, Lib.hasPrefix, Pure.headsL, Pure.otherL, List.isPrefixOf]
  · have e : (others.getD 3 [] ++ l).drop 11 = 45 :: l := by simp [others]
    rw [e]
    have : Pure.branch (45 :: l) = false := by unfold Pure.branch; simp [Lib.hasPrefix, List.isPrefixOf]
    rw [this]; simp

set_option maxRecDepth 100000 in
set_option maxHeartbeats 1000000 in
theorem law_NamesOthers (s : ByteArray) (x : Int) (w : World) (hs : s.size ≤ 9223372036854775807) (hx0 : -9223372036854775808 ≤ x) (hx1 : x ≤ 9223372036854775807) (hm : MaxOk w) (hu : U8Ok w) :
    Calls Tryd.prog 6 #[.string s, .int .i64 x] w fun e w' => e = .returned (.bool true) ∧ Grew w w' := by
  have g0 : Grew w w := Below.refl _ _
  have ca := (fun W g => awake25 W (hm.grew g) (u8_grew hu g) : ∀ W, Grew w W → _)
  by_cases l1 : 60 < s.size
  · clear hm hu
    go_enter Tryd.func6, Tryd.ntmps6
    go_wp2_with (first | (go_at_call 7; with_reducible refine (ca _ (by assumption)).mono ?_; rintro e1 W1 ⟨rfl, g1⟩; replace g1 := Grew.trans' (a := w) (by assumption) g1))
    go_ret
    exact ⟨rfl, by assumption⟩
  obtain ⟨K, hK, hK4⟩ := pick_wrap x 4 4 rfl (by decide) (by decide)
  have hpc : (w.alloc (.cells #[Value.string { data := #[114, 101, 102, 115, 47, 116, 97, 103, 115, 47] }, Value.string { data := #[114, 101, 102, 115, 47, 110, 111, 116, 101, 115, 47] }, Value.string { data := #[114, 101, 102, 115, 47, 104, 101, 97, 100, 115, 47, 114, 101, 102, 47] }, Value.string { data := #[114, 101, 102, 115, 47, 104, 101, 97, 100, 115, 47, 45] }] 9)).cell? ⟨w.heap.size, K, none⟩ = some (.string ⟨(others.getD K []).toArray⟩) := by
    rw [cell_of_row _ _ _ _ _ (0, 0) (heap_alloc_new w _)]
    have : K = 0 ∨ K = 1 ∨ K = 2 ∨ K = 3 := by omega
    rcases this with rfl | rfl | rfl | rfl <;> rfl
  obtain ⟨P, hP⟩ : ∃ P : ByteArray, (⟨(others.getD K []).toArray⟩ : ByteArray) = P := ⟨_, rfl⟩
  rw [hP] at hpc
  have hPs : P.size ≤ 15 := by rw [← hP]; exact others_no K hK4
  have hPd : P.data.toList = others.getD K [] := by rw [← hP]
  have hRd : (P ++ s).data.toList = others.getD K [] ++ s.data.toList := by rw [append_list, hPd]
  have hz : (P ++ s).size ≤ 75 := by rw [ByteArray.size_append]; omega
  have hzl : (P ++ s).data.toList.length = (P ++ s).size := Array.length_toList
  have hmk := Pure.mark_others (r := (P ++ s).data.toList) (by omega) (by rw [hRd]; exact others_kept K hK4 _)
  have hrf := Pure.refOf_other (P ++ s).data.toList
  have hO : (otherB ++ (P ++ s)).data.toList = Pure.otherL ++ (P ++ s).data.toList := by rw [append_list]; rfl
  have c1 := (fun W g => names_Mark (P ++ s) W (by omega) (hm.grew g) (u8_grew hu g) : ∀ W, Grew w W → _)
  have c2 := (fun W g => names_Ref (otherB ++ (P ++ s)) W (by rw [ByteArray.size_append]; show 4 + _ ≤ _; omega) (hm.grew g) (u8_grew hu g) : ∀ W, Grew w W → _)
  have c3 := (fun W g => ref_Right (P ++ s) W (by omega) (u8_grew hu g) : ∀ W, Grew w W → _)
  rw [hO, hrf] at c2
  obtain ⟨B, hB⟩ : ∃ B, Pure.right (P ++ s).data.toList = B := ⟨_, rfl⟩
  rw [hB] at hmk c3
  rw [hmk] at c1 c2
  have q1 : (B == B) = true := by simp
  have gA : Grew w (w.alloc (.cells #[Value.string { data := #[114, 101, 102, 115, 47, 116, 97, 103, 115, 47] }, Value.string { data := #[114, 101, 102, 115, 47, 110, 111, 116, 101, 115, 47] }, Value.string { data := #[114, 101, 102, 115, 47, 104, 101, 97, 100, 115, 47, 114, 101, 102, 47] }, Value.string { data := #[114, 101, 102, 115, 47, 104, 101, 97, 100, 115, 47, 45] }] 9)) := (Below.refl _ _).alloc (Nat.le_refl _) _
  have hOO := Lib.hid hO
  have hKK := Lib.hid hK4
  cases B with
  | true =>
    rw [if_pos rfl] at c1 c2
    rw [if_pos rfl, tell_some rfl] at c2
    rw [tell_some hO] at c1
    have q2 : ((otherB ++ (P ++ s)).toList == (otherB ++ (P ++ s)).toList) = true := by simp
    have q3 : ((P ++ s).toList == (P ++ s).toList) = true := by simp
    clear hm hu hmk hrf hB hO hzl hRd hPd hP
    go_enter Tryd.func6, Tryd.ntmps6
    go_wp2_with (first | (go_at_call 7; with_reducible refine (ca _ (by assumption)).mono ?_; rintro e1 W1 ⟨rfl, g1⟩; replace g1 := Grew.trans' (a := w) (by assumption) g1) | (go_at_call 8; with_reducible refine (c1 _ (by assumption)).mono ?_; rintro e1 W1 ⟨rfl, g1⟩; replace g1 := Grew.trans' (a := w) (by assumption) g1) | (go_at_call 11; with_reducible refine (c2 _ (by assumption)).mono ?_; rintro e1 W1 ⟨rfl, g1⟩; replace g1 := Grew.trans' (a := w) (by assumption) g1) | (go_at_call 13; with_reducible refine (c3 _ (by assumption)).mono ?_; rintro e1 W1 ⟨rfl, g1⟩; replace g1 := Grew.trans' (a := w) (by assumption) g1))
    go_ret
    exact ⟨by simp, by assumption⟩
  | false =>
    rw [if_neg (by simp)] at c1
    have hc2 : (if (if false = true then some (Pure.otherL ++ (P ++ s).data.toList) else none) = some (Pure.otherL ++ (P ++ s).data.toList) then some (P ++ s).data.toList else none) = none := by simp
    rw [hc2] at c2
    rw [show tellV none = .tuple #[.string ⟨#[]⟩, .bool false] from rfl] at c1 c2
    clear hm hu hmk hrf hB hO hzl hRd hPd hP
    go_enter Tryd.func6, Tryd.ntmps6
    go_wp2_with (first | (go_at_call 7; with_reducible refine (ca _ (by assumption)).mono ?_; rintro e1 W1 ⟨rfl, g1⟩; replace g1 := Grew.trans' (a := w) (by assumption) g1) | (go_at_call 8; with_reducible refine (c1 _ (by assumption)).mono ?_; rintro e1 W1 ⟨rfl, g1⟩; replace g1 := Grew.trans' (a := w) (by assumption) g1) | (go_at_call 11; with_reducible refine (c2 _ (by assumption)).mono ?_; rintro e1 W1 ⟨rfl, g1⟩; replace g1 := Grew.trans' (a := w) (by assumption) g1) | (go_at_call 13; with_reducible refine (c3 _ (by assumption)).mono ?_; rintro e1 W1 ⟨rfl, g1⟩; replace g1 := Grew.trans' (a := w) (by assumption) g1))
    go_ret
    exact ⟨by simp, by assumption⟩

end Go.Proofs.YtdiimbaibfmadaaDoor

/- The reference's name tells which parts of a path may be. Conditions: a part is at most 2^30 bytes long. -/
import Derived.Test.YtkdmhflcpfekfaaDoorQ1
import Derived.Deep.QuietTactic
import Derived.BigQuiet
namespace Go.Proofs.YtkdmhflcpfekfaaDoor
set_option linter.unusedVariables false
set_option linter.unusedSimpArgs false
open Go.RowKit

theorem git_len (l : List UInt8) (h : l.length ≠ 4) : Pure.isGit l = false := by
  unfold Pure.isGit
  rw [beq_eq_false_iff_ne]
  intro e
  have := congrArg List.length e
  simp at this
  exact h this
theorem git_no (l : List UInt8) (k : Nat) (c : UInt8) (y : Nat) (hk : l[k]? = some c) (hy : ([46, 103, 105, 116] : List Nat)[k]? = some y) (h : Pure.lowB c ≠ y) : Pure.isGit l = false := by
  unfold Pure.isGit
  rw [beq_eq_false_iff_ne]
  intro e
  have h1 : (l.map Pure.lowB)[k]? = some (Pure.lowB c) := by rw [List.getElem?_map, hk]; rfl
  rw [e, hy] at h1
  exact h (Option.some.inj h1).symm
theorem git_yes (l : List UInt8) (hl : l.length = 4) (h : ∀ j, j < 4 → ∀ c y, l[j]? = some c → ([46, 103, 105, 116] : List Nat)[j]? = some y → Pure.lowB c = y) : Pure.isGit l = true := by
  unfold Pure.isGit
  rw [beq_iff_eq]
  apply List.ext_getElem?
  intro j
  by_cases hj : j < 4
  · have h1 : l[j]? = some (l[j]'(by omega)) := List.getElem?_eq_getElem (by omega)
    have h2 : ([46, 103, 105, 116] : List Nat)[j]? = some (([46, 103, 105, 116] : List Nat)[j]'hj) := List.getElem?_eq_getElem hj
    rw [List.getElem?_map, h1, h2, Option.map_some, h j hj _ _ h1 h2]
  · rw [List.getElem?_eq_none (by simp; omega), List.getElem?_eq_none (by simp; omega)]

set_option maxRecDepth 100000 in
theorem ref_low (c : UInt8) (x : Int) (hx : (c.toNat : Int) = x) (w : World) :
    Calls Tryd.prog 84 #[.int .u8 x] w fun e w' => e = .returned (.int .u8 (Pure.lowB c : Int)) ∧ w = w' := by
  have hl : (Pure.lowB c : Int) = if 65 ≤ x ∧ x ≤ 90 then x + 32 else x := by
    unfold Pure.lowB
    by_cases h : 65 ≤ c.toNat ∧ c.toNat ≤ 90
    · rw [if_pos h, if_pos (by omega)]; omega
    · rw [if_neg h, if_neg (by omega)]; omega
  rw [hl]
  have hx0 : 0 ≤ x := by omega
  clear hl hx
  by_cases h1 : 65 ≤ x
  · by_cases h2 : x ≤ 90
    · rw [if_pos ⟨h1, h2⟩]
      go_enter Tryd.func84, Tryd.ntmps84
      go_wp2
      go_ret
      exact ⟨rfl, rfl⟩
    · rw [if_neg (by omega)]
      go_enter Tryd.func84, Tryd.ntmps84
      go_wp2
      go_ret
      exact ⟨rfl, rfl⟩
  · rw [if_neg (by omega)]
    go_enter Tryd.func84, Tryd.ntmps84
    go_wp2
    go_ret
    exact ⟨rfl, rfl⟩

set_option maxRecDepth 100000 in
set_option maxHeartbeats 1000000 in
theorem ref_name (s : ByteArray) (w : World) (hs : s.size ≤ 1073741824) :
    Calls Tryd.prog 78 #[.string s] w fun e w' => e = .returned (.bool (Pure.nameP s.data.toList)) ∧ Grew w w' := by
  have hsl : s.data.toList.length = s.size := Array.length_toList
  by_cases h4 : s.size = 4
  · have h1 : s.toList.isEmpty = false := not_empty (by omega)
    have h2 : (s.toList == [46]) = false := by rw [beq_eq_false_iff_ne, ByteArray.toList_eq]; intro e; rw [e] at hsl; simp at hsl; omega
    have h3 : (s.toList == [46, 46]) = false := by rw [beq_eq_false_iff_ne, ByteArray.toList_eq]; intro e; rw [e] at hsl; simp at hsl; omega
    have h5 : ((s.size : Int) != 4) = false := by rw [bne_eq_false_iff_eq]; omega
    have hn : Pure.nameP s.data.toList = !Pure.isGit s.data.toList := by rw [name_parts, h1, h2, h3]; rfl
    rw [hn]
    clear hn
    have HS := Lib.hid hsl
    have H4 := Lib.hid h4
    have h4a : s.size ≤ 4 := by omega
    have h4b : 4 ≤ s.size := by omega
    clear hsl h4
    go_enter Tryd.func78, Tryd.ntmps78
    go_wp2
    go_loopw [3] (fun s5 wr => ∃ k : Nat, s5 = .int .i64 k ∧ k ≤ 4 ∧ Grew w wr ∧ Hid (∀ j, j < k → ∀ c y, s.data.toList[j]? = some c → ([46, 103, 105, 116] : List Nat)[j]? = some y → Pure.lowB c = y)) (fun s5 _ => 4 - (intOf s5).toNat)
    case atStart => exact ⟨0, rfl, Nat.zero_le _, Below.refl _ _, fun j hj => by omega⟩
    case round =>
      obtain ⟨k, rfl, hk, hb, hal⟩ := hrel
      by_cases hlt : k < 4
      · have hks : k < s.size := by omega
        obtain ⟨c, hc⟩ : ∃ c, s[k]'hks = c := ⟨_, rfl⟩
        have hx := Lib.data_getElem? s k hks
        rw [hc] at hx
        obtain ⟨y, hy, hyy⟩ : ∃ y : Nat, ([46, 103, 105, 116] : List Nat)[k]? = some y ∧ ((gitB[k]'hlt).toNat : Int) = (y : Int) := by
          have : k = 0 ∨ k = 1 ∨ k = 2 ∨ k = 3 := by omega
          rcases this with rfl | rfl | rfl | rfl <;> exact ⟨_, rfl, rfl⟩
        have ix1 := index_str s k c hx
        have ix2 : ∀ W, (Instr.index 9 (.string ⟨#[46, 103, 105, 116]⟩) (.int .i64 (k : Int))).run Tryd.prog W = .ok (.int .u8 (y : Int)) W := fun W => by
          have h := index_str gitB k (gitB[k]'hlt) (Lib.data_getElem? gitB k hlt) W
          rw [hyy] at h
          exact h
        have cl := fun W => (ref_low c (c.toNat : Int) rfl W).mono fun _ _ h => (⟨h.1, h.2.symm⟩ : _ = Ending.returned (.int .u8 (Pure.lowB c : Int)) ∧ _ = W)
        have hks1 : (k : Int) < (s.size : Int) := by omega
        have hk0 : (0 : Int) ≤ (k : Int) := by omega
        have hk1 : (k : Int) < 4 := by omega
        by_cases e : Pure.lowB c = y
        · have te : ((Pure.lowB c : Int) != (y : Int)) = false := by rw [bne_eq_false_iff_eq, e]
          have HN : Hid (∀ j, j < k + 1 → ∀ c y, s.data.toList[j]? = some c → ([46, 103, 105, 116] : List Nat)[j]? = some y → Pure.lowB c = y) := by
            intro j hj c' y' h1 h2
            by_cases ej : j = k
            · subst ej; rw [hx] at h1; rw [hy] at h2; cases h1; cases h2; exact e
            · exact hal.out j (by omega) c' y' h1 h2
          clear hc hx hy hyy hal e
          go_wp2_with fail
          go_quiet ((go_at_call 84; exact Calls.quiet_of_same (cl _)))
          go_wp2
          go_roundw
          case rel => exact ⟨k + 1, by go_num, by omega, Grew.drewN hb _, HN⟩
          case measure => simp [intOf]; omega
        · have te : ((Pure.lowB c : Int) != (y : Int)) = true := by rw [bne_iff_ne]; omega
          have hn := git_no _ _ _ _ hx hy e
          have HN := Lib.hid hn
          clear hc hx hy hyy hal hn e
          go_wp2_with fail
          go_quiet ((go_at_call 84; exact Calls.quiet_of_same (cl _)))
          go_wp2
          go_ret
          exact ⟨by rw [HN.out]; rfl, Grew.drewN hb _⟩
      · obtain rfl : k = 4 := by omega
        have hy := git_yes _ (by rw [HS.out, H4.out]) hal.out
        have HY := Lib.hid hy
        clear hy hal
        have hk4 : ¬ ((4 : Int) < (s.size : Int)) := by omega
        go_wp2
        go_ret
        exact ⟨by rw [HY.out]; rfl, hb⟩
  · have hg : Pure.isGit s.data.toList = false := git_len _ (by omega)
    have h5 : ((s.size : Int) != 4) = true := by rw [bne_iff_ne]; omega
    rw [name_parts, hg]
    clear hg hsl
    cases h1 : s.toList.isEmpty <;> cases h2 : (s.toList == [46]) <;> cases h3 : (s.toList == [46, 46])
    all_goals
      go_enter Tryd.func78, Tryd.ntmps78
      go_wp2
      go_ret
      exact ⟨by simp, Below.refl _ _⟩

end Go.Proofs.YtkdmhflcpfekfaaDoor

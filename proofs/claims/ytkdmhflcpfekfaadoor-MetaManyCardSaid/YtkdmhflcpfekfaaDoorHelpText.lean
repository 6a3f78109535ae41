/- The helpers Begins, Ends and Find on texts: does one begin or end with another one; where it stands in it first, from a place on. Conditions: at most 2^40 bytes; what is sought is not empty. -/
import Derived.Test.YtkdmhflcpfekfaaDoorM1
import Derived.Lib.IndexBytes
import Derived.Lib.IndexMore
import Derived.Lib.IndexLaws
import Derived.Lib.Strings
namespace Go.Proofs.YtkdmhflcpfekfaaDoor
set_option linter.unusedVariables false
set_option linter.unusedSimpArgs false
open Go.RowKit

set_option maxRecDepth 100000 in
theorem help_Begins (s p : ByteArray) (w : World) :
    Calls Tryd.prog 30 #[.string s, .string p] w fun e w' => e = .returned (.bool (Lib.hasPrefix s.data.toList p.data.toList)) ∧ w' = w := by
  have hr := Lib.hasPrefix_raw s p
  obtain ⟨B, hB⟩ : ∃ B, Lib.hasPrefix s.data.toList p.data.toList = B := ⟨_, rfl⟩
  rw [hB] at hr ⊢
  clear hB
  by_cases h : p.size ≤ s.size
  · rw [decide_eq_true h, Bool.true_and] at hr
    go_enter Tryd.func30, Tryd.ntmps30
    go_wp2
    go_ret
    exact ⟨by simp [← hr], rfl⟩
  · rw [decide_eq_false h, Bool.false_and] at hr
    subst hr
    go_enter Tryd.func30, Tryd.ntmps30
    go_wp2
    go_ret
    exact ⟨rfl, rfl⟩

/-- Where t stands in s first, from k on; -1: nowhere. -/
def findFrom (s t : List UInt8) (k : Nat) : Int := if Lib.index (s.drop k) t == -1 then -1 else Lib.index (s.drop k) t + k
theorem findFrom_zero (s t : List UInt8) : findFrom s t 0 = Lib.index s t := by
  unfold findFrom
  rw [List.drop_zero]
  split
  · rename_i h; exact (beq_iff_eq.1 h).symm
  · simp
theorem occ_drop (s t : List UInt8) (k j : Nat) : Lib.occAt (s.drop k) t j = Lib.occAt s t (k + j) := by unfold Lib.occAt; rw [List.drop_drop]

set_option maxRecDepth 100000 in
set_option maxHeartbeats 1000000 in
theorem help_Find_from (s t : ByteArray) (k : Nat) (w : World) (hs : s.size ≤ 1099511627776) (ht : t.size ≤ 1099511627776) (ht0 : 1 ≤ t.size) (hk : k ≤ s.size) :
    Calls Tryd.prog 23 #[.string s, .string t, .int .i64 (k : Int)] w fun e w' => e = .returned (.int .i64 (findFrom s.data.toList t.data.toList k)) ∧ w' = w := by
  have hsl : s.data.toList.length = s.size := Array.length_toList
  have htl : t.data.toList.length = t.size := Array.length_toList
  have htn : t.data.toList ≠ [] := fun e => by rw [e] at htl; simp at htl; omega
  have HT := Lib.hid htn
  have HS := Lib.hid hsl
  have HTL := Lib.hid htl
  clear htn hsl htl
  go_enter Tryd.func23, Tryd.ntmps23
  go_wp2
  go_loopw [7] (fun v wr => ∃ i : Nat, v = .int .i64 (i : Int) ∧ k ≤ i ∧ i ≤ s.size ∧ Hid (Lib.NoOcc (s.data.toList.drop k) t.data.toList (i - k)) ∧ wr = w) (fun v _ => s.size - (intOf v).toNat)
  case atStart => exact ⟨k, rfl, by omega, by omega, by rw [Nat.sub_self]; exact Lib.NoOcc.zero _ _, rfl⟩
  case round =>
    obtain ⟨i, rfl, hki, hj, hno, rfl⟩ := hrel
    by_cases hroom : i + t.size ≤ s.size
    · have hp := Lib.occ_of_piece s t i hroom
      rw [show i = k + (i - k) by omega, ← occ_drop, ← show i = k + (i - k) by omega] at hp
      obtain ⟨B, hB⟩ : ∃ B, Lib.occAt (s.data.toList.drop k) t.data.toList (i - k) = B := ⟨_, rfl⟩
      rw [hB] at hp
      replace hp := hp.symm
      have HB := Lib.hid hB
      clear hB
      cases B with
      | true =>
        have hres : findFrom s.data.toList t.data.toList k = (i : Int) := by
          have h1 := Lib.index_hit hno.out (by rw [List.length_drop]; have := HS.out; omega) HB.out
          unfold findFrom
          rw [h1, if_neg (by simp)]
          omega
        have HR := Lib.hid hres
        clear hres hno
        go_wp2
        go_ret
        exact ⟨by rw [HR.out]; rfl, rfl⟩
      | false =>
        go_wp2
        go_roundw
        case rel => exact ⟨i + 1, by go_num, by omega, by omega, by rw [show i + 1 - k = (i - k) + 1 by omega]; exact hno.out.succ HB.out, by trivial⟩
        case measure => simp [intOf]; omega
    · have hres : findFrom s.data.toList t.data.toList k = -1 := by
        have h1 := Lib.index_past HT.out hno.out (by rw [List.length_drop]; have := HS.out; have := HTL.out; omega)
        unfold findFrom
        rw [h1]; rfl
      have HR := Lib.hid hres
      clear hres hno
      go_wp2
      go_ret
      exact ⟨by rw [HR.out]; rfl, rfl⟩

theorem help_Find (s t : ByteArray) (w : World) (hs : s.size ≤ 1099511627776) (ht : t.size ≤ 1099511627776) (ht0 : 1 ≤ t.size) :
    Calls Tryd.prog 23 #[.string s, .string t, .int .i64 0] w fun e w' => e = .returned (.int .i64 (Lib.index s.data.toList t.data.toList)) ∧ w' = w := by
  have := help_Find_from s t 0 w hs ht ht0 (Nat.zero_le _)
  rwa [findFrom_zero] at this

end Go.Proofs.YtkdmhflcpfekfaaDoor

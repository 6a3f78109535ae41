/- The reference's Hex gives the digits of 16 of any bytes. Conditions: at most 2^40 bytes. -/
import Derived.Test.YtkdmhflcpfekfaaDoorM1
import Derived.Test.YtkdmhflcpfekfaaDoorHexa1
import Derived.Deep.QuietTactic
import Derived.BigQuiet
namespace Go.Proofs.YtkdmhflcpfekfaaDoor
set_option linter.unusedVariables false
set_option linter.unusedSimpArgs false
open Go.RowKit

theorem slice_digits (y : Int) (h0 : 0 ≤ y) (h1 : y < 16) (w : World) :
    (Instr.slice 9 (.string ⟨#[48, 49, 50, 51, 52, 53, 54, 55, 56, 57, 97, 98, 99, 100, 101, 102]⟩) (some (.int .i64 y)) (some (.int .i64 (y + 1))) none).run Tryd.prog w = .ok (.string ⟨#[Pure.hexDigit y.toNat]⟩) w := by
  obtain ⟨n, rfl⟩ := Int.eq_ofNat_of_zero_le h0
  have hn : n < 16 := by omega
  have : n = 0 ∨ n = 1 ∨ n = 2 ∨ n = 3 ∨ n = 4 ∨ n = 5 ∨ n = 6 ∨ n = 7 ∨ n = 8 ∨ n = 9 ∨ n = 10 ∨ n = 11 ∨ n = 12 ∨ n = 13 ∨ n = 14 ∨ n = 15 := by omega
  rcases this with rfl | rfl | rfl | rfl | rfl | rfl | rfl | rfl | rfl | rfl | rfl | rfl | rfl | rfl | rfl | rfl <;> (simp [Pure.hexDigit, go_sem]; try rfl)

set_option maxRecDepth 100000 in
set_option maxHeartbeats 1000000 in
theorem ref_Hex (p : Option Addr) (l : List UInt8) (cap : Nat) (w : World) (hl : l.length ≤ 1099511627776) (h : Rd w p l) :
    Calls Tryd.prog 27 #[.slice p l.length cap] w fun e w' => e = .returned (.string ⟨(Pure.hex l).toArray⟩) ∧ Grew w w' := by
  go_enter Tryd.func27, Tryd.ntmps27
  go_wp2
  go_loopw [3, 4] (fun s i wr => ∃ k : Nat, k ≤ l.length ∧ i = .int .i64 k ∧ s = .string ⟨(Pure.hex (l.take k)).toArray⟩ ∧ Grew w wr) (fun _ i _ => l.length - (intOf i).toNat)
  case atStart =>
    exact ⟨0, Nat.zero_le _, rfl, rfl, Below.refl _ w⟩
  case round =>
    obtain ⟨k, hk, rfl, rfl, hbw⟩ := hrel
    have hsz := hbw.size
    by_cases hlt : k < l.length
    · rcases h with h | ⟨b, o, rfl, hb, hc⟩
      · subst h; simp at hlt
      obtain ⟨c, hcl⟩ : ∃ c, l[k]? = some c := ⟨_, List.getElem?_eq_getElem hlt⟩
      obtain ⟨x, hx⟩ : ∃ x : Int, x = (c.toNat : Int) := ⟨_, rfl⟩
      have hcell : wr.cell? ⟨b, o + k, none⟩ = some (.int .u8 x) := by
        rw [(hbw.cell (p := ⟨b, o + k, none⟩) hb), hc k hlt, hx, List.getD_eq_getElem?_getD, hcl]; rfl
      have hx0 : (0 : Int) ≤ x := by omega
      have hx1 : x < 256 := by have := byte_lt c; omega
      have hnext : Pure.hex (l.take (k + 1)) = Pure.hex (l.take k) ++ [Pure.hexDigit (x / 16).toNat, Pure.hexDigit (x % 16).toNat] := by
        rw [List.take_add_one, hcl, Pure.hex_append, hx]; rfl
      have hlen := Pure.hex_length (l.take k)
      have hlen' : (Pure.hex (l.take k)).length ≤ 2 * l.length := by rw [hlen, List.length_take]; omega
      have HN := Lib.hid hnext
      clear hc hnext hx hcl hlen
      have hi1 := slice_digits (x / 16) (by omega) (by omega)
      have hi2 := slice_digits (x % 16) (by omega) (by omega)
      generalize Pure.hexDigit (x / 16).toNat = d1 at *
      generalize Pure.hexDigit (x % 16).toNat = d2 at *
      have hw1 : IntKind.i64.wrap (x / 16 + 1) = x / 16 + 1 := IntWalk.i64_in _ ⟨by omega, by omega⟩
      have hw2 : IntKind.i64.wrap (x % 16 + 1) = x % 16 + 1 := IntWalk.i64_in _ ⟨by omega, by omega⟩
      go_wp2_with fail
      go_quiet (fail)
      go_wp2_with fail
      go_quiet (fail)
      clear hw1 hw2 hi1 hi2 hcell
      go_wp2
      go_roundw
      case rel =>
        refine ⟨k + 1, by omega, by go_num, ?_, ?_⟩
        · rw [HN.out]; exact str_eq (by simp)
        · exact Grew.drewN hbw _
      case measure => simp [intOf]; omega
    · have hk2 : k = l.length := by omega
      subst hk2
      go_wp2
      go_ret
      exact ⟨by simp, hbw⟩

end Go.Proofs.YtkdmhflcpfekfaaDoor

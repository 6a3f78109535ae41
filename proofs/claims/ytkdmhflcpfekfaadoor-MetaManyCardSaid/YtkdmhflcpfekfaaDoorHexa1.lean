/- hexa.Hex and the reference's Hex give the digits of 16 of any bytes. Conditions: at most 2^40 bytes. -/
import Derived.Test.YtkdmhflcpfekfaaDoorM1
import Derived.Test.YtkdmhflcpfekfaaDoorBuilder
import Derived.Test.YtkdmhflcpfekfaaDoorShelf
namespace Go.Proofs.YtkdmhflcpfekfaaDoor
set_option linter.unusedVariables false
set_option linter.unusedSimpArgs false
open Go.RowKit


theorem index_digits (y : Int) (k : IntKind) (h0 : 0 ≤ y) (h1 : y < 16) (w : World) :
    (Instr.index 9 (.string ⟨#[48, 49, 50, 51, 52, 53, 54, 55, 56, 57, 97, 98, 99, 100, 101, 102]⟩) (.int k y)).run Tryd.prog w = .ok (.int .u8 ((Pure.hexDigit y.toNat).toNat : Int)) w := by
  obtain ⟨n, rfl⟩ := Int.eq_ofNat_of_zero_le h0
  have hn : n < 16 := by omega
  have : n = 0 ∨ n = 1 ∨ n = 2 ∨ n = 3 ∨ n = 4 ∨ n = 5 ∨ n = 6 ∨ n = 7 ∨ n = 8 ∨ n = 9 ∨ n = 10 ∨ n = 11 ∨ n = 12 ∨ n = 13 ∨ n = 14 ∨ n = 15 := by omega
  rcases this with rfl | rfl | rfl | rfl | rfl | rfl | rfl | rfl | rfl | rfl | rfl | rfl | rfl | rfl | rfl | rfl <;> (simp [Instr.index, Pure.hexDigit, Sem.run, go_sem]; rfl)

set_option maxRecDepth 100000 in
set_option maxHeartbeats 1000000 in
theorem hexa_Hex (p : Option Addr) (l : List UInt8) (cap : Nat) (w : World) (hl : l.length ≤ 1099511627776) (h : Rd w p l) :
    Calls Tryd.prog 41 #[.slice p l.length cap] w fun e w' => e = .returned (.string ⟨(Pure.hex l).toArray⟩) ∧ Grew w w' := by
  go_enter Tryd.func41, Tryd.ntmps41
  go_wp2
  go_loopw [8] (fun i wr => ∃ k : Nat, k ≤ l.length ∧ i = .int .i64 k ∧ Lib.IsBuilderF tB tU8 w.heap.size w.heap.size (Lib.byteCells (Pure.hex (l.take k))) wr ∧ Grew w wr) (fun i _ => l.length - (intOf i).toNat)
  case atStart =>
    refine ⟨0, Nat.zero_le _, rfl, ?_, ?_⟩
    · exact Lib.IsBuilderF.of (Lib.fresh_isBuilder tB tU8 w)
    · exact (Below.refl _ w).alloc (Nat.le_refl _) _
  case round =>
    obtain ⟨k, hk, rfl, hI, hbw⟩ := hrel
    have hsz := hbw.size
    by_cases hlt : k < l.length
    · rcases h with h | ⟨b, o, rfl, hb, hc⟩
      · subst h; simp at hlt
      obtain ⟨c, hcl⟩ : ∃ c, l[k]? = some c := ⟨_, List.getElem?_eq_getElem hlt⟩
      obtain ⟨x, hx⟩ : ∃ x : Int, x = (c.toNat : Int) := ⟨_, rfl⟩
      have hcell : wr.cell? ⟨b, o + k, none⟩ = some (.int .u8 x) := by
        rw [(hbw.cell (p := ⟨b, o + k, none⟩) hb), hc k hlt, hx, List.getD_eq_getElem?_getD, hcl]; rfl
      have hx0 : (0 : Int) ≤ x := by omega
      have hx1 : x < 256 := by have := byte_lt c; omega
      have hnext : Pure.hex (l.take (k + 1)) = Pure.hex (l.take k) ++ [Pure.hexDigit (x / 16).toNat, Pure.hexDigit (x % 16).toNat] := by
        rw [List.take_add_one, hcl, Pure.hex_append, hx]; rfl
      have hlen := Pure.hex_length (l.take k)
      have hlen' : (Lib.byteCells (Pure.hex (l.take k))).length ≤ 2 * l.length := by rw [Lib.byteCells_length, hlen, List.length_take]; omega
      have HN := Lib.hid hnext
      clear hc hnext hx hcl hlen
      have hi1 := index_digits (x / 16) .u8 (by omega) (by omega)
      have hi2 := index_digits (x % 16) .u8 (by omega) (by omega)
      generalize Pure.hexDigit (x / 16).toNat = d1 at *
      generalize Pure.hexDigit (x % 16).toNat = d2 at *
      go_wp2_with (go_at_call 57; refine (writeByte w.heap.size w.heap.size _ _ _ hI (by omega) (by omega)).mono ?_)
      rintro e w1 ⟨rfl, hI1, hb1, -⟩
      have hsz1 := hb1.size
      clear hcell
      go_wp2_with (go_at_call 57; refine (writeByte w.heap.size w.heap.size _ _ _ hI1 (by simp; omega) (by omega)).mono ?_)
      rintro e w2 ⟨rfl, hI2, hb2, -⟩
      clear hi1 hi2
      go_wp2
      go_roundw
      case rel =>
        refine ⟨k + 1, by omega, by go_num, ?_, hbw.trans (hb1.trans hb2)⟩
        rw [HN.out, Lib.byteCells_append]
        simpa [Lib.byteCells] using hI2
      case measure => simp [intOf]; omega
    · have hk2 : k = l.length := by omega
      subst hk2
      rw [List.take_length] at hI
      go_wp2_with (go_at_call 42; refine (Tryd.Builder_String_any_k w.heap.size w.heap.size _ _ hI (by omega)).mono ?_)
      rintro e w1 ⟨rfl, -, hb1, -⟩
      go_wp2
      go_ret
      exact ⟨rfl, hbw.trans hb1⟩

end Go.Proofs.YtkdmhflcpfekfaaDoor

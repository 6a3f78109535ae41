/- The helpers Own, Bytes, Plain, Kept on bytes: a copy with room behind it; two texts held against each other; is the copy as it was. Conditions: at most 2^40 bytes. -/
import Derived.Test.YtgjnnoamhmmcnaaDoorM1
import Derived.Deep.QuietTactic
import Derived.BigQuiet
import Derived.Lib.SlBytesRow
namespace Go.Proofs.YtgjnnoamhmmcnaaDoor
set_option linter.unusedVariables false
set_option linter.unusedSimpArgs false
open Go.RowKit

/-- The cells of a copy: the bytes, k times the sign, and what lay behind. -/
def ownCells (l : List UInt8) (f : Int) (k : Nat) (z : List Value) : List Value := Lib.byteCells l ++ (List.replicate k (.int .u8 f) ++ z.drop k)

theorem ownCells_next (l : List UInt8) (f : Int) {k : Nat} (z : List Value) (hz : z.length = 3) (hk : k < 3) :
    (ownCells l f k z).toArray.setIfInBounds (l.length + k) (.int .u8 f) = (ownCells l f (k + 1) z).toArray := by
  apply Array.ext'
  simp only [Array.toList_setIfInBounds, ownCells]
  rw [List.set_append_right _ _ (by rw [Lib.byteCells_length]; omega), Lib.byteCells_length, show l.length + k - l.length = k by omega,
    List.set_append_right _ _ (by simp), List.length_replicate, Nat.sub_self, show z.drop k = z[k] :: z.drop (k + 1) from List.drop_eq_getElem_cons (by omega), List.set_cons_zero]
  simp [List.replicate_succ']

set_option maxRecDepth 100000 in
set_option maxHeartbeats 1000000 in
theorem own_bytes (p : Option Addr) (l : List UInt8) (cap : Nat) (f : Int) (w : World) (hl : l.length ≤ 1099511627776) (h : Rd w p l) :
    Calls Tryd.prog 8 #[.slice p l.length cap, .int .u8 f] w fun e w' => e = .returned (.slice (some ⟨w.heap.size, 0, none⟩) l.length (l.length + 3)) ∧
      w'.heap[w.heap.size]? = some (.cells (Lib.byteCells l ++ [Value.int .u8 f, Value.int .u8 f, Value.int .u8 f]).toArray 5 (0, 0)) ∧ Grew w w' := by
  obtain ⟨i0, hi, hz0, hz1, hz2⟩ := info_parts infoU8'
  obtain ⟨C, hC, hmk⟩ := make_bytes (l.length + 3) (by omega) w
  rw [show ((l.length + 3 : Nat) : Int) = (l.length : Int) + 3 from by omega] at hmk
  have hblk : (w.alloc (.cells C 5)).heap[w.heap.size]? = some (.cells C 5 (0, 0)) := heap_alloc_new w _
  have hbi : Below w.heap.size w (w.alloc (.cells C 5)) := (Below.refl _ w).alloc (Nat.le_refl _) _
  have hRd := h.below hbi (Nat.le_refl _)
  obtain ⟨w2, hap, hb2, hg2, hs2⟩ := append_room 23 23 5 i0 Tryd.underlying23 hi hz1 _ w.heap.size 0 (l.length + 3) C hblk p l cap hRd (by omega) hC
  have hbw2 := hbi.grown hg2 (by simp) (fun k hk => by cases hk; exact Nat.le_refl _)
  rw [Nat.zero_add] at hap hb2
  obtain ⟨z, hz⟩ : ∃ z, C.toList.drop l.length = z := ⟨_, rfl⟩
  have hz3 : z.length = 3 := by rw [← hz, List.length_drop, Array.length_toList, hC]; omega
  rw [hz, List.take_zero, List.nil_append] at hb2
  have HZ := Lib.hid hz3
  have HB := Lib.hid hb2
  clear hz hz3 hb2 hRd hC hblk hg2 hs2
  go_enter Tryd.func8, Tryd.ntmps8
  go_wp2_with (at_builtin; refine Lib.wpList_append_run_sl _ rfl _ _ 23 rfl _ _ rfl rfl hap ?_)
  go_loopw [7] (fun i wr => ∃ k : Nat, k ≤ 3 ∧ i = .int .i64 (l.length + k : Nat) ∧ wr.heap[w.heap.size]? = some (.cells (ownCells l f k z).toArray 5 (0, 0)) ∧ Below w.heap.size w wr) (fun i _ => l.length + 3 - (intOf i).toNat)
  case atStart => exact ⟨0, by omega, rfl, HB.out, hbw2⟩
  case round =>
    obtain ⟨k, hk, rfl, hout, hb⟩ := hrel
    clear hbw2 hbi hmk hap HB
    by_cases hlt : k < 3
    · have hnx := ownCells_next l f z HZ.out hlt
      obtain ⟨o, hold⟩ : ∃ o, wr.cell? ⟨w.heap.size, l.length + k, none⟩ = some o := by
        rw [cell_of_row wr _ (l.length + k) _ _ (0, 0) hout]
        refine ⟨_, Array.getElem?_eq_getElem ?_⟩
        have := HZ.out
        simp [ownCells, Lib.byteCells_length]; omega
      have hfz := frozen_of_row wr w.heap.size (l.length + k) _ _ hout
      have hout' := heap_setCell_same wr w.heap.size (l.length + k) _ _ (.int .u8 f) hout
      rw [hnx] at hout'
      have hb' : Below w.heap.size w (wr.setCell ⟨w.heap.size, l.length + k, none⟩ (.int .u8 f)) := hb.setCell (p := ⟨w.heap.size, l.length + k, none⟩) (Nat.le_refl _) _
      clear hnx hout hb
      go_wp2
      go_roundw
      case rel => exact ⟨k + 1, by omega, by go_num, hout', hb'⟩
      case measure => simp [intOf]; omega
    · have hk3 : k = 3 := by omega
      subst hk3
      have hfin : ownCells l f 3 z = Lib.byteCells l ++ [Value.int .u8 f, Value.int .u8 f, Value.int .u8 f] := by
        simp [ownCells, List.drop_of_length_le (Nat.le_of_eq HZ.out)]
      rw [hfin] at hout
      have HO := Lib.hid hout
      clear hfin hout
      go_wp2
      go_ret
      exact ⟨rfl, HO.out, hb⟩

set_option maxRecDepth 100000 in
set_option maxHeartbeats 1000000 in
theorem help_Bytes (p q : Option Addr) (l m : List UInt8) (c d : Nat) (w : World) (h1 : Rd w p l) (h2 : Rd w q m) :
    Calls Tryd.prog 13 #[.slice p l.length c, .slice q m.length d] w fun e w' => e = .returned (.bool (l == m)) ∧ w = w' := by
  have k1 := conv_string c h1
  have k2 := conv_string d h2
  go_enter Tryd.func13, Tryd.ntmps13
  go_wp2
  go_ret
  exact ⟨rfl, rfl⟩

theorem eq_byte (a b : Int) (w : World) :
    Calls Tryd.prog 41 #[.int .u8 a, .int .u8 b] w fun e w' => e = .returned (.bool (a == b)) ∧ w' = w := by
  go_enter Tryd.func41, Tryd.ntmps41
  go_wp2
  go_ret
  exact ⟨rfl, rfl⟩

set_option maxRecDepth 100000 in
set_option maxHeartbeats 1000000 in
/-- Same over bytes, by equality: of two equal texts: true; the world draws at most. -/
theorem same_bytes_eq (p q : Option Addr) (l : List UInt8) (c d : Nat) (w : World) (hl : l.length ≤ 1099511627776) (h1 : Rd w p l) (h2 : Rd w q l) :
    Calls Tryd.prog 40 #[.slice p l.length c, .slice q l.length d, .func (.func 41) #[] #[]] w fun e w' => e = .returned (.bool true) ∧ Grew w w' := by
  go_enter Tryd.func40, Tryd.ntmps40
  go_wp2
  go_loopw [7] (fun i wr => ∃ k : Nat, k ≤ l.length ∧ i = .int .i64 k ∧ Grew w wr) (fun i _ => l.length - (intOf i).toNat)
  case atStart => exact ⟨0, Nat.zero_le _, rfl, Below.refl _ _⟩
  case round =>
    obtain ⟨k, hk, rfl, hbw⟩ := hrel
    by_cases hlt : k < l.length
    · rcases h1 with h1 | ⟨b, o, rfl, hb, hc⟩
      · subst h1; simp at hlt
      rcases h2 with h2 | ⟨b2, o2, rfl, hb2, hc2⟩
      · subst h2; simp at hlt
      have c1 := (hbw.cell (p := ⟨b, o + k, none⟩) hb).trans (hc k hlt)
      have c2 := (hbw.cell (p := ⟨b2, o2 + k, none⟩) hb2).trans (hc2 k hlt)
      clear hc hc2
      obtain ⟨x, hx⟩ : ∃ x, ((l.getD k 0).toNat : Int) = x := ⟨_, rfl⟩
      rw [hx] at c1 c2
      clear hx
      have hxx : (x == x) = true := by simp
      have he := eq_byte x x
      rw [hxx] at he
      clear hxx
      go_wp2_with fail
      go_quiet ((go_at_call 41; exact Calls.quiet_of_same (he _)))
      go_wp2
      go_roundw
      case rel => exact ⟨k + 1, by omega, by go_num, Grew.drewN hbw _⟩
      case measure => simp [intOf]; omega
    · go_wp2
      go_ret
      exact ⟨rfl, hbw⟩

set_option maxRecDepth 100000 in
set_option maxHeartbeats 1000000 in
theorem plain_bytes_eq (p q : Option Addr) (l : List UInt8) (c d : Nat) (w : World) (hl : l.length ≤ 1099511627776) (h1 : Rd w p l) (h2 : Rd w q l) :
    Calls Tryd.prog 30 #[.slice p l.length c, .slice q l.length d] w fun e w' => e = .returned (.bool true) ∧ Grew w w' := by
  go_enter Tryd.func30, Tryd.ntmps30
  go_wp2_with (go_at_call 40; refine (same_bytes_eq p q l c d _ hl h1 h2).mono ?_)
  rintro e w1 ⟨rfl, hb⟩
  go_wp2
  go_ret
  exact ⟨rfl, hb⟩

set_option maxRecDepth 100000 in
set_option maxHeartbeats 1000000 in
/-- Kept of a copy that stands as it was made: true. -/
theorem kept_bytes (g : Nat) (q : Option Addr) (l : List UInt8) (d : Nat) (f : Int) (w : World) (hl : l.length ≤ 1099511627776)
    (hg : w.heap[g]? = some (.cells (Lib.byteCells l ++ [Value.int .u8 f, Value.int .u8 f, Value.int .u8 f]).toArray 5 (0, 0))) (h2 : Rd w q l) :
    Calls Tryd.prog 16 #[.slice (some ⟨g, 0, none⟩) l.length (l.length + 3), .slice q l.length d, .int .u8 f] w fun e w' => e = .returned (.bool true) ∧ Grew w w' := by
  have hlt := (Array.getElem?_eq_some_iff.1 hg).1
  have hr : Rd w (some ⟨g, 0, none⟩) l := .inr ⟨g, 0, rfl, hlt, fun i hi => by
    rw [cell_of_row w g _ _ _ (0, 0) hg]
    simp only [List.getElem?_toArray, Nat.zero_add]
    rw [List.getElem?_append_left (by rw [Lib.byteCells_length]; exact hi), byteCells_getElem?, List.getD_eq_getElem?_getD, List.getElem?_eq_getElem hi]; rfl⟩
  have hc : ∀ k, k < 3 → w.cell? ⟨g, l.length + k, none⟩ = some (.int .u8 f) := fun k hk => by
    rw [cell_of_row w g _ _ _ (0, 0) hg]
    have : k = 0 ∨ k = 1 ∨ k = 2 := by omega
    rcases this with rfl | rfl | rfl <;> simp [List.getElem?_append_right, Lib.byteCells_length]
  have HC := Lib.hid hc
  clear hc hg
  go_enter Tryd.func16, Tryd.ntmps16
  go_wp2_with (go_at_call 30; refine (plain_bytes_eq _ q l _ d _ hl hr h2).mono ?_)
  rintro e w1 ⟨rfl, hb⟩
  clear hr h2
  go_wp2
  go_loopw [8] (fun i wr => ∃ k : Nat, k ≤ 3 ∧ i = .int .i64 (l.length + k : Nat) ∧ Grew w wr) (fun i _ => l.length + 3 - (intOf i).toNat)
  case atStart => exact ⟨0, by omega, rfl, hb⟩
  case round =>
    obtain ⟨k, hk, rfl, hbw⟩ := hrel
    clear hb
    by_cases hlt3 : k < 3
    · have c1 := (hbw.cell (p := ⟨g, l.length + k, none⟩) hlt).trans (HC.out k hlt3)
      have hff : (f != f) = false := by simp
      go_wp2
      go_roundw
      case rel => exact ⟨k + 1, by omega, by go_num, hbw⟩
      case measure => simp [intOf]; omega
    · have hk3 : k = 3 := by omega
      subst hk3
      go_wp2
      go_ret
      exact ⟨rfl, hbw⟩

end Go.Proofs.YtgjnnoamhmmcnaaDoor

/- sha.schedule: the words of all rounds of a block. Conditions: the block has 64 bytes. -/
import Derived.Test.YtdlhabldjdkfbaaDoorSha2
import Derived.Test.YtdlhabldjdkfbaaDoorFrozen
import Derived.Deep.RegionHeldLaw
namespace Go.Proofs.YtdlhabldjdkfbaaDoor
set_option linter.unusedVariables false
set_option linter.unusedSimpArgs false
open Go.RowKit

abbrev tW80 : TypeId := 62
def wCells (l : List UInt32) : List Value := l.map u32V
/-- The first words, and zeros behind. -/
def arr80 (bl : List UInt8) (k : Nat) : List Value := wCells (Pure.sched bl k) ++ List.replicate (80 - k) (.int .u32 0)
theorem arr80_len (bl : List UInt8) (k : Nat) (hk : k ≤ 80) : (arr80 bl k).length = 80 := by
  unfold arr80 wCells
  simp [Pure.sched_len]
  omega
theorem arr80_get (bl : List UInt8) (k j : Nat) (hj : j < k) : (arr80 bl k)[j]? = some (u32V ((Pure.sched bl k).getD j 0)) := by
  unfold arr80 wCells
  rw [List.getElem?_append_left (by simp [Pure.sched_len]; exact hj), List.getElem?_map, List.getD_eq_getElem?_getD, List.getElem?_eq_getElem (by rw [Pure.sched_len]; exact hj)]
  rfl
theorem arr80_next (bl : List UInt8) (k : Nat) (hk : k < 80) (x : UInt32) (hx : Pure.sched bl (k + 1) = Pure.sched bl k ++ [x]) : (arr80 bl k).toArray.setIfInBounds k (u32V x) = (arr80 bl (k + 1)).toArray := by
  apply Array.ext'
  simp only [Array.toList_setIfInBounds]
  have e : 80 - k = (80 - (k + 1)) + 1 := by omega
  have hl : (wCells (Pure.sched bl k)).length = k := by simp [wCells, Pure.sched_len]
  unfold arr80
  rw [e, List.replicate_succ, hx]
  rw [List.set_append_right _ _ (by omega), hl, Nat.sub_self]
  simp [wCells]
theorem arr80_one (bl : List UInt8) (k : Nat) : ∀ v ∈ arr80 bl k, v.oneCell' = true := by
  intro v hv
  unfold arr80 wCells at hv
  simp only [List.mem_append, List.mem_map, List.mem_replicate] at hv
  rcases hv with ⟨x, -, rfl⟩ | ⟨-, rfl⟩ <;> rfl
theorem infoW80 : (Tryd.prog.info? tW80).map (·.size) = some 80 := by kernel_rfl

theorem zero80 (l : List UInt8) : Tryd.zeroCells62 = (arr80 l 0).toArray := by
  have h : arr80 l 0 = List.replicate 80 (.int .u32 0) := rfl
  rw [h]
  exact rfl

set_option maxRecDepth 100000 in
set_option maxHeartbeats 4000000 in
theorem sha_schedule (p : Option Addr) (l : List UInt8) (cap : Nat) (w : World) (hl : l.length = 64) (hcap : 64 ≤ cap) (hcm : cap ≤ 9223372036854775807) (hr : Rd w p l) :
    Calls Tryd.prog 43 #[.slice p 64 cap] w fun e w' => e = .returned (.agg (wCells (Pure.sched l 80)).toArray) ∧ Grew w w' := by
  rcases hr with hr | ⟨b, o, rfl, hlt, hcell⟩
  · rw [hr] at hl; simp at hl
  have hzc : Tryd.zeroCells62 = (arr80 l 0).toArray := zero80 l
  obtain ⟨V0, hV0⟩ : ∃ V0, w.alloc (.cells Tryd.zeroCells62 tW80) = V0 := ⟨_, rfl⟩
  have g0 : Grew w V0 := by rw [← hV0]; exact (Below.refl _ _).alloc (Nat.le_refl _) _
  have hg0 : V0.heap.size = w.heap.size + 1 := by rw [← hV0]; simp
  have hres : V0.heap[w.heap.size]? = some (.cells (arr80 l 0).toArray tW80 (0, 0)) := by rw [← hV0, ← hzc]; exact heap_alloc_new w _
  have gVA := (Below.refl _ _ : Grew V0 V0).alloc (Nat.le_refl _) (.cells Tryd.zeroCells62 tW80)
  have hA := heap_alloc_new V0 (.cells Tryd.zeroCells62 tW80)
  rw [hg0] at hA
  have HCE := Lib.hid hcell
  have HL := Lib.hid hl
  have HZ := Lib.hid hzc
  clear hcell hl hzc
  go_enter Tryd.func43, Tryd.ntmps43
  go_wp2
  obtain ⟨g, hg⟩ : ∃ g, w.heap.size + 1 = g := ⟨_, rfl⟩
  rw [hg] at hg0 hA ⊢
  go_loopw [5] (fun i wr => ∃ k : Nat, k ≤ 80 ∧ i = .int .i64 (k : Int) ∧ Grew V0 wr ∧ wr.heap[g]? = some (.cells (arr80 l k).toArray tW80 (0, 0))) (fun i _ => 80 - (intOf i).toNat)
  case atStart => exact ⟨0, by omega, rfl, gVA, by rw [← HZ.out]; exact hA⟩
  case round =>
    obtain ⟨k, hk, rfl, hb, hblk⟩ := hrel
    clear hA gVA
    by_cases hk80 : k < 80
    · have f1 : decide ((k : Int) < 80) = true := decide_eq_true (by omega)
      have hgl := (Array.getElem?_eq_some_iff.1 hblk).1
      by_cases hk16 : k < 16
      · have f2 : decide ((k : Int) < 16) = true := decide_eq_true (by omega)
        have hce : ¬ cap = 4 * k := by omega
        have hbl : b < V0.heap.size := Nat.lt_of_lt_of_le hlt g0.size
        have hrd : ∀ W, Grew V0 W → Rd W (some ⟨b, o + 4 * k, none⟩) (l.drop (4 * k)) := by
          intro W gW
          refine .inr ⟨b, o + 4 * k, rfl, by have := gW.size; omega, fun i hi => ?_⟩
          rw [List.length_drop] at hi
          have h1 := (gW.cell (p := ⟨b, o + (4 * k + i), none⟩) hbl).trans ((g0.cell (p := ⟨b, o + (4 * k + i), none⟩) hlt).trans (HCE.out (4 * k + i) (by omega)))
          rw [show o + 4 * k + i = o + (4 * k + i) by omega, h1]
          simp [List.getD_eq_getElem?_getD, List.getElem?_drop]
        have cW := (fun W (gW : Grew V0 W) => sha_word (some ⟨b, o + 4 * k, none⟩) (l.drop (4 * k)) (cap - 4 * k) W (by rw [List.length_drop, HL.out]; omega) (hrd W gW) : ∀ W, Grew V0 W → _)
        rw [List.length_drop, HL.out] at cW
        obtain ⟨x, hx⟩ : ∃ x, Pure.word4 (l.drop (4 * k)) = x := ⟨_, rfl⟩
        rw [hx] at cW
        have hnx : Pure.sched l (k + 1) = Pure.sched l k ++ [x] := by
          rw [Pure.sched_lo l k hk16, hx]
        have hset := arr80_next l k hk80 x hnx
        have HSET := Lib.hid hset
        have hcellk : ∃ v, (arr80 l k)[k]? = some v := ⟨_, List.getElem?_eq_getElem (by rw [arr80_len l k hk]; exact hk80)⟩
        obtain ⟨v0, hv0⟩ := hcellk
        have HV := Lib.hid hv0
        clear hset hnx hx hv0 hrd
        go_wp2_with (go_at_call 53; with_reducible refine (cW _ (by assumption)).mono ?_)
        rintro e1 W1 ⟨rfl, g1⟩
        have hblk1 := (g1.block g hgl).trans hblk
        have hck : W1.cell? ⟨g, k, none⟩ = some v0 := by rw [cell_of_row W1 g k _ _ (0, 0) hblk1]; simpa using HV.out
        have hfk : W1.frozen? ⟨g, k, none⟩ = false := by simp [World.frozen?, hblk1]
        have hset2 := set_cell_any W1 g k _ _ _ (u32V x) hblk1
        rw [HSET.out] at hset2
        have hgrow : Grew V0 (W1.setCell ⟨g, k, none⟩ (u32V x)) := (hb.trans' g1).setCell (p := ⟨g, k, none⟩) (by show V0.heap.size ≤ g; omega) _
        clear hblk hblk1
        go_wp2
        go_roundw
        case rel => exact ⟨k + 1, by omega, by go_num, hgrow, hset2⟩
        case measure => simp [intOf]; omega
      · obtain ⟨m, rfl⟩ : ∃ m, k = m + 16 := ⟨k - 16, by omega⟩
        have f2 : decide (((m + 16 : Nat) : Int) < 16) = false := decide_eq_false (by omega)
        have f2' : decide ((m : Int) + 16 < 16) = false := decide_eq_false (by omega)
        have f1' : decide ((m : Int) + 16 < 80) = true := decide_eq_true (by omega)
        have hnx := Pure.sched_hi l (m + 16) hk16
        rw [show m + 16 - 3 = m + 13 by omega, show m + 16 - 8 = m + 8 by omega, show m + 16 - 14 = m + 2 by omega, show m + 16 - 16 = m by omega] at hnx
        have hc : ∀ j, j < m + 16 → wr.cell? ⟨g, j, none⟩ = some (u32V ((Pure.sched l (m + 16)).getD j 0)) := by
          intro j hj
          rw [cell_of_row wr g j _ _ (0, 0) hblk]
          simpa using arr80_get l (m + 16) j hj
        obtain ⟨x3, h3⟩ : ∃ x, (Pure.sched l (m + 16)).getD (m + 13) 0 = x := ⟨_, rfl⟩
        obtain ⟨x8, h8⟩ : ∃ x, (Pure.sched l (m + 16)).getD (m + 8) 0 = x := ⟨_, rfl⟩
        obtain ⟨x14, h14⟩ : ∃ x, (Pure.sched l (m + 16)).getD (m + 2) 0 = x := ⟨_, rfl⟩
        obtain ⟨x16, h16⟩ : ∃ x, (Pure.sched l (m + 16)).getD m 0 = x := ⟨_, rfl⟩
        rw [h3, h8, h14, h16] at hnx
        obtain ⟨y1, hy1⟩ : ∃ y, x3 ^^^ x8 = y := ⟨_, rfl⟩
        obtain ⟨y2, hy2⟩ : ∃ y, y1 ^^^ x14 = y := ⟨_, rfl⟩
        obtain ⟨y3, hy3⟩ : ∃ y, y2 ^^^ x16 = y := ⟨_, rfl⟩
        obtain ⟨y, hy⟩ : ∃ y, Pure.rotl y3 (UInt32.ofNat 1) = y := ⟨_, rfl⟩
        have e1 := w_xor x3 x8
        rw [hy1] at e1
        have e2 := w_xor y1 x14
        rw [hy2] at e2
        have e3 := w_xor y2 x16
        rw [hy3] at e3
        rw [hy1, hy2, hy3, show Pure.rotl y3 1 = y from hy] at hnx
        have cL : ∀ W, Calls Tryd.prog 44 #[.int .u32 (y3.toNat : Int), .int .i64 1] W fun e w' => e = .returned (u32V (Pure.rotl y3 (UInt32.ofNat 1))) ∧ W = w' := fun W => bits_left y3 1 (.inl rfl) W
        rw [hy] at cL
        have c3 := hc (m + 13) (by omega)
        have c8 := hc (m + 8) (by omega)
        have c14 := hc (m + 2) (by omega)
        have c16 := hc m (by omega)
        rw [h3] at c3
        rw [h8] at c8
        rw [h14] at c14
        rw [h16] at c16
        have hset := arr80_next l (m + 16) hk80 y hnx
        have hset2 := set_cell_any wr.drew g (m + 16) _ _ _ (u32V y) (show wr.drew.heap[g]? = _ from hblk)
        rw [hset] at hset2
        have hgrow : Grew V0 (wr.drew.setCell ⟨g, m + 16, none⟩ (u32V y)) := (hb.drew).setCell (p := ⟨g, m + 16, none⟩) (by show V0.heap.size ≤ g; omega) _
        obtain ⟨v0, hv0⟩ : ∃ v, (arr80 l (m + 16))[m + 16]? = some v := ⟨_, List.getElem?_eq_getElem (by rw [arr80_len l _ hk]; exact hk80)⟩
        have hck : wr.cell? ⟨g, m + 16, none⟩ = some v0 := by rw [cell_of_row wr g _ _ _ (0, 0) hblk]; simpa using hv0
        have hfk : wr.frozen? ⟨g, m + 16, none⟩ = false := by simp [World.frozen?, hblk]
        have hck' : wr.drew.cell? ⟨g, m + 16, none⟩ = some v0 := hck
        have hfk' : wr.drew.frozen? ⟨g, m + 16, none⟩ = false := hfk
        have hS0 : (fun w' => Grew V0 w' ∧ w'.cell? ⟨g, m + 13, none⟩ = some (u32V x3) ∧ w'.cell? ⟨g, m + 8, none⟩ = some (u32V x8) ∧ w'.cell? ⟨g, m + 2, none⟩ = some (u32V x14) ∧ w'.cell? ⟨g, m, none⟩ = some (u32V x16)) wr.drew := ⟨hb.drew, c3, c8, c14, c16⟩
        have hnew : ∀ j x, j < m + 16 → (Pure.sched l (m + 16)).getD j 0 = x → (wr.drew.setCell ⟨g, m + 16, none⟩ (u32V y)).cell? ⟨g, j, none⟩ = some (u32V x) := by
          intro j x hj hx
          rw [cell_of_row _ g j _ _ (0, 0) hset2]
          have h1 := arr80_get l (m + 16 + 1) j (by omega)
          rw [hnx, List.getD_eq_getElem?_getD, List.getElem?_append_left (by rw [Pure.sched_len]; exact hj), ← List.getD_eq_getElem?_getD, hx] at h1
          simpa using h1
        have hS9 : (fun w' => Grew V0 w' ∧ w'.cell? ⟨g, m + 13, none⟩ = some (u32V x3) ∧ w'.cell? ⟨g, m + 8, none⟩ = some (u32V x8) ∧ w'.cell? ⟨g, m + 2, none⟩ = some (u32V x14) ∧ w'.cell? ⟨g, m, none⟩ = some (u32V x16)) (wr.drew.setCell ⟨g, m + 16, none⟩ (u32V y)) := ⟨hgrow, hnew _ _ (by omega) h3, hnew _ _ (by omega) h8, hnew _ _ (by omega) h14, hnew _ _ (by omega) h16⟩
        have i13 : (m : Int) + 13 < 80 := by omega
        have i8 : (m : Int) + 8 < 80 := by omega
        have i2 : (m : Int) + 2 < 80 := by omega
        have i0 : (m : Int) < 80 := by omega
        have i16 : (m : Int) + 16 < 80 := by omega
        have s3 : (m : Int) + 16 - 3 = (m : Int) + 13 := by omega
        have s8 : (m : Int) + 16 - 8 = (m : Int) + 8 := by omega
        have s14 : (m : Int) + 16 - 14 = (m : Int) + 2 := by omega
        have w13 : IntKind.i64.wrap ((m : Int) + 13) = (m : Int) + 13 := IntWalk.i64_in _ (by omega)
        have w8 : IntKind.i64.wrap ((m : Int) + 8) = (m : Int) + 8 := IntWalk.i64_in _ (by omega)
        have w2 : IntKind.i64.wrap ((m : Int) + 2) = (m : Int) + 2 := IntWalk.i64_in _ (by omega)
        have w0 : IntKind.i64.wrap (m : Int) = (m : Int) := IntWalk.i64_in _ (by omega)
        have j13 : (0 : Int) ≤ (m : Int) + 13 := by omega
        have n13 : ((m : Int) + 13).toNat = m + 13 := by omega
        have j8 : (0 : Int) ≤ (m : Int) + 8 := by omega
        have n8 : ((m : Int) + 8).toNat = m + 8 := by omega
        have j2 : (0 : Int) ≤ (m : Int) + 2 := by omega
        have n2 : ((m : Int) + 2).toNat = m + 2 := by omega
        have j16 : (0 : Int) ≤ (m : Int) + 16 := by omega
        have n16 : ((m : Int) + 16).toNat = m + 16 := by omega
        have HSET2 := Lib.hid hset2
        clear hset hset2 hnx hnew hc h3 h8 h14 h16 hy1 hy2 hy3 hy hblk hv0
        go_wp2
        refine wp_region_held_drew (S := fun w' => Grew V0 w' ∧ w'.cell? ⟨g, m + 13, none⟩ = some (u32V x3) ∧ w'.cell? ⟨g, m + 8, none⟩ = some (u32V x8) ∧ w'.cell? ⟨g, m + 2, none⟩ = some (u32V x14) ∧ w'.cell? ⟨g, m, none⟩ = some (u32V x16)) (by kernel_rfl) (by (first | assumption | exact hS0 | exact hS9)) (fun hHeld => ?_)
        first
          | (refine wpAnyH_take (i := 0) (v := ?_) rfl (by kernel_rfl) (by kernel_rfl) (by kernel_rfl) (fun _ _ _ h => h) (Or.inl ⟨by rfl, ?_⟩) (by assumption) ?_; rotate_left 1; focus (intro w hSw; (obtain ⟨hS1, z13, z8, z2, z0⟩ := hSw); go_simp; (try with_reducible rfl)))
          | fail
        try simp only [Act.put, List.getElem_toArray, List.getElem_cons_succ, List.getElem_cons_zero, List.setIfInBounds_toArray, List.set_cons_zero, List.set_cons_succ]
        first
          | (refine wpAnyH_take (i := 1) (v := ?_) rfl (by kernel_rfl) (by kernel_rfl) (by kernel_rfl) (fun _ _ _ h => h) (Or.inl ⟨by rfl, ?_⟩) (by assumption) ?_; rotate_left 1; focus (intro w hSw; (obtain ⟨hS1, z13, z8, z2, z0⟩ := hSw); go_simp; (try with_reducible rfl)))
          | fail
        try simp only [Act.put, List.getElem_toArray, List.getElem_cons_succ, List.getElem_cons_zero, List.setIfInBounds_toArray, List.set_cons_zero, List.set_cons_succ]
        first
          | (refine wpAnyH_take (i := 2) (v := ?_) rfl (by kernel_rfl) (by kernel_rfl) (by kernel_rfl) (fun _ _ _ h => h) (Or.inl ⟨by rfl, ?_⟩) (by assumption) ?_; rotate_left 1; focus (intro w hSw; (obtain ⟨hS1, z13, z8, z2, z0⟩ := hSw); go_simp; (try with_reducible rfl)))
          | fail
        try simp only [Act.put, List.getElem_toArray, List.getElem_cons_succ, List.getElem_cons_zero, List.setIfInBounds_toArray, List.set_cons_zero, List.set_cons_succ]
        first
          | (refine wpAnyH_take (i := 3) (v := ?_) rfl (by kernel_rfl) (by kernel_rfl) (by kernel_rfl) (fun _ _ _ h => h) (Or.inl ⟨by rfl, ?_⟩) (by assumption) ?_; rotate_left 1; focus (intro w hSw; (obtain ⟨hS1, z13, z8, z2, z0⟩ := hSw); go_simp; (try with_reducible rfl)))
          | fail
        try simp only [Act.put, List.getElem_toArray, List.getElem_cons_succ, List.getElem_cons_zero, List.setIfInBounds_toArray, List.set_cons_zero, List.set_cons_succ]
        first
          | (refine wpAnyH_take (i := 4) (v := ?_) rfl (by kernel_rfl) (by kernel_rfl) (by kernel_rfl) (fun _ _ _ h => h) (Or.inl ⟨by rfl, ?_⟩) (by assumption) ?_; rotate_left 1; focus (intro w hSw; (obtain ⟨hS1, z13, z8, z2, z0⟩ := hSw); go_simp; (try with_reducible rfl)))
          | fail
        try simp only [Act.put, List.getElem_toArray, List.getElem_cons_succ, List.getElem_cons_zero, List.setIfInBounds_toArray, List.set_cons_zero, List.set_cons_succ]
        first
          | (refine wpAnyH_take (i := 5) (v := ?_) rfl (by kernel_rfl) (by kernel_rfl) (by kernel_rfl) (fun _ _ _ h => h) (Or.inl ⟨by rfl, ?_⟩) (by assumption) ?_; rotate_left 1; focus (intro w hSw; (obtain ⟨hS1, z13, z8, z2, z0⟩ := hSw); go_simp; (try with_reducible rfl)))
          | fail
        try simp only [Act.put, List.getElem_toArray, List.getElem_cons_succ, List.getElem_cons_zero, List.setIfInBounds_toArray, List.set_cons_zero, List.set_cons_succ]
        first
          | (refine wpAnyH_take (i := 6) (v := ?_) rfl (by kernel_rfl) (by kernel_rfl) (by kernel_rfl) (fun _ _ _ h => h) (Or.inl ⟨by rfl, ?_⟩) (by assumption) ?_; rotate_left 1; focus (intro w hSw; (obtain ⟨hS1, z13, z8, z2, z0⟩ := hSw); go_simp; (try with_reducible rfl)))
          | fail
        try simp only [Act.put, List.getElem_toArray, List.getElem_cons_succ, List.getElem_cons_zero, List.setIfInBounds_toArray, List.set_cons_zero, List.set_cons_succ]
        first
          | (refine wpAnyH_take (i := 7) (v := ?_) rfl (by kernel_rfl) (by kernel_rfl) (by kernel_rfl) (fun _ _ _ h => h) (Or.inl ⟨by rfl, ?_⟩) (by assumption) ?_; rotate_left 1; focus (intro w hSw; (obtain ⟨hS1, z13, z8, z2, z0⟩ := hSw); go_simp; (try with_reducible rfl)))
          | fail
        try simp only [Act.put, List.getElem_toArray, List.getElem_cons_succ, List.getElem_cons_zero, List.setIfInBounds_toArray, List.set_cons_zero, List.set_cons_succ]
        first
          | (refine wpAnyH_take (i := 8) (v := ?_) rfl (by kernel_rfl) (by kernel_rfl) (by kernel_rfl) (fun _ _ _ h => h) (Or.inl ⟨by rfl, ?_⟩) (by assumption) ?_; rotate_left 1; focus (intro w hSw; (obtain ⟨hS1, z13, z8, z2, z0⟩ := hSw); go_simp; (try with_reducible rfl)))
          | fail
        try simp only [Act.put, List.getElem_toArray, List.getElem_cons_succ, List.getElem_cons_zero, List.setIfInBounds_toArray, List.set_cons_zero, List.set_cons_succ]
        first
          | (refine wpAnyH_take (i := 9) (v := ?_) rfl (by kernel_rfl) (by kernel_rfl) (by kernel_rfl) (fun _ _ _ h => h) (Or.inl ⟨by rfl, ?_⟩) (by assumption) ?_; rotate_left 1; focus (intro w hSw; (obtain ⟨hS1, z13, z8, z2, z0⟩ := hSw); go_simp; (try with_reducible rfl)))
          | fail
        try simp only [Act.put, List.getElem_toArray, List.getElem_cons_succ, List.getElem_cons_zero, List.setIfInBounds_toArray, List.set_cons_zero, List.set_cons_succ]
        first
          | (refine wpAnyH_take (i := 10) (v := ?_) rfl (by kernel_rfl) (by kernel_rfl) (by kernel_rfl) (fun _ _ _ h => h) (Or.inl ⟨by rfl, ?_⟩) (by assumption) ?_; rotate_left 1; focus (intro w hSw; (obtain ⟨hS1, z13, z8, z2, z0⟩ := hSw); go_simp; (try with_reducible rfl)))
          | fail
        try simp only [Act.put, List.getElem_toArray, List.getElem_cons_succ, List.getElem_cons_zero, List.setIfInBounds_toArray, List.set_cons_zero, List.set_cons_succ]
        first
          | (refine wpAnyH_take (i := 11) (v := ?_) rfl (by kernel_rfl) (by kernel_rfl) (by kernel_rfl) (fun _ _ _ h => h) (Or.inl ⟨by rfl, ?_⟩) (by assumption) ?_; rotate_left 1; focus (intro w hSw; (obtain ⟨hS1, z13, z8, z2, z0⟩ := hSw); go_simp; (try with_reducible rfl)))
          | fail
        try simp only [Act.put, List.getElem_toArray, List.getElem_cons_succ, List.getElem_cons_zero, List.setIfInBounds_toArray, List.set_cons_zero, List.set_cons_succ]
        first
          | (refine wpAnyH_take (i := 12) (v := ?_) rfl (by kernel_rfl) (by kernel_rfl) (by kernel_rfl) (fun _ _ _ h => h) (Or.inl ⟨by rfl, ?_⟩) (by assumption) ?_; rotate_left 1; focus (intro w hSw; (obtain ⟨hS1, z13, z8, z2, z0⟩ := hSw); go_simp; (try with_reducible rfl)))
          | fail
        try simp only [Act.put, List.getElem_toArray, List.getElem_cons_succ, List.getElem_cons_zero, List.setIfInBounds_toArray, List.set_cons_zero, List.set_cons_succ]
        first
          | (refine wpAnyH_take (i := 13) (v := ?_) rfl (by kernel_rfl) (by kernel_rfl) (by kernel_rfl) (fun _ _ _ h => h) (Or.inl ⟨by rfl, ?_⟩) (by assumption) ?_; rotate_left 1; focus (intro w hSw; (obtain ⟨hS1, z13, z8, z2, z0⟩ := hSw); go_simp; (try with_reducible rfl)))
          | fail
        try simp only [Act.put, List.getElem_toArray, List.getElem_cons_succ, List.getElem_cons_zero, List.setIfInBounds_toArray, List.set_cons_zero, List.set_cons_succ]
        first
          | (refine wpAnyH_take (i := 14) (v := ?_) rfl (by kernel_rfl) (by kernel_rfl) (by kernel_rfl) (fun _ _ _ h => h) (Or.inl ⟨by rfl, ?_⟩) (by assumption) ?_; rotate_left 1; focus (intro w hSw; (obtain ⟨hS1, z13, z8, z2, z0⟩ := hSw); go_simp; (try with_reducible rfl)))
          | fail
        try simp only [Act.put, List.getElem_toArray, List.getElem_cons_succ, List.getElem_cons_zero, List.setIfInBounds_toArray, List.set_cons_zero, List.set_cons_succ]
        first
          | (refine wpAnyH_take (i := 15) (v := ?_) rfl (by kernel_rfl) (by kernel_rfl) (by kernel_rfl) (fun _ _ _ h => h) (Or.inl ⟨by rfl, ?_⟩) (by assumption) ?_; rotate_left 1; focus (intro w hSw; (obtain ⟨hS1, z13, z8, z2, z0⟩ := hSw); go_simp; (try with_reducible rfl)))
          | fail
        try simp only [Act.put, List.getElem_toArray, List.getElem_cons_succ, List.getElem_cons_zero, List.setIfInBounds_toArray, List.set_cons_zero, List.set_cons_succ]
        first
          | (refine wpAnyH_take (i := 16) (v := ?_) rfl (by kernel_rfl) (by kernel_rfl) (by kernel_rfl) (fun _ _ _ h => h) (Or.inl ⟨by rfl, ?_⟩) (by assumption) ?_; rotate_left 1; focus (intro w hSw; (obtain ⟨hS1, z13, z8, z2, z0⟩ := hSw); go_simp; (try with_reducible rfl)))
          | fail
        try simp only [Act.put, List.getElem_toArray, List.getElem_cons_succ, List.getElem_cons_zero, List.setIfInBounds_toArray, List.set_cons_zero, List.set_cons_succ]
        first
          | (refine wpAnyH_take (i := 17) (v := ?_) rfl (by kernel_rfl) (by kernel_rfl) (by kernel_rfl) (fun _ _ _ h => h) (Or.inl ⟨by rfl, ?_⟩) (by assumption) ?_; rotate_left 1; focus (intro w hSw; (obtain ⟨hS1, z13, z8, z2, z0⟩ := hSw); go_simp; (try with_reducible rfl)))
          | fail
        try simp only [Act.put, List.getElem_toArray, List.getElem_cons_succ, List.getElem_cons_zero, List.setIfInBounds_toArray, List.set_cons_zero, List.set_cons_succ]
        first
          | (refine wpAnyH_take (i := 18) (v := ?_) rfl (by kernel_rfl) (by kernel_rfl) (by kernel_rfl) (fun _ _ _ h => h) (Or.inl ⟨by rfl, ?_⟩) (by assumption) ?_; rotate_left 1; focus (intro w hSw; (obtain ⟨hS1, z13, z8, z2, z0⟩ := hSw); go_simp; (try with_reducible rfl)))
          | fail
        try simp only [Act.put, List.getElem_toArray, List.getElem_cons_succ, List.getElem_cons_zero, List.setIfInBounds_toArray, List.set_cons_zero, List.set_cons_succ]
        first
          | (refine wpAnyH_take (i := 19) (v := ?_) rfl (by kernel_rfl) (by kernel_rfl) (by kernel_rfl) (fun _ _ _ h => h) (Or.inl ⟨by rfl, ?_⟩) (by assumption) ?_; rotate_left 1; focus (intro w hSw; (obtain ⟨hS1, z13, z8, z2, z0⟩ := hSw); go_simp; (try with_reducible rfl)))
          | fail
        try simp only [Act.put, List.getElem_toArray, List.getElem_cons_succ, List.getElem_cons_zero, List.setIfInBounds_toArray, List.set_cons_zero, List.set_cons_succ]
        refine wpAnyH_ready (rs := [20]) (by kernel_rfl) (by simp) ?_
        refine AllReadyH.cons rfl (fun K hK => ?_) AllReadyH.nil
        go_simp
        (go_at_call 44; with_reducible refine (cL _).mono ?_; rintro e1 W1 ⟨rfl, h1⟩; subst W1)
        go_wp2_with fail
        refine hK.out _ _ (by (first | assumption | exact hS0 | exact hS9)) (fun hHeld => ?_)
        clear hK K
        try simp only [Act.put, List.getElem_toArray, List.getElem_cons_succ, List.getElem_cons_zero, List.setIfInBounds_toArray, List.set_cons_zero, List.set_cons_succ]
        first
          | (refine wpAnyH_take (i := 21) (v := ?_) rfl (by kernel_rfl) (by kernel_rfl) (by kernel_rfl) (fun _ _ _ h => h) (Or.inl ⟨by rfl, ?_⟩) (by assumption) ?_; rotate_left 1; focus (intro w hSw; (obtain ⟨hS1, z13, z8, z2, z0⟩ := hSw); go_simp; (try with_reducible rfl)))
          | fail
        try simp only [Act.put, List.getElem_toArray, List.getElem_cons_succ, List.getElem_cons_zero, List.setIfInBounds_toArray, List.set_cons_zero, List.set_cons_succ]
        refine wpAnyH_ready (rs := [22]) (by kernel_rfl) (by simp) ?_
        refine AllReadyH.cons rfl (fun K hK => ?_) AllReadyH.nil
        go_simp
        skip
        go_wp2_with fail
        refine hK.out _ _ (by (first | assumption | exact hS0 | exact hS9)) (fun hHeld => ?_)
        clear hK K
        try simp only [Act.put, List.getElem_toArray, List.getElem_cons_succ, List.getElem_cons_zero, List.setIfInBounds_toArray, List.set_cons_zero, List.set_cons_succ]
        refine wpAnyH_done (by kernel_rfl) ?_ _
        go_wp2
        go_roundw
        case rel => exact ⟨m + 16 + 1, by omega, by go_num, hgrow, HSET2.out⟩
        case measure => simp [intOf]; omega
    · obtain rfl : k = 80 := by omega
      have hrow := range_row hblk
      have hres2 := (hb.block w.heap.size (by omega)).trans hres
      have h80 : arr80 l 80 = wCells (Pure.sched l 80) := by unfold arr80; simp
      have hlen := arr80_len l 80 (by omega)
      have hone := arr80_one l 80
      have hgw := g0.trans' hb
      rw [h80] at hrow hlen hone
      simp only [List.toList_toArray] at hrow
      have hi80 : (Tryd.prog.info? tW80).map (·.size) = some (wCells (Pure.sched l 80)).length := by rw [hlen]; exact infoW80
      have hsz0 : (arr80 l 0).toArray.size = (wCells (Pure.sched l 80)).toArray.size := by simp [hlen, arr80_len l 0 (by omega)]
      obtain ⟨cs, hcs⟩ : ∃ cs, wCells (Pure.sched l 80) = cs := ⟨_, rfl⟩
      rw [hcs] at hrow hlen hone hi80 hsz0
      have HCS := Lib.hid hcs
      clear hcs
      generalize (arr80 l 0).toArray = zs at *
      have hi80' : (Tryd.prog.info? tW80).map (·.size) = some cs.toArray.size := by rw [List.size_toArray]; exact hi80
      clear hblk h80
      go_wp2_with (first | (refine wpList_load_mid rfl 62 _ rfl g 0 rfl cs _ hrow Tryd.underlying62 rfl hi80 ?_) | (refine wpList_store_row rfl 62 (.tmp 2) (.tmp 40) rfl w.heap.size cs.toArray rfl rfl 62 _ hres2 hi80' hsz0 (all_oneCell_toArray hone) ?_))
      refine bodyPost_ret (results_cell_mid Tryd.results43 _ _ w.heap.size 0 cs _ rfl (range_setRow hres2 _) Tryd.underlying62 rfl hi80) rfl ?_
      exact ⟨by rw [HCS.out], below_setRow hgw (Nat.le_refl _) _⟩

end Go.Proofs.YtdlhabldjdkfbaaDoor

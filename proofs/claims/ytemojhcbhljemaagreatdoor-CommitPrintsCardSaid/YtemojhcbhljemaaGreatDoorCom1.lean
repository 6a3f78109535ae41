/- slices.Index and slices.Contains on ids. Conditions: at most 2^30 of them. -/
import Derived.Test.YtemojhcbhljemaaGreatDoorM1
import Derived.BigQuiet
namespace Go.Proofs.YtemojhcbhljemaaGreatDoor
set_option linter.unusedVariables false
set_option linter.unusedSimpArgs false
open Go.RowKit

set_option maxRecDepth 100000 in
set_option maxHeartbeats 1000000 in
theorem slices_Index_id (p : Option Addr) (l : List (List UInt8)) (cap : Nat) (x : List UInt8) (w : World) (hx : x.length = 20) (hl : l.length ≤ 1073741824) (hok : ∀ y ∈ l, y.length = 20) (hr : RdG kId w p l) :
    Calls Tryz.prog 53 #[.slice p l.length cap, .agg (Lib.byteCells x).toArray] w fun e w' => (∃ n : Int, e = .returned (.int .i64 n) ∧ (decide (0 ≤ n) = l.contains x)) ∧ Grew w w' := by
  obtain ⟨V, hV, gV, gVV, rV⟩ := boxedG kId w x
  change w.alloc (.cells _ 23) = V at hV
  change ∀ W, Grew V W → W.rangeAt w.heap.size 0 (Lib.byteCells x) at rV
  change w.alloc (.cells (Lib.byteCells x).toArray 23) = V at hV
  have nfx := infoId' hx
  have HOK := Lib.hid hok
  have HR := Lib.hid hr
  clear hok hr
  go_enter Tryz.func53, Tryz.ntmps53
  go_wp2
  go_loopw [8] (fun i wr => ∃ k : Nat, k ≤ l.length ∧ i = .int .i64 k ∧ Grew V wr ∧ Hid ((l.take k).contains x = false)) (fun i _ => l.length - (intOf i).toNat)
  case atStart => exact ⟨0, Nat.zero_le _, rfl, gVV, by rw [List.take_zero]; rfl⟩
  case round =>
    obtain ⟨k, hk, rfl, hb, hno⟩ := hrel
    by_cases hlt : k < l.length
    · obtain ⟨y, hy⟩ : ∃ y, l[k]? = some y := ⟨_, List.getElem?_eq_getElem hlt⟩
      have hyi := HOK.out y (List.mem_of_getElem? hy)
      obtain ⟨b, o, rfl, hc⟩ := HR.out.at (by omega)
      have ry : ∀ W, Grew V W → W.rangeAt b (o + k * 20) (Lib.byteCells y) := fun W g => range_grew (range_grew (hc k y hy) gV) g
      have nfy := infoId' hyi
      have e := fun W => eql_id x y hx hyi W
      have gz := fun W op a b => guard_id op a b x y W
      have htk : l.take (k + 1) = l.take k ++ [y] := by rw [List.take_add_one, hy]; rfl
      have hmem : y ∈ l := List.mem_of_getElem? hy
      have HTK := Lib.hid htk
      have HMEM := Lib.hid hmem
      obtain ⟨B, hB⟩ : ∃ B, (x == y) = B := ⟨_, rfl⟩
      simp only [hB] at e
      have HB := Lib.hid hB
      clear hc htk hmem hB hy
      cases B with
      | false =>
        go_wp2
        refine wp_region_held_drew (S := fun w' => Grew V w') (by kernel_rfl) (by first | assumption | exact Below.drew (by assumption)) (fun hHeld => ?_)
        first
          | (refine' wpAnyH_take (i := 0) (v := _) rfl (by kernel_rfl) (by kernel_rfl) (by kernel_rfl) (fun _ _ _ h => h) (yieldsIf_load_mid (by rfl) _ _ rfl _ _ rfl _ _ (fun w hSw => (by (first | exact rV _ hSw | exact ry _ hSw))) Tryz.underlying23 rfl (by first | assumption | kernel_rfl)) (by assumption) ?_)
          | fail
        try simp only [Act.put, List.getElem_toArray, List.getElem_cons_succ, List.getElem_cons_zero, List.setIfInBounds_toArray, List.set_cons_zero, List.set_cons_succ]
        first
          | (refine wpAnyH_take (i := 1) (v := ?_) rfl (by kernel_rfl) (by kernel_rfl) (by kernel_rfl) (fun _ _ _ h => h) (Or.inl ⟨by rfl, ?_⟩) (by assumption) ?_; rotate_left 1; focus (intro w hSw; (try dsimp only at hSw); go_simp; (try with_reducible rfl)))
          | fail
        try simp only [Act.put, List.getElem_toArray, List.getElem_cons_succ, List.getElem_cons_zero, List.setIfInBounds_toArray, List.set_cons_zero, List.set_cons_succ]
        first
          | (refine wpAnyH_take (i := 2) (v := ?_) rfl (by kernel_rfl) (by kernel_rfl) (by kernel_rfl) (fun _ _ _ h => h) (Or.inl ⟨by rfl, ?_⟩) (by assumption) ?_; rotate_left 1; focus (intro w hSw; (try dsimp only at hSw); go_simp; (try with_reducible rfl)))
          | fail
        try simp only [Act.put, List.getElem_toArray, List.getElem_cons_succ, List.getElem_cons_zero, List.setIfInBounds_toArray, List.set_cons_zero, List.set_cons_succ]
        first
          | (refine wpAnyH_take (i := 3) (v := ?_) rfl (by kernel_rfl) (by kernel_rfl) (by kernel_rfl) (fun _ _ _ h => h) (Or.inl ⟨by rfl, ?_⟩) (by assumption) ?_; rotate_left 1; focus (intro w hSw; (try dsimp only at hSw); go_simp; (try with_reducible rfl)))
          | fail
        try simp only [Act.put, List.getElem_toArray, List.getElem_cons_succ, List.getElem_cons_zero, List.setIfInBounds_toArray, List.set_cons_zero, List.set_cons_succ]
        first
          | (refine' wpAnyH_take (i := 4) (v := _) rfl (by kernel_rfl) (by kernel_rfl) (by kernel_rfl) (fun _ _ _ h => h) (yieldsIf_load_mid (by rfl) _ _ rfl _ _ rfl _ _ (fun w hSw => (by (first | exact rV _ hSw | exact ry _ hSw))) Tryz.underlying23 rfl (by first | assumption | kernel_rfl)) (by assumption) ?_)
          | fail
        try simp only [Act.put, List.getElem_toArray, List.getElem_cons_succ, List.getElem_cons_zero, List.setIfInBounds_toArray, List.set_cons_zero, List.set_cons_succ]
        first
          | (refine wpAnyH_take (i := 5) (v := ?_) rfl (by kernel_rfl) (by kernel_rfl) (by kernel_rfl) (fun _ _ _ h => h) (Or.inl ⟨by rfl, ?_⟩) (by assumption) ?_; rotate_left 1; focus (intro w hSw; (try dsimp only at hSw); go_simp; (try with_reducible rfl)))
          | fail
        try simp only [Act.put, List.getElem_toArray, List.getElem_cons_succ, List.getElem_cons_zero, List.setIfInBounds_toArray, List.set_cons_zero, List.set_cons_succ]
        refine wpAnyH_done (by kernel_rfl) ?_ _
        go_wp2
        go_roundw
        case rel =>
          refine ⟨k + 1, by omega, by go_num, by assumption, ?_⟩
          show (l.take (k + 1)).contains x = false
          rw [HTK.out, List.contains_append, hno.out]
          have h1 : (x == y) = false := HB.out
          have h2 : (x == y) = false := h1
          have h3 : ¬ x = y := by simpa using h2
          simpa using h3
        case measure => simp [intOf]; omega
      | true =>
        go_wp2
        refine wp_region_held_drew (S := fun w' => Grew V w') (by kernel_rfl) (by first | assumption | exact Below.drew (by assumption)) (fun hHeld => ?_)
        first
          | (refine' wpAnyH_take (i := 0) (v := _) rfl (by kernel_rfl) (by kernel_rfl) (by kernel_rfl) (fun _ _ _ h => h) (yieldsIf_load_mid (by rfl) _ _ rfl _ _ rfl _ _ (fun w hSw => (by (first | exact rV _ hSw | exact ry _ hSw))) Tryz.underlying23 rfl (by first | assumption | kernel_rfl)) (by assumption) ?_)
          | fail
        try simp only [Act.put, List.getElem_toArray, List.getElem_cons_succ, List.getElem_cons_zero, List.setIfInBounds_toArray, List.set_cons_zero, List.set_cons_succ]
        first
          | (refine wpAnyH_take (i := 1) (v := ?_) rfl (by kernel_rfl) (by kernel_rfl) (by kernel_rfl) (fun _ _ _ h => h) (Or.inl ⟨by rfl, ?_⟩) (by assumption) ?_; rotate_left 1; focus (intro w hSw; (try dsimp only at hSw); go_simp; (try with_reducible rfl)))
          | fail
        try simp only [Act.put, List.getElem_toArray, List.getElem_cons_succ, List.getElem_cons_zero, List.setIfInBounds_toArray, List.set_cons_zero, List.set_cons_succ]
        first
          | (refine wpAnyH_take (i := 2) (v := ?_) rfl (by kernel_rfl) (by kernel_rfl) (by kernel_rfl) (fun _ _ _ h => h) (Or.inl ⟨by rfl, ?_⟩) (by assumption) ?_; rotate_left 1; focus (intro w hSw; (try dsimp only at hSw); go_simp; (try with_reducible rfl)))
          | fail
        try simp only [Act.put, List.getElem_toArray, List.getElem_cons_succ, List.getElem_cons_zero, List.setIfInBounds_toArray, List.set_cons_zero, List.set_cons_succ]
        first
          | (refine wpAnyH_take (i := 3) (v := ?_) rfl (by kernel_rfl) (by kernel_rfl) (by kernel_rfl) (fun _ _ _ h => h) (Or.inl ⟨by rfl, ?_⟩) (by assumption) ?_; rotate_left 1; focus (intro w hSw; (try dsimp only at hSw); go_simp; (try with_reducible rfl)))
          | fail
        try simp only [Act.put, List.getElem_toArray, List.getElem_cons_succ, List.getElem_cons_zero, List.setIfInBounds_toArray, List.set_cons_zero, List.set_cons_succ]
        first
          | (refine' wpAnyH_take (i := 4) (v := _) rfl (by kernel_rfl) (by kernel_rfl) (by kernel_rfl) (fun _ _ _ h => h) (yieldsIf_load_mid (by rfl) _ _ rfl _ _ rfl _ _ (fun w hSw => (by (first | exact rV _ hSw | exact ry _ hSw))) Tryz.underlying23 rfl (by first | assumption | kernel_rfl)) (by assumption) ?_)
          | fail
        try simp only [Act.put, List.getElem_toArray, List.getElem_cons_succ, List.getElem_cons_zero, List.setIfInBounds_toArray, List.set_cons_zero, List.set_cons_succ]
        first
          | (refine wpAnyH_take (i := 5) (v := ?_) rfl (by kernel_rfl) (by kernel_rfl) (by kernel_rfl) (fun _ _ _ h => h) (Or.inl ⟨by rfl, ?_⟩) (by assumption) ?_; rotate_left 1; focus (intro w hSw; (try dsimp only at hSw); go_simp; (try with_reducible rfl)))
          | fail
        try simp only [Act.put, List.getElem_toArray, List.getElem_cons_succ, List.getElem_cons_zero, List.setIfInBounds_toArray, List.set_cons_zero, List.set_cons_succ]
        refine wpAnyH_done (by kernel_rfl) ?_ _
        go_wp2
        go_ret
        refine ⟨⟨_, rfl, ?_⟩, gV.trans' (by assumption)⟩
        have h1 : x = y := by simpa using HB.out
        rw [decide_eq_true (by omega), h1]
        exact (List.contains_iff_mem.2 HMEM.out).symm
    · obtain rfl : k = l.length := by omega
      have hno2 := hno.out
      rw [List.take_length] at hno2
      have HN := Lib.hid hno2
      clear hno2
      go_wp2
      go_ret
      exact ⟨⟨_, rfl, by rw [HN.out]; rfl⟩, gV.trans' hb⟩

set_option maxRecDepth 100000 in
theorem slices_Contains_id (p : Option Addr) (l : List (List UInt8)) (cap : Nat) (x : List UInt8) (w : World) (hx : x.length = 20) (hl : l.length ≤ 1073741824) (hok : ∀ y ∈ l, y.length = 20) (hr : RdG kId w p l) :
    Calls Tryz.prog 32 #[.slice p l.length cap, .agg (Lib.byteCells x).toArray] w fun e w' => e = .returned (.bool (l.contains x)) ∧ Grew w w' := by
  obtain ⟨V, hV, gV, gVV, rV⟩ := boxedG kId w x
  change w.alloc (.cells (Lib.byteCells x).toArray 23) = V at hV
  change ∀ W, Grew V W → W.rangeAt w.heap.size 0 (Lib.byteCells x) at rV
  have nfx := infoId' hx
  have cI := slices_Index_id p l cap x V hx hl hok (hr.grew gV)
  have r0 := rV V gVV
  obtain ⟨B, hB⟩ : ∃ B, l.contains x = B := ⟨_, rfl⟩
  rw [hB] at cI ⊢
  clear hB
  go_enter Tryz.func32, Tryz.ntmps32
  go_wp2_with (refine wpList_load_mid rfl 23 _ rfl _ _ rfl (Lib.byteCells x) _ r0 Tryz.underlying23 rfl nfx ?_)
  go_fit cI
  rintro e1 W1 ⟨⟨n, rfl, hn⟩, g1⟩
  go_wp2
  go_ret
  exact ⟨rfl, gV.trans' g1⟩

end Go.Proofs.YtemojhcbhljemaaGreatDoor

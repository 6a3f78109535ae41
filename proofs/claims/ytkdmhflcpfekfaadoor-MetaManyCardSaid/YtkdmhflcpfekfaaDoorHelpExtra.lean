/- The helpers Own, Plain, Same, Kept, In on values of the type trestle/api.Extra. Conditions: at most 2^30 of them. -/
import Derived.Test.YtkdmhflcpfekfaaDoorM1
import Derived.BigQuiet
namespace Go.Proofs.YtkdmhflcpfekfaaDoor
set_option linter.unusedVariables false
set_option linter.unusedSimpArgs false
open Go.RowKit

set_option maxRecDepth 100000 in
theorem fn_Extra (a b : Two) (ia : kExtra.ok a) (ib : kExtra.ok b) (w : World) :
    Calls Tryd.prog 33 #[.agg (kExtra.cells a).toArray, .agg (kExtra.cells b).toArray] w fun e w' => e = .returned (.bool (kExtraEq.eqv a b)) ∧ Grew w w' := by
  obtain ⟨V0, hV0, gw0, g0, r0⟩ := boxedG kExtra w a
  obtain ⟨V, hV, g01, gVV, rV⟩ := boxedG kExtra V0 b
  have nfa := kExtra.size a ia
  have nfb := kExtra.size b ib
  have e := fun W => kExtraEq.eql a b ia ib W
  have gz := fun W op x y => kExtraEq.guard op x y a b W
  change w.alloc (.cells _ 28) = V0 at hV0
  change V0.alloc (.cells _ 28) = V at hV
  change ∀ W, (binOp .eql 28 _ _).run Tryd.prog W = _ at e
  change ∀ W op x y, (eqGuard op 28 x y _ _).run Tryd.prog W = _ at gz
  change (Tryd.prog.info? 28).map (·.size) = _ at nfa nfb
  generalize kExtraEq.eqv a b = B at e ⊢
  generalize kExtra.cells a = ca at *
  generalize kExtra.cells b = cb at *
  go_enter Tryd.func33, Tryd.ntmps33
  go_wp2_with (first | (refine wpList_load_mid rfl 28 (.tmp 2) rfl _ _ rfl ca _ (r0 V g01) Tryd.underlying28 rfl nfa ?_) | (refine wpList_load_mid rfl 28 (.tmp 3) rfl _ _ rfl cb _ (rV V gVV) Tryd.underlying28 rfl nfb ?_))
  go_ret
  exact ⟨rfl, gw0.trans' g01⟩

set_option maxRecDepth 100000 in
set_option maxHeartbeats 1000000 in
/-- Same, by equality: of two equal lists: true. -/
theorem same_Extra_eq (p q : Option Addr) (l : List Two) (c d : Nat) (w : World) (hl : l.length ≤ 1073741824) (hok : ∀ x ∈ l, kExtra.ok x) (h1 : RdG kExtra w p l) (h2 : RdG kExtra w q l) :
    Calls Tryd.prog 32 #[.slice p l.length c, .slice q l.length d, .func (.func 33) #[] #[]] w fun e w' => e = .returned (.bool true) ∧ Grew w w' := by
  have HOK := Lib.hid hok
  have H1 := Lib.hid h1
  have H2 := Lib.hid h2
  clear hok h1 h2
  go_enter Tryd.func32, Tryd.ntmps32
  go_wp2
  go_loopw [7] (fun i wr => ∃ k : Nat, k ≤ l.length ∧ i = .int .i64 k ∧ Grew w wr) (fun i _ => l.length - (intOf i).toNat)
  case atStart => exact ⟨0, Nat.zero_le _, rfl, Below.refl _ _⟩
  case round =>
    obtain ⟨k, hk, rfl, hb⟩ := hrel
    by_cases hlt : k < l.length
    · obtain ⟨x, hx⟩ : ∃ x, l[k]? = some x := ⟨_, List.getElem?_eq_getElem hlt⟩
      have hxi := HOK.out x (List.mem_of_getElem? hx)
      rcases H1.out with h | ⟨b, o, rfl, hc⟩
      · subst h; simp at hlt
      rcases H2.out with h | ⟨b', o', rfl, hc'⟩
      · subst h; simp at hlt
      have r1 : ∀ W, Grew w W → W.rangeAt b (o + k * 2) (kExtra.cells x) := fun W g => range_grew (hc k x hx) g
      have r2 : ∀ W, Grew w W → W.rangeAt b' (o' + k * 2) (kExtra.cells x) := fun W g => range_grew (hc' k x hx) g
      clear hc hc'
      have nfx : (Tryd.prog.info? 28).map (·.size) = some (kExtra.cells x).length := kExtra.size x hxi
      have cF := (fun W => fn_Extra x x hxi hxi W)
      simp only [kExtraEq.refl] at cF
      generalize kExtra.cells x = cx at *
      go_wp2
      refine wp_region_held_drew (S := fun w' => Grew w w') (by kernel_rfl) (by first | assumption | exact Below.drew (by assumption)) (fun hHeld => ?_)
      first
        | (refine wpAnyH_take (i := 0) (v := ?_) rfl (by kernel_rfl) (by kernel_rfl) (by kernel_rfl) (fun _ _ _ h => h) (Or.inl ⟨by rfl, ?_⟩) (by assumption) ?_; rotate_left 1; focus (intro w hSw; (try dsimp only at hSw); go_simp; (try with_reducible rfl)))
        | fail
      try simp only [Act.put, List.getElem_toArray, List.getElem_cons_succ, List.getElem_cons_zero, List.setIfInBounds_toArray, List.set_cons_zero, List.set_cons_succ]
      first
        | (refine wpAnyH_take (i := 1) (v := ?_) rfl (by kernel_rfl) (by kernel_rfl) (by kernel_rfl) (fun _ _ _ h => h) (Or.inl ⟨by rfl, ?_⟩) (by assumption) ?_; rotate_left 1; focus (intro w hSw; (try dsimp only at hSw); go_simp; (try with_reducible rfl)))
        | fail
      try simp only [Act.put, List.getElem_toArray, List.getElem_cons_succ, List.getElem_cons_zero, List.setIfInBounds_toArray, List.set_cons_zero, List.set_cons_succ]
      first
        | (refine wpAnyH_take (i := 2) (v := ?_) rfl (by kernel_rfl) (by kernel_rfl) (by kernel_rfl) (fun _ _ _ h => h) (Or.inl ⟨by rfl, ?_⟩) (by assumption) ?_; rotate_left 1; focus (intro w hSw; (try dsimp only at hSw); go_simp; (try with_reducible rfl)))
        | fail
      try simp only [Act.put, List.getElem_toArray, List.getElem_cons_succ, List.getElem_cons_zero, List.setIfInBounds_toArray, List.set_cons_zero, List.set_cons_succ]
      first
        | (refine wpAnyH_take (i := 3) (v := ?_) rfl (by kernel_rfl) (by kernel_rfl) (by kernel_rfl) (fun _ _ _ h => h) (Or.inl ⟨by rfl, ?_⟩) (by assumption) ?_; rotate_left 1; focus (intro w hSw; (try dsimp only at hSw); go_simp; (try with_reducible rfl)))
        | fail
      try simp only [Act.put, List.getElem_toArray, List.getElem_cons_succ, List.getElem_cons_zero, List.setIfInBounds_toArray, List.set_cons_zero, List.set_cons_succ]
      first
        | (refine' wpAnyH_take (i := 4) (v := _) rfl (by kernel_rfl) (by kernel_rfl) (by kernel_rfl) (fun _ _ _ h => h) (yieldsIf_load_mid (by rfl) _ _ rfl _ _ rfl _ _ (fun w hSw => (by (first | exact r1 _ hSw | exact r2 _ hSw))) Tryd.underlying28 rfl (by first | assumption | kernel_rfl)) (by assumption) ?_)
        | fail
      try simp only [Act.put, List.getElem_toArray, List.getElem_cons_succ, List.getElem_cons_zero, List.setIfInBounds_toArray, List.set_cons_zero, List.set_cons_succ]
      first
        | (refine wpAnyH_take (i := 5) (v := ?_) rfl (by kernel_rfl) (by kernel_rfl) (by kernel_rfl) (fun _ _ _ h => h) (Or.inl ⟨by rfl, ?_⟩) (by assumption) ?_; rotate_left 1; focus (intro w hSw; (try dsimp only at hSw); go_simp; (try with_reducible rfl)))
        | fail
      try simp only [Act.put, List.getElem_toArray, List.getElem_cons_succ, List.getElem_cons_zero, List.setIfInBounds_toArray, List.set_cons_zero, List.set_cons_succ]
      first
        | (refine wpAnyH_take (i := 6) (v := ?_) rfl (by kernel_rfl) (by kernel_rfl) (by kernel_rfl) (fun _ _ _ h => h) (Or.inl ⟨by rfl, ?_⟩) (by assumption) ?_; rotate_left 1; focus (intro w hSw; (try dsimp only at hSw); go_simp; (try with_reducible rfl)))
        | fail
      try simp only [Act.put, List.getElem_toArray, List.getElem_cons_succ, List.getElem_cons_zero, List.setIfInBounds_toArray, List.set_cons_zero, List.set_cons_succ]
      first
        | (refine wpAnyH_take (i := 7) (v := ?_) rfl (by kernel_rfl) (by kernel_rfl) (by kernel_rfl) (fun _ _ _ h => h) (Or.inl ⟨by rfl, ?_⟩) (by assumption) ?_; rotate_left 1; focus (intro w hSw; (try dsimp only at hSw); go_simp; (try with_reducible rfl)))
        | fail
      try simp only [Act.put, List.getElem_toArray, List.getElem_cons_succ, List.getElem_cons_zero, List.setIfInBounds_toArray, List.set_cons_zero, List.set_cons_succ]
      first
        | (refine' wpAnyH_take (i := 8) (v := _) rfl (by kernel_rfl) (by kernel_rfl) (by kernel_rfl) (fun _ _ _ h => h) (yieldsIf_load_mid (by rfl) _ _ rfl _ _ rfl _ _ (fun w hSw => (by (first | exact r1 _ hSw | exact r2 _ hSw))) Tryd.underlying28 rfl (by first | assumption | kernel_rfl)) (by assumption) ?_)
        | fail
      try simp only [Act.put, List.getElem_toArray, List.getElem_cons_succ, List.getElem_cons_zero, List.setIfInBounds_toArray, List.set_cons_zero, List.set_cons_succ]
      refine wpAnyH_ready (rs := [9]) (by kernel_rfl) (by simp) ?_
      refine AllReadyH.cons rfl (fun K hK => ?_) AllReadyH.nil
      go_simp
      (go_at_call 33; with_reducible refine (cF _).mono ?_; rintro e1 W1 ⟨rfl, g1⟩; replace g1 := Grew.trans' (a := w) (by first | assumption | exact Below.drew (by assumption)) g1)
      go_wp2_with fail
      refine hK.out _ _ (by first | assumption | exact Below.drew (by assumption)) (fun hHeld => ?_)
      clear hK K
      try simp only [Act.put, List.getElem_toArray, List.getElem_cons_succ, List.getElem_cons_zero, List.setIfInBounds_toArray, List.set_cons_zero, List.set_cons_succ]
      first
        | (refine wpAnyH_take (i := 10) (v := ?_) rfl (by kernel_rfl) (by kernel_rfl) (by kernel_rfl) (fun _ _ _ h => h) (Or.inl ⟨by rfl, ?_⟩) (by assumption) ?_; rotate_left 1; focus (intro w hSw; (try dsimp only at hSw); go_simp; (try with_reducible rfl)))
        | fail
      try simp only [Act.put, List.getElem_toArray, List.getElem_cons_succ, List.getElem_cons_zero, List.setIfInBounds_toArray, List.set_cons_zero, List.set_cons_succ]
      refine wpAnyH_done (by kernel_rfl) ?_ _
      go_wp2
      go_roundw
      case rel => exact ⟨k + 1, by omega, by go_num, by assumption⟩
      case measure => simp [intOf]; omega
    · go_wp2
      go_ret
      exact ⟨rfl, hb⟩

set_option maxRecDepth 100000 in
theorem plain_Extra_eq (p q : Option Addr) (l : List Two) (c d : Nat) (w : World) (hl : l.length ≤ 1073741824) (hok : ∀ x ∈ l, kExtra.ok x) (h1 : RdG kExtra w p l) (h2 : RdG kExtra w q l) :
    Calls Tryd.prog 15 #[.slice p l.length c, .slice q l.length d] w fun e w' => e = .returned (.bool true) ∧ Grew w w' := by
  go_enter Tryd.func15, Tryd.ntmps15
  go_wp2_with (go_at_call 32; refine (same_Extra_eq p q l c d _ hl hok h1 h2).mono ?_)
  rintro e w1 ⟨rfl, hb⟩
  go_wp2
  go_ret
  exact ⟨rfl, hb⟩

set_option maxRecDepth 100000 in
set_option maxHeartbeats 2000000 in
theorem own_Extra (p : Option Addr) (l : List Two) (cap : Nat) (f : Two) (w : World) (hl : l.length ≤ 1073741824) (hok : ∀ x ∈ l, kExtra.ok x) (hf : kExtra.ok f) (h : RdG kExtra w p l) :
    Calls Tryd.prog 9 #[.slice p l.length cap, .agg (kExtra.cells f).toArray] w fun e w' => ∃ gi, w.heap.size ≤ gi ∧ e = .returned (.slice (some ⟨gi, 0, none⟩) l.length (l.length + 3)) ∧
      w'.heap[gi]? = some (.cells (kExtra.row (l ++ [f, f, f])).toArray 28 (0, 0)) ∧ Grew w w' := by
  obtain ⟨V, hV, gV, gVV, rV⟩ := boxedG kExtra w f
  change w.alloc (.cells _ 28) = V at hV
  have hsV := gV.size
  obtain ⟨C, hC, hmk⟩ := make_G kExtra (l.length + 3) (by omega) V
  rw [show ((l.length + 3 : Nat) : Int) = (l.length : Int) + 3 from by omega] at hmk
  have hblk : (V.alloc (.cells C 28)).heap[V.heap.size]? = some (.cells C 28 (0, 0)) := heap_alloc_new V _
  have hbi : Grew V (V.alloc (.cells C 28)) := (Below.refl _ V).alloc (Nat.le_refl _) _
  obtain ⟨w2, hap, hb2, hg2, hs2⟩ := append_room_G kExtra _ V.heap.size (l.length + 3) C hblk p l cap ((h.grew gV).grew hbi) hok (by omega) hC
  change (Instr.makeSlice 22 _ _).run Tryd.prog V = .ok _ (V.alloc (.cells C 28)) at hmk
  change (Builtin.append_ #[22, 22] 22 _).run Tryd.prog (V.alloc (.cells C 28)) = _ at hap
  have hbw2 := hbi.grown hg2 (by simp) (fun k hk => by cases hk; exact Nat.le_refl _)
  obtain ⟨z, hz⟩ : ∃ z, C.toList.drop (l.length * kExtra.n) = z := ⟨_, rfl⟩
  have hz3 : z.length = 3 * kExtra.n := by rw [← hz, List.length_drop, Array.length_toList, hC, Nat.add_mul]; omega
  rw [hz] at hb2
  have nff : (Tryd.prog.info? 28).map (·.size) = some (kExtra.cells f).length := kExtra.size f hf
  have onf := kExtra.hone f
  have hnx := fun k hk => ownG_next kExtra l f (k := k) z hok hf hz3 hk
  have hlen := fun k hk => ownG_len kExtra l f k z hok hf hz3 hk
  have hfin : ownG kExtra l f 3 z = kExtra.row (l ++ [f, f, f]) := by
    unfold ownG
    rw [List.drop_of_length_le (by rw [hz3]; exact Nat.le_refl _), List.append_nil, row_app]
    rfl
  have hst : ownG kExtra l f 0 z = kExtra.row l ++ z := by unfold ownG; simp [Kd.row]
  have hfl := kExtra.hlen f hf
  generalize ownG kExtra l f = oo at *
  generalize kExtra.cells f = cf at *
  rw [hfl] at hnx
  have hn : kExtra.n = 2 := rfl
  simp only [hn] at hnx hlen hfl
  have HNX := Lib.hid hnx
  have HLEN := Lib.hid hlen
  have HFIN := Lib.hid hfin
  have HB := Lib.hid hb2
  have HST := Lib.hid hst
  have HFL := Lib.hid hfl
  clear hz hz3 hb2 hC hblk hg2 hs2 hok h hnx hlen hfin hst hn hfl
  go_enter Tryd.func9, Tryd.ntmps9
  go_wp2_with (at_builtin; refine Lib.wpList_append_run_sl _ rfl _ _ 22 rfl _ _ rfl rfl hap ?_)
  go_loopw [7] (fun i wr => ∃ k : Nat, k ≤ 3 ∧ i = .int .i64 (l.length + k : Nat) ∧ wr.heap[V.heap.size]? = some (.cells (oo k z).toArray 28 (0, 0)) ∧ Grew V wr) (fun i _ => l.length + 3 - (intOf i).toNat)
  case atStart => exact ⟨0, by omega, rfl, by rw [HST.out]; exact HB.out, hbw2⟩
  case round =>
    obtain ⟨k, hk, rfl, hout, hb⟩ := hrel
    clear hbw2 hbi hmk hap HB
    by_cases hlt : k < 3
    · have hnx := HNX.out k hlt
      have hsz : (l.length + k) * 2 + cf.length ≤ (oo k z).toArray.size := by
        have h1 := HLEN.out k (by omega)
        rw [HFL.out, List.size_toArray, h1]
        omega
      have rf := rV wr hb
      go_wp2_with (first | (refine wpList_load_mid rfl 28 _ rfl _ _ rfl cf _ rf Tryd.underlying28 rfl nff ?_) | (refine wpList_store_G rfl 28 _ _ rfl V.heap.size ((l.length + k) * 2) _ _ cf (by first | rfl | simp) rfl hout hsz nff onf ?_))
      first | (rw [HFL.out, hnx]; go_wp2) | (rw [List.append_assoc] at hnx; simp only [HFL.out, hnx])
      have hout2 := setRow_heap wr V.heap.size _ (oo (k + 1) z).toArray _ _ hout
      have hb2 : Grew V (wr.setRow V.heap.size (oo (k + 1) z).toArray) := below_setRow hb (Nat.le_refl _) _
      go_roundw
      case rel => exact ⟨k + 1, by omega, by go_num, hout2, hb2⟩
      case measure => simp [intOf]; omega
    · have hk3 : k = 3 := by omega
      subst hk3
      rw [HFIN.out] at hout
      have HO := Lib.hid hout
      clear hout
      go_wp2
      go_ret
      exact ⟨_, hsV, rfl, HO.out, gV.trans' hb⟩

set_option maxRecDepth 100000 in
set_option maxHeartbeats 1000000 in
/-- Kept of a copy that stands as it was made: true. -/
theorem kept_Extra (p q : Option Addr) (l : List Two) (d : Nat) (f : Two) (w : World) (hl : l.length ≤ 1073741824) (hok : ∀ x ∈ l, kExtra.ok x) (hf : kExtra.ok f) (h1 : RdG kExtra w p (l ++ [f, f, f])) (h2 : RdG kExtra w q l) :
    Calls Tryd.prog 21 #[.slice p l.length (l.length + 3), .slice q l.length d, .agg (kExtra.cells f).toArray] w fun e w' => e = .returned (.bool true) ∧ Grew w w' := by
  obtain ⟨V, hV, gV, gVV, rV⟩ := boxedG kExtra w f
  change w.alloc (.cells _ 28) = V at hV
  have cP := (fun W (g : Grew V W) => plain_Extra_eq p q l (l.length + 3) d W hl hok ((h1.pre.grew gV).grew g) ((h2.grew gV).grew g))
  have nff : (Tryd.prog.info? 28).map (·.size) = some (kExtra.cells f).length := kExtra.size f hf
  have e := fun W => kExtraEq.neq f f hf hf W
  have gz := fun W op x y => kExtraEq.guard op x y f f W
  simp only [kExtraEq.refl, Bool.not_true] at e
  change ∀ W, (binOp .neq 28 _ _).run Tryd.prog W = _ at e
  change ∀ W op x y, (eqGuard op 28 x y _ _).run Tryd.prog W = _ at gz
  have hc : ∃ b o, p = some ⟨b, o, none⟩ ∧ ∀ k, k < 3 → ∀ W, Grew V W → W.rangeAt b (o + (l.length + k) * 2) (kExtra.cells f) := by
    rcases h1 with h | ⟨b, o, rfl, h⟩
    · simp at h
    · refine ⟨b, o, rfl, fun k hk W g => range_grew (h (l.length + k) f ?_) (gV.trans' g)⟩
      rw [List.getElem?_append_right (by omega), Nat.add_sub_cancel_left]
      have : k = 0 ∨ k = 1 ∨ k = 2 := by omega
      rcases this with rfl | rfl | rfl <;> rfl
  obtain ⟨b, o, rfl, hc⟩ := hc
  generalize kExtra.cells f = cf at *
  have HC := Lib.hid hc
  clear h1 h2 hok hc
  go_enter Tryd.func21, Tryd.ntmps21
  go_wp2_with (first | (go_at_call 15; with_reducible refine (cP _ (by assumption)).mono ?_; rintro e1 W1 ⟨rfl, g1⟩; replace g1 := Grew.trans' (a := V) (by assumption) g1))
  have gE : Grew V W1 := by assumption
  clear cP
  go_loopw [8] (fun i wr => ∃ k : Nat, k ≤ 3 ∧ i = .int .i64 (l.length + k : Nat) ∧ Grew V wr) (fun i _ => l.length + 3 - (intOf i).toNat)
  case atStart => exact ⟨0, by omega, rfl, gE⟩
  case round =>
    obtain ⟨k, hk, rfl, hb⟩ := hrel
    by_cases hlt : k < 3
    · have r1 := HC.out k hlt
      have hp0 : (0 : Int) ≤ (l.length : Int) + (k : Int) := by omega
      have hp1 : ((l.length : Int) + (k : Int)).toNat = l.length + k := by omega
      have hp2 : (l.length : Int) + (k : Int) < (l.length : Int) + 3 := by omega
      go_wp2
      refine wp_region_held_drew (S := fun w' => Grew V w') (by kernel_rfl) (by first | assumption | exact Below.drew (by assumption)) (fun hHeld => ?_)
      first
        | (refine wpAnyH_take (i := 0) (v := ?_) rfl (by kernel_rfl) (by kernel_rfl) (by kernel_rfl) (fun _ _ _ h => h) (Or.inl ⟨by rfl, ?_⟩) (by assumption) ?_; rotate_left 1; focus (intro w hSw; (try dsimp only at hSw); go_simp; (try with_reducible rfl)))
        | fail
      try simp only [Act.put, List.getElem_toArray, List.getElem_cons_succ, List.getElem_cons_zero, List.setIfInBounds_toArray, List.set_cons_zero, List.set_cons_succ]
      first
        | (refine wpAnyH_take (i := 1) (v := ?_) rfl (by kernel_rfl) (by kernel_rfl) (by kernel_rfl) (fun _ _ _ h => h) (Or.inl ⟨by rfl, ?_⟩) (by assumption) ?_; rotate_left 1; focus (intro w hSw; (try dsimp only at hSw); go_simp; (try with_reducible rfl)))
        | fail
      try simp only [Act.put, List.getElem_toArray, List.getElem_cons_succ, List.getElem_cons_zero, List.setIfInBounds_toArray, List.set_cons_zero, List.set_cons_succ]
      first
        | (refine wpAnyH_take (i := 2) (v := ?_) rfl (by kernel_rfl) (by kernel_rfl) (by kernel_rfl) (fun _ _ _ h => h) (Or.inl ⟨by rfl, ?_⟩) (by assumption) ?_; rotate_left 1; focus (intro w hSw; (try dsimp only at hSw); go_simp; (try with_reducible rfl)))
        | fail
      try simp only [Act.put, List.getElem_toArray, List.getElem_cons_succ, List.getElem_cons_zero, List.setIfInBounds_toArray, List.set_cons_zero, List.set_cons_succ]
      first
        | (refine' wpAnyH_take (i := 3) (v := _) rfl (by kernel_rfl) (by kernel_rfl) (by kernel_rfl) (fun _ _ _ h => h) (yieldsIf_load_mid (by rfl) _ _ rfl _ _ rfl _ _ (fun w hSw => (by (first | exact r1 _ hSw | exact rV _ hSw))) Tryd.underlying28 rfl (by first | assumption | kernel_rfl)) (by assumption) ?_)
        | fail
      try simp only [Act.put, List.getElem_toArray, List.getElem_cons_succ, List.getElem_cons_zero, List.setIfInBounds_toArray, List.set_cons_zero, List.set_cons_succ]
      first
        | (refine' wpAnyH_take (i := 4) (v := _) rfl (by kernel_rfl) (by kernel_rfl) (by kernel_rfl) (fun _ _ _ h => h) (yieldsIf_load_mid (by rfl) _ _ rfl _ _ rfl _ _ (fun w hSw => (by (first | exact r1 _ hSw | exact rV _ hSw))) Tryd.underlying28 rfl (by first | assumption | kernel_rfl)) (by assumption) ?_)
        | fail
      try simp only [Act.put, List.getElem_toArray, List.getElem_cons_succ, List.getElem_cons_zero, List.setIfInBounds_toArray, List.set_cons_zero, List.set_cons_succ]
      first
        | (refine wpAnyH_take (i := 5) (v := ?_) rfl (by kernel_rfl) (by kernel_rfl) (by kernel_rfl) (fun _ _ _ h => h) (Or.inl ⟨by rfl, ?_⟩) (by assumption) ?_; rotate_left 1; focus (intro w hSw; (try dsimp only at hSw); go_simp; (try with_reducible rfl)))
        | fail
      try simp only [Act.put, List.getElem_toArray, List.getElem_cons_succ, List.getElem_cons_zero, List.setIfInBounds_toArray, List.set_cons_zero, List.set_cons_succ]
      refine wpAnyH_done (by kernel_rfl) ?_ _
      go_wp2
      go_roundw
      case rel => exact ⟨k + 1, by omega, by go_num, by assumption⟩
      case measure => simp [intOf]; omega
    · have hk3 : k = 3 := by omega
      subst hk3
      go_wp2
      go_ret
      exact ⟨rfl, gV.trans' hb⟩

end Go.Proofs.YtkdmhflcpfekfaaDoor

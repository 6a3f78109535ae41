/- ident.Print: an ident as text. Conditions: the library's tables are laid; names of at most 2^40 bytes. -/
import Derived.Test.YtemojhcbhljemaaGreatDoorM6
import Derived.Test.YtemojhcbhljemaaGreatDoorM3
import Derived.Test.YtemojhcbhljemaaGreatDoorM1
import Derived.Deep.RegionHeldLaw
namespace Go.Proofs.YtemojhcbhljemaaGreatDoor
set_option linter.unusedVariables false
set_option linter.unusedSimpArgs false
open Go.RowKit

/-- An ident's text, if it is right. -/
def printN (i : Idn) : List UInt8 := Pure.printL i.name.data.toList i.email.data.toList i.when i.zone
def printB (i : Idn) : ByteArray := if rightN i then ⟨(printN i).toArray⟩ else ⟨#[]⟩
theorem Idn.range (w : World) (i : Idn) : ∀ W, Grew (w.alloc (.cells i.cells.toArray 26)) W → W.rangeAt w.heap.size 0 i.cells := by
  obtain ⟨W0, hW0, g0, g00, hq⟩ := boxed w i.cells.toArray 26
  intro W g j v hv
  rw [Nat.zero_add]
  exact hq W (by rw [← hW0]; exact g) j v (by simpa using hv)
theorem infoIdn (i : Idn) : (Tryz.prog.info? 26).map (·.size) = some i.cells.length := by
  have : (Tryz.prog.info? 26).map (·.size) = some 4 := by kernel_rfl
  exact this

theorem zoneL_eq (neg : Bool) (n : Nat) : zoneL neg n = Pure.zoneT neg n := rfl
theorem ident_zone (z : Int) (h : Pure.zoneIn z) (w : World) :
    Calls Tryz.prog 43 #[.int .i64 z] w fun e w' => e = .returned (.string ⟨(Pure.zoneS z).toArray⟩) ∧ Grew w w' := by
  obtain ⟨h1, h2⟩ := h
  unfold Pure.zoneS
  by_cases hz : z < 0
  · rw [decide_eq_true hz, ← zoneL_eq]
    have := ident_zone_neg z.natAbs (by omega) (by omega) w
    rwa [show (-(z.natAbs : Int)) = z by omega] at this
  · rw [decide_eq_false hz, ← zoneL_eq]
    have := ident_zone_pos z.natAbs (by omega) w
    rwa [show ((z.natAbs : Int)) = z by omega] at this

/-- What is known of a right ident. -/
theorem right_parts {i : Idn} (h : rightN i = true) : calledP i.name.data.toList = true ∧ calledP i.email.data.toList = true ∧ 0 ≤ i.when ∧ i.when ≤ 1099511627775 ∧ Pure.zoneIn i.zone := by
  unfold rightN zonedP at h
  simp only [Bool.and_eq_true, decide_eq_true_eq] at h
  exact ⟨h.1.1.1.1, h.1.1.1.2, h.1.1.2, h.1.2, h.2⟩
theorem called_len {l : List UInt8} (h : calledP l = true) : l.length ≤ 200 := by
  unfold calledP at h
  simp only [Bool.and_eq_true, decide_eq_true_eq] at h
  exact h.1.1.1.1
theorem itoa_short {v : Int} (h0 : 0 ≤ v) (h1 : v ≤ 1099511627775) : (Lib.itoa v).length ≤ 19 := by
  unfold Lib.itoa
  rw [if_neg (by omega)]
  exact Pure.digits_len (by omega)

set_option maxRecDepth 100000 in
set_option maxHeartbeats 4000000 in
theorem ident_Print (i : Idn) (w : World) (hn : i.name.size ≤ 1099511627776) (he : i.email.size ≤ 1099511627776) (hu : U8Ok w) (ht : TabOk w) :
    Calls Tryz.prog 20 #[.agg i.cells.toArray] w fun e w' => e = .returned (.string (printB i)) ∧ Grew w w' := by
  obtain ⟨V0, hV0, gw0, g0, q0, q1, q2, q3⟩ := boxedN w i
  have rr := Idn.range w i
  rw [hV0] at rr
  have nfi := infoIdn i
  have cR := fun W (g : Grew V0 W) => ident_Right i W hn he (u8_grew hu (gw0.trans' g))
  obtain ⟨R, hR⟩ : ∃ R, rightN i = R := ⟨_, rfl⟩
  rw [hR] at cR
  unfold printB
  rw [hR]
  cases R with
  | false =>
    clear hu ht hR
    go_enter Tryz.func20, Tryz.ntmps20
    go_wp2_with (first | (refine wpList_load_mid rfl 26 _ rfl _ _ rfl i.cells _ (rr _ (by assumption)) Tryz.underlying26 rfl nfi ?_) | (go_at_call 33; with_reducible refine (cR _ (by assumption)).mono ?_; rintro e1 W1 ⟨rfl, g1⟩; replace g1 := Grew.trans' (a := V0) (by assumption) g1))
    go_ret
    exact ⟨rfl, gw0.trans' (by assumption)⟩
  | true =>
    rw [if_pos rfl]
    obtain ⟨p1, p2, p3, p4, p5⟩ := right_parts hR
    have l1 := called_len p1
    have l2 := called_len p2
    rw [list_len] at l1 l2
    have l3 := itoa_short p3 p4
    have cN := fun W (g : Grew V0 W) => hexa_Number i.when W (by omega) (by omega) (ht.grew (gw0.trans' g))
    have cZ := fun W (g : Grew V0 W) => ident_zone i.zone p5 W
    obtain ⟨A, hA⟩ : ∃ A : ByteArray, (⟨(Lib.itoa i.when).toArray⟩ : ByteArray) = A := ⟨_, rfl⟩
    obtain ⟨Z, hZ⟩ : ∃ A : ByteArray, (⟨(Pure.zoneS i.zone).toArray⟩ : ByteArray) = A := ⟨_, rfl⟩
    have hAs : A.size ≤ 19 := by rw [← hA]; show (Lib.itoa i.when).toArray.size ≤ 19; simpa using l3
    have hZs : Z.size = 5 := by rw [← hZ]; show (Pure.zoneS i.zone).toArray.size = 5; simpa using Pure.zoneS_len i.zone
    simp only [hA] at cN
    simp only [hZ] at cZ
    obtain ⟨T1, h1⟩ : ∃ T : ByteArray, (⟨#[60]⟩ : ByteArray) ++ i.email = T := ⟨_, rfl⟩
    obtain ⟨T2, h2⟩ : ∃ T : ByteArray, T1 ++ (⟨#[62, 32]⟩ : ByteArray) = T := ⟨_, rfl⟩
    obtain ⟨T3, h3⟩ : ∃ T : ByteArray, T2 ++ A = T := ⟨_, rfl⟩
    obtain ⟨T4, h4⟩ : ∃ T : ByteArray, T3 ++ (⟨#[32]⟩ : ByteArray) = T := ⟨_, rfl⟩
    obtain ⟨T5, h5⟩ : ∃ T : ByteArray, T4 ++ Z = T := ⟨_, rfl⟩
    obtain ⟨T6, h6⟩ : ∃ T : ByteArray, i.name ++ (⟨#[32]⟩ : ByteArray) = T := ⟨_, rfl⟩
    obtain ⟨T7, h7⟩ : ∃ T : ByteArray, T6 ++ T5 = T := ⟨_, rfl⟩
    have s1 : T1.size = 1 + i.email.size := by rw [← h1, ByteArray.size_append]; rfl
    have s2 : T2.size = T1.size + 2 := by rw [← h2, ByteArray.size_append]; rfl
    have s3 : T3.size = T2.size + A.size := by rw [← h3, ByteArray.size_append]
    have s4 : T4.size = T3.size + 1 := by rw [← h4, ByteArray.size_append]; rfl
    have s5 : T5.size = T4.size + Z.size := by rw [← h5, ByteArray.size_append]
    have s6 : T6.size = i.name.size + 1 := by rw [← h6, ByteArray.size_append]; rfl
    have n1 : ¬ 9223372036854775807 < 1 + i.email.size := by omega
    have n2 : ¬ 9223372036854775807 < T1.size + 2 := by omega
    have n3 : ¬ 9223372036854775807 < T2.size + A.size := by omega
    have n4 : ¬ 9223372036854775807 < T3.size + 1 := by omega
    have n5 : ¬ 9223372036854775807 < T4.size + Z.size := by omega
    have n6 : ¬ 9223372036854775807 < i.name.size + 1 := by omega
    have n7 : ¬ 9223372036854775807 < T6.size + T5.size := by omega
    have hT5 : T5.data.toList = 60 :: (i.email.data.toList ++ (62 :: 32 :: (Lib.itoa i.when ++ (32 :: Pure.zoneS i.zone)))) := by
      rw [← h5, ← h4, ← h3, ← h2, ← h1]
      simp only [append_list, ← hA, ← hZ]
      simp
    have hfin : (⟨(printN i).toArray⟩ : ByteArray) = if i.name.size = 0 then T5 else T7 := by
      unfold printN Pure.printL
      by_cases h0 : i.name.size = 0
      · rw [if_pos h0, if_pos (list_empty h0)]
        apply ba_ext
        rw [hT5]
        simp
      · rw [if_neg h0, if_neg (fun e => h0 (by rw [← list_len, e]; rfl))]
        apply ba_ext
        rw [← h7, append_list, hT5, ← h6, append_list]
        try simp
    rw [hfin]
    have HU := Lib.hid hu
    clear hu ht hR hfin hT5 s1 s2 s3 s4 s5 s6 p1 p2 p3 p4 p5 l1 l2 l3 hA hZ hAs hZs
    by_cases h0 : i.name.size = 0
    · have hem := empty_true h0
      rw [if_pos h0]
      clear h0
      go_enter Tryz.func20, Tryz.ntmps20
      go_wp2_with (first | (refine wpList_load_mid rfl 26 _ rfl _ _ rfl i.cells _ (rr _ (by assumption)) Tryz.underlying26 rfl nfi ?_) | (go_at_call 33; with_reducible refine (cR _ (by assumption)).mono ?_; rintro e1 W1 ⟨rfl, g1⟩; replace g1 := Grew.trans' (a := V0) (by assumption) g1))
      refine wp_region_held_drew (S := fun w' => Grew V0 w') (by kernel_rfl) (by first | assumption | exact Below.drew (by assumption)) (fun hHeld => ?_)
      first
        | (refine wpAnyH_take (i := 0) (v := ?_) rfl (by kernel_rfl) (by kernel_rfl) (by kernel_rfl) (fun _ _ _ h => h) (Or.inl ⟨by rfl, ?_⟩) (by assumption) ?_; rotate_left 1; focus (intro w hSw; (try dsimp only at hSw); go_simp; (try with_reducible rfl)))
        | fail
      try simp only [Act.put, List.getElem_toArray, List.getElem_cons_succ, List.getElem_cons_zero, List.setIfInBounds_toArray, List.set_cons_zero, List.set_cons_succ]
      first
        | (refine wpAnyH_take (i := 1) (v := ?_) rfl (by kernel_rfl) (by kernel_rfl) (by kernel_rfl) (fun _ _ _ h => h) (Or.inl ⟨by rfl, ?_⟩) (by assumption) ?_; rotate_left 1; focus (intro w hSw; (try dsimp only at hSw); go_simp; (try with_reducible rfl)))
        | fail
      try simp only [Act.put, List.getElem_toArray, List.getElem_cons_succ, List.getElem_cons_zero, List.setIfInBounds_toArray, List.set_cons_zero, List.set_cons_succ]
      first
        | (refine wpAnyH_take (i := 2) (v := ?_) rfl (by kernel_rfl) (by kernel_rfl) (by kernel_rfl) (fun _ _ _ h => h) (Or.inl ⟨by rfl, ?_⟩) (by assumption) ?_; rotate_left 1; focus (intro w hSw; (try dsimp only at hSw); go_simp; (try with_reducible rfl)))
        | fail
      try simp only [Act.put, List.getElem_toArray, List.getElem_cons_succ, List.getElem_cons_zero, List.setIfInBounds_toArray, List.set_cons_zero, List.set_cons_succ]
      first
        | (refine wpAnyH_take (i := 3) (v := ?_) rfl (by kernel_rfl) (by kernel_rfl) (by kernel_rfl) (fun _ _ _ h => h) (Or.inl ⟨by rfl, ?_⟩) (by assumption) ?_; rotate_left 1; focus (intro w hSw; (try dsimp only at hSw); go_simp; (try with_reducible rfl)))
        | fail
      try simp only [Act.put, List.getElem_toArray, List.getElem_cons_succ, List.getElem_cons_zero, List.setIfInBounds_toArray, List.set_cons_zero, List.set_cons_succ]
      first
        | (refine wpAnyH_take (i := 4) (v := ?_) rfl (by kernel_rfl) (by kernel_rfl) (by kernel_rfl) (fun _ _ _ h => h) (Or.inl ⟨by rfl, ?_⟩) (by assumption) ?_; rotate_left 1; focus (intro w hSw; (try dsimp only at hSw); go_simp; (try with_reducible rfl)))
        | fail
      try simp only [Act.put, List.getElem_toArray, List.getElem_cons_succ, List.getElem_cons_zero, List.setIfInBounds_toArray, List.set_cons_zero, List.set_cons_succ]
      first
        | (refine wpAnyH_take (i := 5) (v := ?_) rfl (by kernel_rfl) (by kernel_rfl) (by kernel_rfl) (fun _ _ _ h => h) (Or.inl ⟨by rfl, ?_⟩) (by assumption) ?_; rotate_left 1; focus (intro w hSw; (try dsimp only at hSw); go_simp; (try with_reducible rfl)))
        | fail
      try simp only [Act.put, List.getElem_toArray, List.getElem_cons_succ, List.getElem_cons_zero, List.setIfInBounds_toArray, List.set_cons_zero, List.set_cons_succ]
      first
        | (refine wpAnyH_take (i := 9) (v := ?_) rfl (by kernel_rfl) (by kernel_rfl) (by kernel_rfl) (fun _ _ _ h => h) (Or.inl ⟨by rfl, ?_⟩) (by assumption) ?_; rotate_left 1; focus (intro w hSw; (try dsimp only at hSw); go_simp; (try with_reducible rfl)))
        | fail
      try simp only [Act.put, List.getElem_toArray, List.getElem_cons_succ, List.getElem_cons_zero, List.setIfInBounds_toArray, List.set_cons_zero, List.set_cons_succ]
      first
        | (refine wpAnyH_take (i := 10) (v := ?_) rfl (by kernel_rfl) (by kernel_rfl) (by kernel_rfl) (fun _ _ _ h => h) (Or.inl ⟨by rfl, ?_⟩) (by assumption) ?_; rotate_left 1; focus (intro w hSw; (try dsimp only at hSw); go_simp; (try with_reducible rfl)))
        | fail
      try simp only [Act.put, List.getElem_toArray, List.getElem_cons_succ, List.getElem_cons_zero, List.setIfInBounds_toArray, List.set_cons_zero, List.set_cons_succ]
      refine wpAnyH_ready (rs := [6]) (by kernel_rfl) (by simp) ?_
      refine AllReadyH.cons rfl (fun K hK => ?_) AllReadyH.nil
      go_simp
      (go_at_call 42; with_reducible refine (cN _ (by first | assumption | exact Below.drew (by assumption))).mono ?_; rintro e1 W1 ⟨rfl, g1⟩; replace g1 := Grew.trans' (a := V0) (by first | assumption | exact Below.drew (by assumption)) g1)
      go_wp2_with fail
      refine hK.out _ _ (by first | assumption | exact Below.drew (by assumption)) (fun hHeld => ?_)
      clear hK K
      try simp only [Act.put, List.getElem_toArray, List.getElem_cons_succ, List.getElem_cons_zero, List.setIfInBounds_toArray, List.set_cons_zero, List.set_cons_succ]
      first
        | (refine wpAnyH_take (i := 7) (v := ?_) rfl (by kernel_rfl) (by kernel_rfl) (by kernel_rfl) (fun _ _ _ h => h) (Or.inl ⟨by rfl, ?_⟩) (by assumption) ?_; rotate_left 1; focus (intro w hSw; (try dsimp only at hSw); go_simp; (try with_reducible rfl)))
        | fail
      try simp only [Act.put, List.getElem_toArray, List.getElem_cons_succ, List.getElem_cons_zero, List.setIfInBounds_toArray, List.set_cons_zero, List.set_cons_succ]
      first
        | (refine wpAnyH_take (i := 8) (v := ?_) rfl (by kernel_rfl) (by kernel_rfl) (by kernel_rfl) (fun _ _ _ h => h) (Or.inl ⟨by rfl, ?_⟩) (by assumption) ?_; rotate_left 1; focus (intro w hSw; (try dsimp only at hSw); go_simp; (try with_reducible rfl)))
        | fail
      try simp only [Act.put, List.getElem_toArray, List.getElem_cons_succ, List.getElem_cons_zero, List.setIfInBounds_toArray, List.set_cons_zero, List.set_cons_succ]
      refine wpAnyH_ready (rs := [11]) (by kernel_rfl) (by simp) ?_
      refine AllReadyH.cons rfl (fun K hK => ?_) AllReadyH.nil
      go_simp
      (go_at_call 43; with_reducible refine (cZ _ (by first | assumption | exact Below.drew (by assumption))).mono ?_; rintro e1 W1 ⟨rfl, g1⟩; replace g1 := Grew.trans' (a := V0) (by first | assumption | exact Below.drew (by assumption)) g1)
      go_wp2_with fail
      refine hK.out _ _ (by first | assumption | exact Below.drew (by assumption)) (fun hHeld => ?_)
      clear hK K
      try simp only [Act.put, List.getElem_toArray, List.getElem_cons_succ, List.getElem_cons_zero, List.setIfInBounds_toArray, List.set_cons_zero, List.set_cons_succ]
      first
        | (refine wpAnyH_take (i := 12) (v := ?_) rfl (by kernel_rfl) (by kernel_rfl) (by kernel_rfl) (fun _ _ _ h => h) (Or.inl ⟨by rfl, ?_⟩) (by assumption) ?_; rotate_left 1; focus (intro w hSw; (try dsimp only at hSw); go_simp; (try with_reducible rfl)))
        | fail
      try simp only [Act.put, List.getElem_toArray, List.getElem_cons_succ, List.getElem_cons_zero, List.setIfInBounds_toArray, List.set_cons_zero, List.set_cons_succ]
      first
        | (refine wpAnyH_take (i := 13) (v := ?_) rfl (by kernel_rfl) (by kernel_rfl) (by kernel_rfl) (fun _ _ _ h => h) (Or.inl ⟨by rfl, ?_⟩) (by assumption) ?_; rotate_left 1; focus (intro w hSw; (try dsimp only at hSw); go_simp; (try with_reducible rfl)))
        | fail
      try simp only [Act.put, List.getElem_toArray, List.getElem_cons_succ, List.getElem_cons_zero, List.setIfInBounds_toArray, List.set_cons_zero, List.set_cons_succ]
      refine wpAnyH_done (by kernel_rfl) ?_ _
      go_wp2
      go_ret
      exact ⟨rfl, gw0.trans' (by assumption)⟩
    · have hem := empty_false (by omega : 0 < i.name.size)
      rw [if_neg h0]
      clear h0
      go_enter Tryz.func20, Tryz.ntmps20
      go_wp2_with (first | (refine wpList_load_mid rfl 26 _ rfl _ _ rfl i.cells _ (rr _ (by assumption)) Tryz.underlying26 rfl nfi ?_) | (go_at_call 33; with_reducible refine (cR _ (by assumption)).mono ?_; rintro e1 W1 ⟨rfl, g1⟩; replace g1 := Grew.trans' (a := V0) (by assumption) g1))
      refine wp_region_held_drew (S := fun w' => Grew V0 w') (by kernel_rfl) (by first | assumption | exact Below.drew (by assumption)) (fun hHeld => ?_)
      first
        | (refine wpAnyH_take (i := 0) (v := ?_) rfl (by kernel_rfl) (by kernel_rfl) (by kernel_rfl) (fun _ _ _ h => h) (Or.inl ⟨by rfl, ?_⟩) (by assumption) ?_; rotate_left 1; focus (intro w hSw; (try dsimp only at hSw); go_simp; (try with_reducible rfl)))
        | fail
      try simp only [Act.put, List.getElem_toArray, List.getElem_cons_succ, List.getElem_cons_zero, List.setIfInBounds_toArray, List.set_cons_zero, List.set_cons_succ]
      first
        | (refine wpAnyH_take (i := 1) (v := ?_) rfl (by kernel_rfl) (by kernel_rfl) (by kernel_rfl) (fun _ _ _ h => h) (Or.inl ⟨by rfl, ?_⟩) (by assumption) ?_; rotate_left 1; focus (intro w hSw; (try dsimp only at hSw); go_simp; (try with_reducible rfl)))
        | fail
      try simp only [Act.put, List.getElem_toArray, List.getElem_cons_succ, List.getElem_cons_zero, List.setIfInBounds_toArray, List.set_cons_zero, List.set_cons_succ]
      first
        | (refine wpAnyH_take (i := 2) (v := ?_) rfl (by kernel_rfl) (by kernel_rfl) (by kernel_rfl) (fun _ _ _ h => h) (Or.inl ⟨by rfl, ?_⟩) (by assumption) ?_; rotate_left 1; focus (intro w hSw; (try dsimp only at hSw); go_simp; (try with_reducible rfl)))
        | fail
      try simp only [Act.put, List.getElem_toArray, List.getElem_cons_succ, List.getElem_cons_zero, List.setIfInBounds_toArray, List.set_cons_zero, List.set_cons_succ]
      first
        | (refine wpAnyH_take (i := 3) (v := ?_) rfl (by kernel_rfl) (by kernel_rfl) (by kernel_rfl) (fun _ _ _ h => h) (Or.inl ⟨by rfl, ?_⟩) (by assumption) ?_; rotate_left 1; focus (intro w hSw; (try dsimp only at hSw); go_simp; (try with_reducible rfl)))
        | fail
      try simp only [Act.put, List.getElem_toArray, List.getElem_cons_succ, List.getElem_cons_zero, List.setIfInBounds_toArray, List.set_cons_zero, List.set_cons_succ]
      first
        | (refine wpAnyH_take (i := 4) (v := ?_) rfl (by kernel_rfl) (by kernel_rfl) (by kernel_rfl) (fun _ _ _ h => h) (Or.inl ⟨by rfl, ?_⟩) (by assumption) ?_; rotate_left 1; focus (intro w hSw; (try dsimp only at hSw); go_simp; (try with_reducible rfl)))
        | fail
      try simp only [Act.put, List.getElem_toArray, List.getElem_cons_succ, List.getElem_cons_zero, List.setIfInBounds_toArray, List.set_cons_zero, List.set_cons_succ]
      first
        | (refine wpAnyH_take (i := 5) (v := ?_) rfl (by kernel_rfl) (by kernel_rfl) (by kernel_rfl) (fun _ _ _ h => h) (Or.inl ⟨by rfl, ?_⟩) (by assumption) ?_; rotate_left 1; focus (intro w hSw; (try dsimp only at hSw); go_simp; (try with_reducible rfl)))
        | fail
      try simp only [Act.put, List.getElem_toArray, List.getElem_cons_succ, List.getElem_cons_zero, List.setIfInBounds_toArray, List.set_cons_zero, List.set_cons_succ]
      first
        | (refine wpAnyH_take (i := 9) (v := ?_) rfl (by kernel_rfl) (by kernel_rfl) (by kernel_rfl) (fun _ _ _ h => h) (Or.inl ⟨by rfl, ?_⟩) (by assumption) ?_; rotate_left 1; focus (intro w hSw; (try dsimp only at hSw); go_simp; (try with_reducible rfl)))
        | fail
      try simp only [Act.put, List.getElem_toArray, List.getElem_cons_succ, List.getElem_cons_zero, List.setIfInBounds_toArray, List.set_cons_zero, List.set_cons_succ]
      first
        | (refine wpAnyH_take (i := 10) (v := ?_) rfl (by kernel_rfl) (by kernel_rfl) (by kernel_rfl) (fun _ _ _ h => h) (Or.inl ⟨by rfl, ?_⟩) (by assumption) ?_; rotate_left 1; focus (intro w hSw; (try dsimp only at hSw); go_simp; (try with_reducible rfl)))
        | fail
      try simp only [Act.put, List.getElem_toArray, List.getElem_cons_succ, List.getElem_cons_zero, List.setIfInBounds_toArray, List.set_cons_zero, List.set_cons_succ]
      refine wpAnyH_ready (rs := [6]) (by kernel_rfl) (by simp) ?_
      refine AllReadyH.cons rfl (fun K hK => ?_) AllReadyH.nil
      go_simp
      (go_at_call 42; with_reducible refine (cN _ (by first | assumption | exact Below.drew (by assumption))).mono ?_; rintro e1 W1 ⟨rfl, g1⟩; replace g1 := Grew.trans' (a := V0) (by first | assumption | exact Below.drew (by assumption)) g1)
      go_wp2_with fail
      refine hK.out _ _ (by first | assumption | exact Below.drew (by assumption)) (fun hHeld => ?_)
      clear hK K
      try simp only [Act.put, List.getElem_toArray, List.getElem_cons_succ, List.getElem_cons_zero, List.setIfInBounds_toArray, List.set_cons_zero, List.set_cons_succ]
      first
        | (refine wpAnyH_take (i := 7) (v := ?_) rfl (by kernel_rfl) (by kernel_rfl) (by kernel_rfl) (fun _ _ _ h => h) (Or.inl ⟨by rfl, ?_⟩) (by assumption) ?_; rotate_left 1; focus (intro w hSw; (try dsimp only at hSw); go_simp; (try with_reducible rfl)))
        | fail
      try simp only [Act.put, List.getElem_toArray, List.getElem_cons_succ, List.getElem_cons_zero, List.setIfInBounds_toArray, List.set_cons_zero, List.set_cons_succ]
      first
        | (refine wpAnyH_take (i := 8) (v := ?_) rfl (by kernel_rfl) (by kernel_rfl) (by kernel_rfl) (fun _ _ _ h => h) (Or.inl ⟨by rfl, ?_⟩) (by assumption) ?_; rotate_left 1; focus (intro w hSw; (try dsimp only at hSw); go_simp; (try with_reducible rfl)))
        | fail
      try simp only [Act.put, List.getElem_toArray, List.getElem_cons_succ, List.getElem_cons_zero, List.setIfInBounds_toArray, List.set_cons_zero, List.set_cons_succ]
      refine wpAnyH_ready (rs := [11]) (by kernel_rfl) (by simp) ?_
      refine AllReadyH.cons rfl (fun K hK => ?_) AllReadyH.nil
      go_simp
      (go_at_call 43; with_reducible refine (cZ _ (by first | assumption | exact Below.drew (by assumption))).mono ?_; rintro e1 W1 ⟨rfl, g1⟩; replace g1 := Grew.trans' (a := V0) (by first | assumption | exact Below.drew (by assumption)) g1)
      go_wp2_with fail
      refine hK.out _ _ (by first | assumption | exact Below.drew (by assumption)) (fun hHeld => ?_)
      clear hK K
      try simp only [Act.put, List.getElem_toArray, List.getElem_cons_succ, List.getElem_cons_zero, List.setIfInBounds_toArray, List.set_cons_zero, List.set_cons_succ]
      first
        | (refine wpAnyH_take (i := 12) (v := ?_) rfl (by kernel_rfl) (by kernel_rfl) (by kernel_rfl) (fun _ _ _ h => h) (Or.inl ⟨by rfl, ?_⟩) (by assumption) ?_; rotate_left 1; focus (intro w hSw; (try dsimp only at hSw); go_simp; (try with_reducible rfl)))
        | fail
      try simp only [Act.put, List.getElem_toArray, List.getElem_cons_succ, List.getElem_cons_zero, List.setIfInBounds_toArray, List.set_cons_zero, List.set_cons_succ]
      first
        | (refine wpAnyH_take (i := 13) (v := ?_) rfl (by kernel_rfl) (by kernel_rfl) (by kernel_rfl) (fun _ _ _ h => h) (Or.inl ⟨by rfl, ?_⟩) (by assumption) ?_; rotate_left 1; focus (intro w hSw; (try dsimp only at hSw); go_simp; (try with_reducible rfl)))
        | fail
      try simp only [Act.put, List.getElem_toArray, List.getElem_cons_succ, List.getElem_cons_zero, List.setIfInBounds_toArray, List.set_cons_zero, List.set_cons_succ]
      refine wpAnyH_done (by kernel_rfl) ?_ _
      go_wp2
      go_ret
      exact ⟨rfl, gw0.trans' (by assumption)⟩

end Go.Proofs.YtemojhcbhljemaaGreatDoor

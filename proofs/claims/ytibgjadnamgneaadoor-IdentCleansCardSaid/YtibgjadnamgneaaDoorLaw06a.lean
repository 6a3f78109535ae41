/- The laws of layer 6: awake; IdentWords, walked: for any input the call returns true. Conditions: the library's tables are laid. -/
import Derived.Test.YtibgjadnamgneaaDoorIdent7
import Derived.Test.YtibgjadnamgneaaDoorIdent8
import Derived.Test.YtibgjadnamgneaaDoorInts
namespace Go.Proofs.YtibgjadnamgneaaDoor
set_option linter.unusedVariables false
set_option linter.unusedSimpArgs false
open Go.RowKit

abbrev awI : Idn := ⟨⟨#[65]⟩, ⟨#[97, 64, 98]⟩, 5, -90⟩
theorem awI_print : printB awI = ⟨#[65, 32, 60, 97, 64, 98, 62, 32, 53, 32, 45, 48, 49, 51, 48]⟩ := by
  have h : rightN awI = true := by kernel_rfl
  have h5 : Lib.itoa 5 = [53] := by
    unfold Lib.itoa
    rw [if_neg (by decide), Pure.decDigits_small (by decide)]
    rfl
  unfold printB
  rw [if_pos h]
  unfold printN Pure.printL
  show (⟨((if [65] = [] then [] else [65] ++ [32]) ++ (60 :: ([97, 64, 98] ++ (62 :: 32 :: (Lib.itoa 5 ++ (32 :: Pure.zoneS (-90))))))).toArray⟩ : ByteArray) = _
  rw [h5]
  rfl
theorem awI_clean : Pure.clean [32, 97, 60] = [97] := by decide +kernel

set_option maxRecDepth 100000 in
set_option maxHeartbeats 1000000 in
theorem awake06 (w : World) (hu : U8Ok w) (ht : TabOk w) :
    Calls Tryd.prog 9 #[] w fun e w' => e = .returned (.bool true) ∧ Grew w w' := by
  have g0 : Grew w w := Below.refl _ _
  have c1 := (fun W g => ident_Print awI W (by decide) (by decide) (u8_grew hu g) (ht.grew g) : ∀ W, Grew w W → _)
  have c2 := (fun W g => ident_Clean ⟨#[32, 97, 60]⟩ W (by decide) (u8_grew hu g) : ∀ W, Grew w W → _)
  rw [awI_print] at c1
  have e2 : (⟨(Pure.clean (⟨#[32, 97, 60]⟩ : ByteArray).data.toList).toArray⟩ : ByteArray) = ⟨#[97]⟩ := by
    show (⟨(Pure.clean [32, 97, 60]).toArray⟩ : ByteArray) = _
    rw [awI_clean]
  rw [e2] at c2
  simp only [Idn.cells] at c1
  clear hu ht e2
  go_enter Tryd.func9, Tryd.ntmps9
  go_wp2_with (first | (go_at_call 11; with_reducible refine (c1 _ (by assumption)).mono ?_; rintro e1 W1 ⟨rfl, g1⟩; replace g1 := Grew.trans' (a := w) (by assumption) g1) | (go_at_call 13; with_reducible refine (c2 _ (by assumption)).mono ?_; rintro e1 W1 ⟨rfl, g1⟩; replace g1 := Grew.trans' (a := w) (by assumption) g1))
  go_ret
  exact ⟨rfl, by assumption⟩

/-! ### words -/
theorem emptyB_le : (⟨#[]⟩ : ByteArray).size ≤ 1099511627776 := by decide
theorem called_empty : calledP [] = true := by kernel_rfl
theorem right_name (n : ByteArray) : rightN ⟨n, ⟨#[]⟩, 0, 0⟩ = calledP n.data.toList := by
  unfold rightN
  have : calledP (⟨#[]⟩ : ByteArray).data.toList = true := called_empty
  simp only [this, zonedP]
  simp
theorem right_email (n : ByteArray) : rightN ⟨⟨#[]⟩, n, 0, 0⟩ = calledP n.data.toList := by
  unfold rightN
  have : calledP (⟨#[]⟩ : ByteArray).data.toList = true := called_empty
  simp only [this, zonedP]
  simp
theorem not_called_bad {l : List UInt8} {c : UInt8} (h : c ∈ l) (hc : badI c = true) : calledP l = false := by
  unfold calledP
  have : l.any badI = true := List.any_eq_true.2 ⟨c, h, hc⟩
  rw [this]
  simp
theorem not_called_pre (l : List UInt8) : calledP (32 :: l) = false := by
  unfold calledP
  have : Lib.hasPrefix (32 :: l) [32] = true := by simp [Lib.hasPrefix, List.isPrefixOf]
  rw [this]
  simp
theorem not_called_suf (l : List UInt8) : calledP (l ++ [32]) = false := by
  unfold calledP
  have : Lib.hasSuffix (l ++ [32]) [32] = true := by simp [Lib.hasSuffix]
  rw [this]
  simp
def barredB : List UInt8 := [0, 10, 60, 62]

set_option maxRecDepth 100000 in
set_option maxHeartbeats 4000000 in
theorem law_IdentWords (s : ByteArray) (x y : Int) (w : World) (hs : s.size ≤ 9223372036854775807) (hx0 : -9223372036854775808 ≤ x) (hx1 : x ≤ 9223372036854775807) (hy0 : -9223372036854775808 ≤ y) (hy1 : y ≤ 9223372036854775807) (hu : U8Ok w) (ht : TabOk w) :
    Calls Tryd.prog 3 #[.string s, .int .i64 x, .int .i64 y] w fun e w' => e = .returned (.bool true) ∧ Grew w w' := by
  have g0 : Grew w w := Below.refl _ _
  have ca := (fun W g => awake06 W (u8_grew hu g) (ht.grew g) : ∀ W, Grew w W → _)
  by_cases h0 : s.size = 0
  · have f1 : ((s.size : Int) == 0) = true := by rw [beq_iff_eq]; omega
    clear hu ht
    go_enter Tryd.func3, Tryd.ntmps3
    go_wp2_with (first | (go_at_call 9; with_reducible refine (ca _ (by assumption)).mono ?_; rintro e1 W1 ⟨rfl, g1⟩; replace g1 := Grew.trans' (a := w) (by assumption) g1))
    go_ret
    exact ⟨rfl, by assumption⟩
  have f1 : ((s.size : Int) == 0) = false := by rw [beq_eq_false_iff_ne]; omega
  by_cases h1 : 199 < s.size
  · have f2 : decide (199 < (s.size : Int)) = true := decide_eq_true (by omega)
    clear hu ht
    go_enter Tryd.func3, Tryd.ntmps3
    go_wp2_with (first | (go_at_call 9; with_reducible refine (ca _ (by assumption)).mono ?_; rintro e1 W1 ⟨rfl, g1⟩; replace g1 := Grew.trans' (a := w) (by assumption) g1))
    go_ret
    exact ⟨rfl, by assumption⟩
  have f2 : decide (199 < (s.size : Int)) = false := decide_eq_false (by omega)
  have cR := (fun W g => ref_RightN ⟨s, ⟨#[]⟩, 0, 0⟩ W (by show s.size ≤ _; omega) emptyB_le (u8_grew hu g) : ∀ W, Grew w W → _)
  have c1 := (fun W g => ident_Right ⟨s, ⟨#[]⟩, 0, 0⟩ W (by show s.size ≤ _; omega) emptyB_le (u8_grew hu g) : ∀ W, Grew w W → _)
  have c2 := (fun W g => ident_Right ⟨⟨#[]⟩, s, 0, 0⟩ W emptyB_le (by show s.size ≤ _; omega) (u8_grew hu g) : ∀ W, Grew w W → _)
  rw [right_name] at cR c1
  rw [right_email] at c2
  obtain ⟨B, hB⟩ : ∃ B, calledP s.data.toList = B := ⟨_, rfl⟩
  rw [hB] at cR c1 c2
  simp only [Idn.cells] at cR c1 c2
  cases B with
  | false =>
    clear hu ht c1 c2
    go_enter Tryd.func3, Tryd.ntmps3
    go_wp2_with (first | (go_at_call 9; with_reducible refine (ca _ (by assumption)).mono ?_; rintro e1 W1 ⟨rfl, g1⟩; replace g1 := Grew.trans' (a := w) (by assumption) g1) | (go_at_call 8; with_reducible refine (cR _ (by assumption)).mono ?_; rintro e1 W1 ⟨rfl, g1⟩; replace g1 := Grew.trans' (a := w) (by assumption) g1))
    go_ret
    exact ⟨rfl, by assumption⟩
  | true =>
    obtain ⟨K, hK, hKl⟩ := pick_wrap x (s.size + 1) ((s.size : Int) + 1) (by omega) (by omega) (by omega)
    obtain ⟨J, hJ, hJ4⟩ := pick_wrap y 4 4 rfl (by decide) (by decide)
    obtain ⟨c, hc⟩ : ∃ c, barredB.getD J 0 = c := ⟨_, rfl⟩
    have hcb : badI c = true := by
      rw [← hc]
      have : J = 0 ∨ J = 1 ∨ J = 2 ∨ J = 3 := by omega
      rcases this with rfl | rfl | rfl | rfl <;> rfl
    have hpc : ∀ W : World, (W.drew.alloc (.cells #[Value.string { data := #[0] }, Value.string { data := #[10] }, Value.string { data := #[60] }, Value.string { data := #[62] }] 9)).cell? ⟨W.heap.size, J, none⟩ = some (.string ⟨#[c]⟩) := by
      intro W
      have := cell_of_row (W.drew.alloc (.cells #[Value.string { data := #[0] }, Value.string { data := #[10] }, Value.string { data := #[60] }, Value.string { data := #[62] }] 9)) W.heap.size J _ _ (0, 0) (heap_alloc_new W.drew _)
      rw [this, ← hc]
      have : J = 0 ∨ J = 1 ∨ J = 2 ∨ J = 3 := by omega
      rcases this with rfl | rfl | rfl | rfl <;> rfl
    have hlj : ∀ (h : J < [Value.string { data := #[0] }, Value.string { data := #[10] }, Value.string { data := #[60] }, Value.string { data := #[62] }].length), [Value.string { data := #[0] }, Value.string { data := #[10] }, Value.string { data := #[60] }, Value.string { data := #[62] }][J]'h = Value.string ⟨#[c]⟩ := by
      intro h
      rw [← hc]
      have : J = 0 ∨ J = 1 ∨ J = 2 ∨ J = 3 := by omega
      rcases this with rfl | rfl | rfl | rfl <;> rfl
    obtain ⟨T1, hT1⟩ : ∃ T : ByteArray, s.extract 0 K ++ (⟨#[c]⟩ : ByteArray) = T := ⟨_, rfl⟩
    obtain ⟨T2, hT2⟩ : ∃ T : ByteArray, T1 ++ s.extract K s.size = T := ⟨_, rfl⟩
    obtain ⟨T3, hT3⟩ : ∃ T : ByteArray, (⟨#[32]⟩ : ByteArray) ++ s = T := ⟨_, rfl⟩
    obtain ⟨T4, hT4⟩ : ∃ T : ByteArray, s ++ (⟨#[32]⟩ : ByteArray) = T := ⟨_, rfl⟩
    have e1 : (s.extract 0 K).size = K := by rw [ByteArray.size_extract]; omega
    have e2 : (s.extract K s.size).size = s.size - K := by rw [ByteArray.size_extract]; omega
    have s1 : T1.size = K + 1 := by rw [← hT1, ByteArray.size_append, e1]; rfl
    have s2 : T2.size = s.size + 1 := by rw [← hT2, ByteArray.size_append, s1, e2]; omega
    have s3 : T3.size = 1 + s.size := by rw [← hT3, ByteArray.size_append]; rfl
    have s4 : T4.size = s.size + 1 := by rw [← hT4, ByteArray.size_append]; rfl
    have b2 : calledP T2.data.toList = false := by
      refine not_called_bad (c := c) ?_ hcb
      rw [← hT2, append_list, ← hT1, append_list]
      simp
    have b3 : calledP T3.data.toList = false := by rw [← hT3, append_list]; exact not_called_pre _
    have b4 : calledP T4.data.toList = false := by rw [← hT4, append_list]; exact not_called_suf _
    have d1 := (fun W g => ident_Right ⟨T2, ⟨#[]⟩, 0, 0⟩ W (by show T2.size ≤ _; omega) emptyB_le (u8_grew hu g) : ∀ W, Grew w W → _)
    have d2 := (fun W g => ident_Right ⟨⟨#[]⟩, T2, 0, 0⟩ W emptyB_le (by show T2.size ≤ _; omega) (u8_grew hu g) : ∀ W, Grew w W → _)
    have d3 := (fun W g => ident_Right ⟨T3, ⟨#[]⟩, 0, 0⟩ W (by show T3.size ≤ _; omega) emptyB_le (u8_grew hu g) : ∀ W, Grew w W → _)
    have d4 := (fun W g => ident_Right ⟨T4, ⟨#[]⟩, 0, 0⟩ W (by show T4.size ≤ _; omega) emptyB_le (u8_grew hu g) : ∀ W, Grew w W → _)
    rw [right_name, b2] at d1
    rw [right_email, b2] at d2
    rw [right_name, b3] at d3
    rw [right_name, b4] at d4
    simp only [Idn.cells] at d1 d2 d3 d4
    have n1 : ¬ 9223372036854775807 < (s.extract 0 K).size + 1 := by omega
    have n2 : ¬ 9223372036854775807 < T1.size + (s.extract K s.size).size := by omega
    have n1b : ¬ 9223372036854775807 < K + 1 := by omega
    have n2b : ¬ 9223372036854775807 < T1.size + (s.size - K) := by omega
    have n3 : ¬ 9223372036854775807 < 1 + s.size := by omega
    have n4 : ¬ 9223372036854775807 < s.size + 1 := by omega
    clear hu ht b2 b3 b4 hcb hc hB
    clear s1 s2 s3 s4 e1 e2
    go_enter Tryd.func3, Tryd.ntmps3
    go_wp2_with (first | (go_at_call 9; with_reducible refine (ca _ (by assumption)).mono ?_; rintro e1 W1 ⟨rfl, g1⟩; replace g1 := Grew.trans' (a := w) (by assumption) g1) | (go_at_call 8; with_reducible refine (cR _ (by assumption)).mono ?_; rintro e1 W1 ⟨rfl, g1⟩; replace g1 := Grew.trans' (a := w) (by assumption) g1))
    have hKs : K ≤ s.size := by omega
    have hJ2 : IntKind.i64.wrap ((IntKind.u64.wrap y).tmod 4) = (J : Int) := by
      have h0 : 0 ≤ IntKind.u64.wrap y := by simp [IntKind.wrap, IntKind.bits, IntKind.signed]; omega
      have hz : (IntKind.u64.wrap y).tmod 4 = (J : Int) := by
        rw [Int.tmod_eq_emod_of_nonneg h0] at hJ ⊢
        unfold wrap64 at hJ
        omega
      rw [hz]
      exact IntWalk.i64_in _ (by omega)
    have hJ4i : (J : Int) < 4 := by omega
    refine wp_region_held_drew (S := fun w' => Grew w w') (by kernel_rfl) (by (first | assumption | exact Below.drew (by assumption) | exact Grew.trans' (Below.drew (by assumption)) ((Below.refl _ _).alloc (Nat.le_refl _) _))) (fun hHeld => ?_)
    first
      | (refine wpAnyH_take (i := 0) (v := ?_) rfl (by kernel_rfl) (by kernel_rfl) (by kernel_rfl) (fun _ _ _ h => h) (Or.inl ⟨by rfl, ?_⟩) (by assumption) ?_; rotate_left 1; focus (intro w hSw; (try dsimp only at hSw); go_simp; (try with_reducible rfl)))
      | fail
    try simp only [Act.put, List.getElem_toArray, List.getElem_cons_succ, List.getElem_cons_zero, List.setIfInBounds_toArray, List.set_cons_zero, List.set_cons_succ]
    first
      | (refine wpAnyH_take (i := 1) (v := ?_) rfl (by kernel_rfl) (by kernel_rfl) (by kernel_rfl) (fun _ _ _ h => h) (Or.inl ⟨by rfl, ?_⟩) (by assumption) ?_; rotate_left 1; focus (intro w hSw; (try dsimp only at hSw); go_simp; (try with_reducible rfl)))
      | fail
    try simp only [Act.put, List.getElem_toArray, List.getElem_cons_succ, List.getElem_cons_zero, List.setIfInBounds_toArray, List.set_cons_zero, List.set_cons_succ]
    first
      | (refine wpAnyH_take (i := 2) (v := ?_) rfl (by kernel_rfl) (by kernel_rfl) (by kernel_rfl) (fun _ _ _ h => h) (Or.inl ⟨by rfl, ?_⟩) (by assumption) ?_; rotate_left 1; focus (intro w hSw; (try dsimp only at hSw); go_simp; (try with_reducible rfl)))
      | fail
    try simp only [Act.put, List.getElem_toArray, List.getElem_cons_succ, List.getElem_cons_zero, List.setIfInBounds_toArray, List.set_cons_zero, List.set_cons_succ]
    first
      | (refine wpAnyH_take (i := 4) (v := ?_) rfl (by kernel_rfl) (by kernel_rfl) (by kernel_rfl) (fun _ _ _ h => h) (Or.inl ⟨by rfl, ?_⟩) (by assumption) ?_; rotate_left 1; focus (intro w hSw; (try dsimp only at hSw); go_simp; (try with_reducible rfl)))
      | fail
    try simp only [Act.put, List.getElem_toArray, List.getElem_cons_succ, List.getElem_cons_zero, List.setIfInBounds_toArray, List.set_cons_zero, List.set_cons_succ]
    first
      | (refine wpAnyH_take (i := 5) (v := ?_) rfl (by kernel_rfl) (by kernel_rfl) (by kernel_rfl) (fun _ _ _ h => h) (Or.inl ⟨by rfl, ?_⟩) (by assumption) ?_; rotate_left 1; focus (intro w hSw; (try dsimp only at hSw); go_simp; (try with_reducible rfl)))
      | fail
    try simp only [Act.put, List.getElem_toArray, List.getElem_cons_succ, List.getElem_cons_zero, List.setIfInBounds_toArray, List.set_cons_zero, List.set_cons_succ]
    first
      | (refine wpAnyH_take (i := 6) (v := ?_) rfl (by kernel_rfl) (by kernel_rfl) (by kernel_rfl) (fun _ _ _ h => h) (Or.inl ⟨by rfl, ?_⟩) (by assumption) ?_; rotate_left 1; focus (intro w hSw; (try dsimp only at hSw); go_simp; (try with_reducible rfl)))
      | fail
    try simp only [Act.put, List.getElem_toArray, List.getElem_cons_succ, List.getElem_cons_zero, List.setIfInBounds_toArray, List.set_cons_zero, List.set_cons_succ]
    first
      | (refine wpAnyH_take (i := 7) (v := ?_) rfl (by kernel_rfl) (by kernel_rfl) (by kernel_rfl) (fun _ _ _ h => h) (Or.inl ⟨by rfl, ?_⟩) (by assumption) ?_; rotate_left 1; focus (intro w hSw; (try dsimp only at hSw); go_simp; (try with_reducible rfl)))
      | fail
    try simp only [Act.put, List.getElem_toArray, List.getElem_cons_succ, List.getElem_cons_zero, List.setIfInBounds_toArray, List.set_cons_zero, List.set_cons_succ]
    first
      | (refine wpAnyH_take (i := 11) (v := ?_) rfl (by kernel_rfl) (by kernel_rfl) (by kernel_rfl) (fun _ _ _ h => h) (Or.inl ⟨by rfl, ?_⟩) (by assumption) ?_; rotate_left 1; focus (intro w hSw; (try dsimp only at hSw); go_simp; (try with_reducible rfl)))
      | fail
    try simp only [Act.put, List.getElem_toArray, List.getElem_cons_succ, List.getElem_cons_zero, List.setIfInBounds_toArray, List.set_cons_zero, List.set_cons_succ]
    first
      | (refine wpAnyH_take (i := 12) (v := ?_) rfl (by kernel_rfl) (by kernel_rfl) (by kernel_rfl) (fun _ _ _ h => h) (Or.inl ⟨by rfl, ?_⟩) (by assumption) ?_; rotate_left 1; focus (intro w hSw; (try dsimp only at hSw); go_simp; (try with_reducible rfl)))
      | fail
    try simp only [Act.put, List.getElem_toArray, List.getElem_cons_succ, List.getElem_cons_zero, List.setIfInBounds_toArray, List.set_cons_zero, List.set_cons_succ]
    first
      | (refine wpAnyH_take (i := 13) (v := ?_) rfl (by kernel_rfl) (by kernel_rfl) (by kernel_rfl) (fun _ _ _ h => h) (Or.inl ⟨by rfl, ?_⟩) (by assumption) ?_; rotate_left 1; focus (intro w hSw; (try dsimp only at hSw); go_simp; (try with_reducible rfl)))
      | fail
    try simp only [Act.put, List.getElem_toArray, List.getElem_cons_succ, List.getElem_cons_zero, List.setIfInBounds_toArray, List.set_cons_zero, List.set_cons_succ]
    refine wpAnyH_ready (rs := [3]) (by kernel_rfl) (by simp) ?_
    refine AllReadyH.cons rfl (fun K hK => ?_) AllReadyH.nil
    go_simp
    skip
    go_wp2_with fail
    refine hK.out _ _ (by (first | assumption | exact Below.drew (by assumption) | exact Grew.trans' (Below.drew (by assumption)) ((Below.refl _ _).alloc (Nat.le_refl _) _))) (fun hHeld => ?_)
    clear hK K
    try simp only [Act.put, List.getElem_toArray, List.getElem_cons_succ, List.getElem_cons_zero, List.setIfInBounds_toArray, List.set_cons_zero, List.set_cons_succ]
    first
      | (refine wpAnyH_take (i := 8) (v := ?_) rfl (by kernel_rfl) (by kernel_rfl) (by kernel_rfl) (fun _ _ _ h => h) (Or.inl ⟨by rfl, ?_⟩) (by assumption) ?_; rotate_left 1; focus (intro w hSw; (try dsimp only at hSw); go_simp; (try with_reducible rfl)))
      | fail
    try simp only [Act.put, List.getElem_toArray, List.getElem_cons_succ, List.getElem_cons_zero, List.setIfInBounds_toArray, List.set_cons_zero, List.set_cons_succ]
    refine wpAnyH_ready (rs := [9]) (by kernel_rfl) (by simp) ?_
    refine AllReadyH.cons rfl (fun K hK => ?_) AllReadyH.nil
    go_simp
    skip
    go_wp2_with fail
    refine hK.out _ _ (by (first | assumption | exact Below.drew (by assumption) | exact Grew.trans' (Below.drew (by assumption)) ((Below.refl _ _).alloc (Nat.le_refl _) _))) (fun hHeld => ?_)
    clear hK K
    try simp only [Act.put, List.getElem_toArray, List.getElem_cons_succ, List.getElem_cons_zero, List.setIfInBounds_toArray, List.set_cons_zero, List.set_cons_succ]
    first
      | (refine wpAnyH_take (i := 10) (v := ?_) rfl (by kernel_rfl) (by kernel_rfl) (by kernel_rfl) (fun _ _ _ h => h) (Or.inl ⟨by rfl, ?_⟩) (by assumption) ?_; rotate_left 1; focus (intro w hSw; (try dsimp only at hSw); go_simp; (try with_reducible rfl)))
      | fail
    try simp only [Act.put, List.getElem_toArray, List.getElem_cons_succ, List.getElem_cons_zero, List.setIfInBounds_toArray, List.set_cons_zero, List.set_cons_succ]
    first
      | (refine wpAnyH_take (i := 14) (v := ?_) rfl (by kernel_rfl) (by kernel_rfl) (by kernel_rfl) (fun _ _ _ h => h) (Or.inl ⟨by rfl, ?_⟩) (by assumption) ?_; rotate_left 1; focus (intro w hSw; (try dsimp only at hSw); go_simp; (try with_reducible rfl)))
      | fail
    try simp only [Act.put, List.getElem_toArray, List.getElem_cons_succ, List.getElem_cons_zero, List.setIfInBounds_toArray, List.set_cons_zero, List.set_cons_succ]
    first
      | (refine wpAnyH_take (i := 15) (v := ?_) rfl (by kernel_rfl) (by kernel_rfl) (by kernel_rfl) (fun _ _ _ h => h) (Or.inl ⟨by rfl, ?_⟩) (by assumption) ?_; rotate_left 1; focus (intro w hSw; (try dsimp only at hSw); go_simp; (try with_reducible rfl)))
      | fail
    try simp only [Act.put, List.getElem_toArray, List.getElem_cons_succ, List.getElem_cons_zero, List.setIfInBounds_toArray, List.set_cons_zero, List.set_cons_succ]
    refine wpAnyH_done (by kernel_rfl) ?_ _
    go_wp2_with (first | (go_at_call 9; with_reducible refine (ca _ (by assumption)).mono ?_; rintro e1 W1 ⟨rfl, g1⟩; replace g1 := Grew.trans' (a := w) (by assumption) g1) | (go_at_call 10; with_reducible refine (c1 _ (by assumption)).mono ?_; rintro e1 W1 ⟨rfl, g1⟩; replace g1 := Grew.trans' (a := w) (by assumption) g1) | (go_at_call 10; with_reducible refine (c2 _ (by assumption)).mono ?_; rintro e1 W1 ⟨rfl, g1⟩; replace g1 := Grew.trans' (a := w) (by assumption) g1) | (go_at_call 10; with_reducible refine (d1 _ (by assumption)).mono ?_; rintro e1 W1 ⟨rfl, g1⟩; replace g1 := Grew.trans' (a := w) (by assumption) g1) | (go_at_call 10; with_reducible refine (d2 _ (by assumption)).mono ?_; rintro e1 W1 ⟨rfl, g1⟩; replace g1 := Grew.trans' (a := w) (by assumption) g1) | (go_at_call 10; with_reducible refine (d3 _ (by assumption)).mono ?_; rintro e1 W1 ⟨rfl, g1⟩; replace g1 := Grew.trans' (a := w) (by assumption) g1) | (go_at_call 10; with_reducible refine (d4 _ (by assumption)).mono ?_; rintro e1 W1 ⟨rfl, g1⟩; replace g1 := Grew.trans' (a := w) (by assumption) g1))
    go_ret
    exact ⟨rfl, by assumption⟩

end Go.Proofs.YtibgjadnamgneaaDoor

/- The reference's Zone: the zone that a text is. Conditions: the text is at most 2^40 bytes long. -/
import Derived.Test.YtemojhcbhljemaaGreatDoorIdent9
namespace Go.Proofs.YtemojhcbhljemaaGreatDoor
set_option linter.unusedVariables false
set_option linter.unusedSimpArgs false
open Go.RowKit

theorem zone_sign {s a b c d : UInt8} (h : s ≠ 43 ∧ s ≠ 45) : Pure.zoneF [s, a, b, c, d] = none := by
  cases hz : Pure.zoneF [s, a, b, c, d] with
  | none => rfl
  | some z =>
    exfalso
    obtain ⟨-, hS⟩ := Pure.zoneF_some hz
    unfold Pure.zoneS Pure.zoneT at hS
    cases hd : decide (z < 0) with
    | true => rw [hd] at hS; simp at hS; exact h.2 hS.1.symm
    | false => rw [hd] at hS; simp at hS; exact h.1 hS.1.symm
theorem byte_is (a : UInt8) (n : Nat) (hn : n < 256) : ((a.toNat : Int) == (n : Int)) = decide (a = UInt8.ofNat n) := by
  rw [Bool.eq_iff_iff]
  simp only [beq_iff_eq, decide_eq_true_eq]
  constructor
  · intro h; apply UInt8.toNat_inj.1; rw [UInt8.toNat_ofNat']; omega
  · intro h; rw [h, UInt8.toNat_ofNat']; omega
theorem u8_minus {c : UInt8} (h : Pure.digit c = true) : IntKind.u8.wrap ((c.toNat : Int) - 48) = ((Pure.dv c : Nat) : Int) := by
  unfold Pure.digit at h
  simp at h
  unfold Pure.dv
  simp [IntKind.wrap, IntKind.bits, IntKind.signed]
  omega

set_option maxRecDepth 100000 in
set_option maxHeartbeats 4000000 in
theorem ref06_Zone (s : ByteArray) (w : World) (hs : s.size ≤ 1099511627776) :
    Calls Tryz.prog 52 #[.string s] w fun e w' => e = .returned (zoneV (Pure.zoneF s.data.toList)) ∧ Grew w w' := by
  have g0 : Grew w w := Below.refl _ _
  have hsl : s.data.toList.length = s.size := Array.length_toList
  by_cases h5 : s.size = 5
  · obtain ⟨s0, a, b, c, d, hl⟩ := list_five (hsl.trans h5)
    have f1 : ((s.size : Int) == 5) = true := by rw [beq_iff_eq]; omega
    have hc0 : ∀ W : World, (Instr.index 9 (.string s) (.int .i64 0)).run Tryz.prog W = .ok (.int .u8 (s0.toNat : Int)) W := fun W => index_str s 0 s0 (by rw [hl]; rfl) W
    have hck : ∀ k : Nat, 1 ≤ k → k < 5 → ∀ W : World, (Instr.index 9 (.string s) (.int .i64 (k : Int))).run Tryz.prog W = .ok (.int .u8 ((([a, b, c, d].getD (k - 1) 0).toNat : Nat) : Int)) W := by
      intro k h1 h2 W
      refine index_str s k _ ?_ W
      rw [hl]
      have : k = 1 ∨ k = 2 ∨ k = 3 ∨ k = 4 := by omega
      rcases this with rfl | rfl | rfl | rfl <;> rfl
    have HCK := Lib.hid hck
    have HL := Lib.hid hl
    clear hck
    have b43 := byte_is s0 43 (by decide)
    have b45 := byte_is s0 45 (by decide)
    rw [show ((43 : Nat) : Int) = 43 from rfl, show UInt8.ofNat 43 = 43 from rfl] at b43
    rw [show ((45 : Nat) : Int) = 45 from rfl, show UInt8.ofNat 45 = 45 from rfl] at b45
    clear hl hsl
    by_cases hsg : s0 ≠ 43 ∧ s0 ≠ 45
    · rw [decide_eq_false hsg.1] at b43
      rw [decide_eq_false hsg.2] at b45
      have hz := zone_sign (a := a) (b := b) (c := c) (d := d) hsg
      have HZ := Lib.hid hz
      have m43 : ((s0.toNat : Int) != 43) = true := by rw [bne, b43]; rfl
      have m45 : ((s0.toNat : Int) != 45) = true := by rw [bne, b45]; rfl
      clear hz hsg
      go_enter Tryz.func52, Tryz.ntmps52
      go_wp2
      go_ret2
      exact ⟨by rw [HL.out, HZ.out]; rfl, g0⟩
    · have hsg2 : s0 = 43 ∨ s0 = 45 := by
        by_cases h : s0 = 43
        · exact .inl h
        · by_cases h' : s0 = 45
          · exact .inr h'
          · exact absurd ⟨h, h'⟩ hsg
      have HSG := Lib.hid hsg2
      clear hsg
      have hsgn : ((((s0.toNat : Int) == 43) = true ∧ ((s0.toNat : Int) == 45) = false ∧ s0 = 43) ∨ (((s0.toNat : Int) == 43) = false ∧ ((s0.toNat : Int) == 45) = true ∧ s0 = 45)) := by
        rcases hsg2 with rfl | rfl
        · exact .inl ⟨by decide, by decide, rfl⟩
        · exact .inr ⟨by decide, by decide, rfl⟩
      clear hsg2 b43 b45
      rcases hsgn with ⟨b43, b45, hs0⟩ | ⟨b43, b45, hs0⟩
      all_goals
        go_enter Tryz.func52, Tryz.ntmps52
        go_wp2
        go_loopw [4] (fun i wr => ∃ k : Nat, 1 ≤ k ∧ k ≤ 5 ∧ i = .int .i64 (k : Int) ∧ Grew w wr ∧ Hid (∀ j, j < k - 1 → Pure.digit ([a, b, c, d].getD j 0) = true)) (fun i _ => 5 - (intOf i).toNat)
        case atStart => exact ⟨1, by omega, by omega, rfl, g0, Lib.hid (fun j hj => by omega)⟩
        case round =>
          obtain ⟨k, hk1, hk5, rfl, hg, hdig⟩ := hrel
          by_cases hk : k < 5
          · have f2 : decide ((k : Int) < 5) = true := decide_eq_true (by omega)
            have hcc := HCK.out k hk1 hk
            obtain ⟨ch, hch⟩ : ∃ ch, [a, b, c, d].getD (k - 1) 0 = ch := ⟨_, rfl⟩
            rw [hch] at hcc
            by_cases hd : Pure.digit ch = true
            · have hb : 48 ≤ ch.toNat ∧ ch.toNat ≤ 57 := by unfold Pure.digit at hd; simpa using hd
              have f3 : decide ((ch.toNat : Int) < 48) = false := decide_eq_false (by omega)
              have f4 : decide (57 < (ch.toNat : Int)) = false := decide_eq_false (by omega)
              have hdg : ∀ j, j < k + 1 - 1 → Pure.digit ([a, b, c, d].getD j 0) = true := by
                intro j hj
                by_cases hjp : j = k - 1
                · rw [hjp, hch]; exact hd
                · exact hdig.out j (by omega)
              have HDG := Lib.hid hdg
              clear hdg hdig hd hch
              go_wp2
              go_roundw
              case rel => exact ⟨k + 1, by omega, by omega, by go_num, hg, HDG⟩
              case measure => simp [intOf]; omega
            · have hbad := zone_bad (a := s0) (b := a) (c := b) (d := c) (e := d) ⟨k - 1, by omega, by rw [hch]; simpa using hd⟩
              have hb : ch.toNat < 48 ∨ (48 ≤ ch.toNat ∧ 57 < ch.toNat) := by unfold Pure.digit at hd; simp at hd; omega
              have HB := Lib.hid hbad
              clear hbad hdig hd hch
              rcases hb with hb | ⟨hb0, hb⟩
              · have f3 : decide ((ch.toNat : Int) < 48) = true := decide_eq_true (by omega)
                go_wp2
                go_ret2
                exact ⟨by rw [HL.out, HB.out]; rfl, hg⟩
              · have f3 : decide ((ch.toNat : Int) < 48) = false := decide_eq_false (by omega)
                have f4 : decide (57 < (ch.toNat : Int)) = true := decide_eq_true (by omega)
                go_wp2
                go_ret2
                exact ⟨by rw [HL.out, HB.out]; rfl, hg⟩
          · obtain rfl : k = 5 := by omega
            have hda := hdig.out 0 (by omega)
            have hdb := hdig.out 1 (by omega)
            have hdc := hdig.out 2 (by omega)
            have hdd := hdig.out 3 (by omega)
            have hc1 := HCK.out 1 (by omega) (by omega)
            have hc2 := HCK.out 2 (by omega) (by omega)
            have hc3 := HCK.out 3 (by omega) (by omega)
            have hc4 := HCK.out 4 (by omega) (by omega)
            have hdA : Pure.digit a = true := hda
            have hdB : Pure.digit b = true := hdb
            have hdC : Pure.digit c = true := hdc
            have hdD : Pure.digit d = true := hdd
            have hc1' : ∀ W : World, (Instr.index 9 (.string s) (.int .i64 1)).run Tryz.prog W = .ok (.int .u8 (a.toNat : Int)) W := hc1
            have hc2' : ∀ W : World, (Instr.index 9 (.string s) (.int .i64 2)).run Tryz.prog W = .ok (.int .u8 (b.toNat : Int)) W := hc2
            have hc3' : ∀ W : World, (Instr.index 9 (.string s) (.int .i64 3)).run Tryz.prog W = .ok (.int .u8 (c.toNat : Int)) W := hc3
            have hc4' : ∀ W : World, (Instr.index 9 (.string s) (.int .i64 4)).run Tryz.prog W = .ok (.int .u8 (d.toNat : Int)) W := hc4
            have uA := u8_minus hdA
            have uB := u8_minus hdB
            have uC := u8_minus hdC
            have uD := u8_minus hdD
            have lA := dv_lt hdA
            have lB := dv_lt hdB
            have lC := dv_lt hdC
            have lD := dv_lt hdD
            have href := Pure.zoneF_ref s0 a b c d hdA hdB hdC hdD HSG.out
            generalize Pure.dv a = A at *
            generalize Pure.dv b = B at *
            generalize Pure.dv c = C at *
            generalize Pure.dv d = D at *
            have wA : IntKind.i64.wrap ((A : Nat) : Int) = ((A : Nat) : Int) := IntWalk.i64_in _ (by omega)
            have wB : IntKind.i64.wrap ((B : Nat) : Int) = ((B : Nat) : Int) := IntWalk.i64_in _ (by omega)
            have wC : IntKind.i64.wrap ((C : Nat) : Int) = ((C : Nat) : Int) := IntWalk.i64_in _ (by omega)
            have wD : IntKind.i64.wrap ((D : Nat) : Int) = ((D : Nat) : Int) := IntWalk.i64_in _ (by omega)
            obtain ⟨M, hM⟩ : ∃ M, C * 10 + D = M := ⟨_, rfl⟩
            obtain ⟨H, hH⟩ : ∃ H, A * 10 + B = H := ⟨_, rfl⟩
            rw [hM, hH] at href
            obtain ⟨Z, hZ⟩ : ∃ Z, H * 60 + M = Z := ⟨_, rfl⟩
            rw [hZ] at href
            have w1 : IntKind.i64.wrap ((C : Int) * 10) = (C : Int) * 10 := IntWalk.i64_in _ (by omega)
            have w2 : IntKind.i64.wrap ((C : Int) * 10 + (D : Int)) = (M : Int) := by rw [IntWalk.i64_in _ (by omega)]; omega
            have w3 : IntKind.i64.wrap ((A : Int) * 10) = (A : Int) * 10 := IntWalk.i64_in _ (by omega)
            have w4 : IntKind.i64.wrap ((A : Int) * 10 + (B : Int)) = (H : Int) := by rw [IntWalk.i64_in _ (by omega)]; omega
            have w5 : IntKind.i64.wrap ((H : Int) * 60) = (H : Int) * 60 := IntWalk.i64_in _ (by omega)
            have w6 : IntKind.i64.wrap ((H : Int) * 60 + (M : Int)) = (Z : Int) := by rw [IntWalk.i64_in _ (by omega)]; omega
            have hMl : M < 100 := by omega
            have hZl : Z < 10000 := by omega
            have wn : IntKind.i64.wrap (-(Z : Int)) = -(Z : Int) := IntWalk.i64_in _ (by omega)
            have HREF := Lib.hid href
            clear href hdig hda hdb hdc hdd hc1 hc2 hc3 hc4 hdA hdB hdC hdD lA lB lC lD hM hH hZ
            have hways : (59 < M) ∨ (¬ 59 < M ∧ 840 < Z) ∨ (¬ 59 < M ∧ ¬ 840 < Z ∧ Z = 0) ∨ (¬ 59 < M ∧ ¬ 840 < Z ∧ ¬ Z = 0) := by omega
            go_wp2
            refine wp_region_held_drew (S := fun w' => Grew w w') (by kernel_rfl) (by first | assumption | exact Below.drew (by assumption)) (fun hHeld => ?_)
            first
              | (refine wpAnyH_take (i := 0) (v := ?_) rfl (by kernel_rfl) (by kernel_rfl) (by kernel_rfl) (fun _ _ _ h => h) (Or.inl ⟨by rfl, ?_⟩) (by assumption) ?_; rotate_left 1; focus (intro w hSw; (try dsimp only at hSw); go_simp; (try with_reducible rfl)))
              | fail
            try simp only [Act.put, List.getElem_toArray, List.getElem_cons_succ, List.getElem_cons_zero, List.setIfInBounds_toArray, List.set_cons_zero, List.set_cons_succ]
            first
              | (refine wpAnyH_take (i := 1) (v := ?_) rfl (by kernel_rfl) (by kernel_rfl) (by kernel_rfl) (fun _ _ _ h => h) (Or.inl ⟨by rfl, ?_⟩) (by assumption) ?_; rotate_left 1; focus (intro w hSw; (try dsimp only at hSw); go_simp; (try with_reducible rfl)))
              | fail
            try simp only [Act.put, List.getElem_toArray, List.getElem_cons_succ, List.getElem_cons_zero, List.setIfInBounds_toArray, List.set_cons_zero, List.set_cons_succ]
            first
              | (refine wpAnyH_take (i := 2) (v := ?_) rfl (by kernel_rfl) (by kernel_rfl) (by kernel_rfl) (fun _ _ _ h => h) (Or.inl ⟨by rfl, ?_⟩) (by assumption) ?_; rotate_left 1; focus (intro w hSw; (try dsimp only at hSw); go_simp; (try with_reducible rfl)))
              | fail
            try simp only [Act.put, List.getElem_toArray, List.getElem_cons_succ, List.getElem_cons_zero, List.setIfInBounds_toArray, List.set_cons_zero, List.set_cons_succ]
            first
              | (refine wpAnyH_take (i := 3) (v := ?_) rfl (by kernel_rfl) (by kernel_rfl) (by kernel_rfl) (fun _ _ _ h => h) (Or.inl ⟨by rfl, ?_⟩) (by assumption) ?_; rotate_left 1; focus (intro w hSw; (try dsimp only at hSw); go_simp; (try with_reducible rfl)))
              | fail
            try simp only [Act.put, List.getElem_toArray, List.getElem_cons_succ, List.getElem_cons_zero, List.setIfInBounds_toArray, List.set_cons_zero, List.set_cons_succ]
            first
              | (refine wpAnyH_take (i := 4) (v := ?_) rfl (by kernel_rfl) (by kernel_rfl) (by kernel_rfl) (fun _ _ _ h => h) (Or.inl ⟨by rfl, ?_⟩) (by assumption) ?_; rotate_left 1; focus (intro w hSw; (try dsimp only at hSw); go_simp; (try with_reducible rfl)))
              | fail
            try simp only [Act.put, List.getElem_toArray, List.getElem_cons_succ, List.getElem_cons_zero, List.setIfInBounds_toArray, List.set_cons_zero, List.set_cons_succ]
            first
              | (refine wpAnyH_take (i := 5) (v := ?_) rfl (by kernel_rfl) (by kernel_rfl) (by kernel_rfl) (fun _ _ _ h => h) (Or.inl ⟨by rfl, ?_⟩) (by assumption) ?_; rotate_left 1; focus (intro w hSw; (try dsimp only at hSw); go_simp; (try with_reducible rfl)))
              | fail
            try simp only [Act.put, List.getElem_toArray, List.getElem_cons_succ, List.getElem_cons_zero, List.setIfInBounds_toArray, List.set_cons_zero, List.set_cons_succ]
            first
              | (refine wpAnyH_take (i := 6) (v := ?_) rfl (by kernel_rfl) (by kernel_rfl) (by kernel_rfl) (fun _ _ _ h => h) (Or.inl ⟨by rfl, ?_⟩) (by assumption) ?_; rotate_left 1; focus (intro w hSw; (try dsimp only at hSw); go_simp; (try with_reducible rfl)))
              | fail
            try simp only [Act.put, List.getElem_toArray, List.getElem_cons_succ, List.getElem_cons_zero, List.setIfInBounds_toArray, List.set_cons_zero, List.set_cons_succ]
            first
              | (refine wpAnyH_take (i := 7) (v := ?_) rfl (by kernel_rfl) (by kernel_rfl) (by kernel_rfl) (fun _ _ _ h => h) (Or.inl ⟨by rfl, ?_⟩) (by assumption) ?_; rotate_left 1; focus (intro w hSw; (try dsimp only at hSw); go_simp; (try with_reducible rfl)))
              | fail
            try simp only [Act.put, List.getElem_toArray, List.getElem_cons_succ, List.getElem_cons_zero, List.setIfInBounds_toArray, List.set_cons_zero, List.set_cons_succ]
            first
              | (refine wpAnyH_take (i := 8) (v := ?_) rfl (by kernel_rfl) (by kernel_rfl) (by kernel_rfl) (fun _ _ _ h => h) (Or.inl ⟨by rfl, ?_⟩) (by assumption) ?_; rotate_left 1; focus (intro w hSw; (try dsimp only at hSw); go_simp; (try with_reducible rfl)))
              | fail
            try simp only [Act.put, List.getElem_toArray, List.getElem_cons_succ, List.getElem_cons_zero, List.setIfInBounds_toArray, List.set_cons_zero, List.set_cons_succ]
            first
              | (refine wpAnyH_take (i := 9) (v := ?_) rfl (by kernel_rfl) (by kernel_rfl) (by kernel_rfl) (fun _ _ _ h => h) (Or.inl ⟨by rfl, ?_⟩) (by assumption) ?_; rotate_left 1; focus (intro w hSw; (try dsimp only at hSw); go_simp; (try with_reducible rfl)))
              | fail
            try simp only [Act.put, List.getElem_toArray, List.getElem_cons_succ, List.getElem_cons_zero, List.setIfInBounds_toArray, List.set_cons_zero, List.set_cons_succ]
            first
              | (refine wpAnyH_take (i := 10) (v := ?_) rfl (by kernel_rfl) (by kernel_rfl) (by kernel_rfl) (fun _ _ _ h => h) (Or.inl ⟨by rfl, ?_⟩) (by assumption) ?_; rotate_left 1; focus (intro w hSw; (try dsimp only at hSw); go_simp; (try with_reducible rfl)))
              | fail
            try simp only [Act.put, List.getElem_toArray, List.getElem_cons_succ, List.getElem_cons_zero, List.setIfInBounds_toArray, List.set_cons_zero, List.set_cons_succ]
            refine wpAnyH_done (by kernel_rfl) ?_ _
            go_wp2
            refine wp_region_held_drew (S := fun w' => Grew w w') (by kernel_rfl) (by first | assumption | exact Below.drew (by assumption)) (fun hHeld => ?_)
            first
              | (refine wpAnyH_take (i := 0) (v := ?_) rfl (by kernel_rfl) (by kernel_rfl) (by kernel_rfl) (fun _ _ _ h => h) (Or.inl ⟨by rfl, ?_⟩) (by assumption) ?_; rotate_left 1; focus (intro w hSw; (try dsimp only at hSw); go_simp; (try with_reducible rfl)))
              | fail
            try simp only [Act.put, List.getElem_toArray, List.getElem_cons_succ, List.getElem_cons_zero, List.setIfInBounds_toArray, List.set_cons_zero, List.set_cons_succ]
            first
              | (refine wpAnyH_take (i := 1) (v := ?_) rfl (by kernel_rfl) (by kernel_rfl) (by kernel_rfl) (fun _ _ _ h => h) (Or.inl ⟨by rfl, ?_⟩) (by assumption) ?_; rotate_left 1; focus (intro w hSw; (try dsimp only at hSw); go_simp; (try with_reducible rfl)))
              | fail
            try simp only [Act.put, List.getElem_toArray, List.getElem_cons_succ, List.getElem_cons_zero, List.setIfInBounds_toArray, List.set_cons_zero, List.set_cons_succ]
            first
              | (refine wpAnyH_take (i := 2) (v := ?_) rfl (by kernel_rfl) (by kernel_rfl) (by kernel_rfl) (fun _ _ _ h => h) (Or.inl ⟨by rfl, ?_⟩) (by assumption) ?_; rotate_left 1; focus (intro w hSw; (try dsimp only at hSw); go_simp; (try with_reducible rfl)))
              | fail
            try simp only [Act.put, List.getElem_toArray, List.getElem_cons_succ, List.getElem_cons_zero, List.setIfInBounds_toArray, List.set_cons_zero, List.set_cons_succ]
            first
              | (refine wpAnyH_take (i := 3) (v := ?_) rfl (by kernel_rfl) (by kernel_rfl) (by kernel_rfl) (fun _ _ _ h => h) (Or.inl ⟨by rfl, ?_⟩) (by assumption) ?_; rotate_left 1; focus (intro w hSw; (try dsimp only at hSw); go_simp; (try with_reducible rfl)))
              | fail
            try simp only [Act.put, List.getElem_toArray, List.getElem_cons_succ, List.getElem_cons_zero, List.setIfInBounds_toArray, List.set_cons_zero, List.set_cons_succ]
            first
              | (refine wpAnyH_take (i := 4) (v := ?_) rfl (by kernel_rfl) (by kernel_rfl) (by kernel_rfl) (fun _ _ _ h => h) (Or.inl ⟨by rfl, ?_⟩) (by assumption) ?_; rotate_left 1; focus (intro w hSw; (try dsimp only at hSw); go_simp; (try with_reducible rfl)))
              | fail
            try simp only [Act.put, List.getElem_toArray, List.getElem_cons_succ, List.getElem_cons_zero, List.setIfInBounds_toArray, List.set_cons_zero, List.set_cons_succ]
            first
              | (refine wpAnyH_take (i := 5) (v := ?_) rfl (by kernel_rfl) (by kernel_rfl) (by kernel_rfl) (fun _ _ _ h => h) (Or.inl ⟨by rfl, ?_⟩) (by assumption) ?_; rotate_left 1; focus (intro w hSw; (try dsimp only at hSw); go_simp; (try with_reducible rfl)))
              | fail
            try simp only [Act.put, List.getElem_toArray, List.getElem_cons_succ, List.getElem_cons_zero, List.setIfInBounds_toArray, List.set_cons_zero, List.set_cons_succ]
            first
              | (refine wpAnyH_take (i := 6) (v := ?_) rfl (by kernel_rfl) (by kernel_rfl) (by kernel_rfl) (fun _ _ _ h => h) (Or.inl ⟨by rfl, ?_⟩) (by assumption) ?_; rotate_left 1; focus (intro w hSw; (try dsimp only at hSw); go_simp; (try with_reducible rfl)))
              | fail
            try simp only [Act.put, List.getElem_toArray, List.getElem_cons_succ, List.getElem_cons_zero, List.setIfInBounds_toArray, List.set_cons_zero, List.set_cons_succ]
            first
              | (refine wpAnyH_take (i := 7) (v := ?_) rfl (by kernel_rfl) (by kernel_rfl) (by kernel_rfl) (fun _ _ _ h => h) (Or.inl ⟨by rfl, ?_⟩) (by assumption) ?_; rotate_left 1; focus (intro w hSw; (try dsimp only at hSw); go_simp; (try with_reducible rfl)))
              | fail
            try simp only [Act.put, List.getElem_toArray, List.getElem_cons_succ, List.getElem_cons_zero, List.setIfInBounds_toArray, List.set_cons_zero, List.set_cons_succ]
            first
              | (refine wpAnyH_take (i := 8) (v := ?_) rfl (by kernel_rfl) (by kernel_rfl) (by kernel_rfl) (fun _ _ _ h => h) (Or.inl ⟨by rfl, ?_⟩) (by assumption) ?_; rotate_left 1; focus (intro w hSw; (try dsimp only at hSw); go_simp; (try with_reducible rfl)))
              | fail
            try simp only [Act.put, List.getElem_toArray, List.getElem_cons_succ, List.getElem_cons_zero, List.setIfInBounds_toArray, List.set_cons_zero, List.set_cons_succ]
            first
              | (refine wpAnyH_take (i := 9) (v := ?_) rfl (by kernel_rfl) (by kernel_rfl) (by kernel_rfl) (fun _ _ _ h => h) (Or.inl ⟨by rfl, ?_⟩) (by assumption) ?_; rotate_left 1; focus (intro w hSw; (try dsimp only at hSw); go_simp; (try with_reducible rfl)))
              | fail
            try simp only [Act.put, List.getElem_toArray, List.getElem_cons_succ, List.getElem_cons_zero, List.setIfInBounds_toArray, List.set_cons_zero, List.set_cons_succ]
            first
              | (refine wpAnyH_take (i := 10) (v := ?_) rfl (by kernel_rfl) (by kernel_rfl) (by kernel_rfl) (fun _ _ _ h => h) (Or.inl ⟨by rfl, ?_⟩) (by assumption) ?_; rotate_left 1; focus (intro w hSw; (try dsimp only at hSw); go_simp; (try with_reducible rfl)))
              | fail
            try simp only [Act.put, List.getElem_toArray, List.getElem_cons_succ, List.getElem_cons_zero, List.setIfInBounds_toArray, List.set_cons_zero, List.set_cons_succ]
            first
              | (refine wpAnyH_take (i := 11) (v := ?_) rfl (by kernel_rfl) (by kernel_rfl) (by kernel_rfl) (fun _ _ _ h => h) (Or.inl ⟨by rfl, ?_⟩) (by assumption) ?_; rotate_left 1; focus (intro w hSw; (try dsimp only at hSw); go_simp; (try with_reducible rfl)))
              | fail
            try simp only [Act.put, List.getElem_toArray, List.getElem_cons_succ, List.getElem_cons_zero, List.setIfInBounds_toArray, List.set_cons_zero, List.set_cons_succ]
            first
              | (refine wpAnyH_take (i := 12) (v := ?_) rfl (by kernel_rfl) (by kernel_rfl) (by kernel_rfl) (fun _ _ _ h => h) (Or.inl ⟨by rfl, ?_⟩) (by assumption) ?_; rotate_left 1; focus (intro w hSw; (try dsimp only at hSw); go_simp; (try with_reducible rfl)))
              | fail
            try simp only [Act.put, List.getElem_toArray, List.getElem_cons_succ, List.getElem_cons_zero, List.setIfInBounds_toArray, List.set_cons_zero, List.set_cons_succ]
            first
              | (refine wpAnyH_take (i := 13) (v := ?_) rfl (by kernel_rfl) (by kernel_rfl) (by kernel_rfl) (fun _ _ _ h => h) (Or.inl ⟨by rfl, ?_⟩) (by assumption) ?_; rotate_left 1; focus (intro w hSw; (try dsimp only at hSw); go_simp; (try with_reducible rfl)))
              | fail
            try simp only [Act.put, List.getElem_toArray, List.getElem_cons_succ, List.getElem_cons_zero, List.setIfInBounds_toArray, List.set_cons_zero, List.set_cons_succ]
            refine wpAnyH_done (by kernel_rfl) ?_ _
            rcases hways with h1 | ⟨h1, h2⟩ | ⟨h1, h2, h3⟩ | ⟨h1, h2, h3⟩
            · have f3 : decide (59 < (M : Int)) = true := decide_eq_true (by omega)
              go_wp2
              go_ret2
              exact ⟨by rw [HL.out, HREF.out, if_pos (.inl h1)]; rfl, by assumption⟩
            · have f3 : decide (59 < (M : Int)) = false := decide_eq_false (by omega)
              have f4 : decide (840 < (Z : Int)) = true := decide_eq_true (by omega)
              go_wp2
              go_ret2
              exact ⟨by rw [HL.out, HREF.out, if_pos (.inr (.inl h2))]; rfl, by assumption⟩
            · have f3 : decide (59 < (M : Int)) = false := decide_eq_false (by omega)
              have f4 : decide (840 < (Z : Int)) = false := decide_eq_false (by omega)
              have f5 : ((Z : Int) == 0) = true := by rw [beq_iff_eq]; omega
              go_wp2
              go_ret2
              exact ⟨by rw [HL.out, HREF.out]; first | (rw [if_pos (.inr (.inr ⟨hs0, h3⟩))]; rfl) | (rw [if_neg (by rw [hs0]; intro h; rcases h with h | h | ⟨h, -⟩; (exact h1 h); (exact h2 h); (revert h; decide)), if_neg (by rw [hs0]; decide)]; rfl), by assumption⟩
            · have f3 : decide (59 < (M : Int)) = false := decide_eq_false (by omega)
              have f4 : decide (840 < (Z : Int)) = false := decide_eq_false (by omega)
              have f5 : ((Z : Int) == 0) = false := by rw [beq_eq_false_iff_ne]; omega
              go_wp2
              go_ret2
              exact ⟨by rw [HL.out, HREF.out, if_neg (by intro h; rcases h with h | h | ⟨-, h⟩; (exact h1 h); (exact h2 h); (exact h3 h))]; first | (rw [if_pos hs0]; rfl) | (rw [if_neg (by rw [hs0]; decide)]; rfl), by assumption⟩
  · have hz := Pure.zoneF_len (l := s.data.toList) (by omega)
    rw [hz]
    have f1 : ((s.size : Int) == 5) = false := by rw [beq_eq_false_iff_ne]; omega
    clear hz hsl
    go_enter Tryz.func52, Tryz.ntmps52
    go_wp2
    go_ret2
    exact ⟨rfl, g0⟩

end Go.Proofs.YtemojhcbhljemaaGreatDoor

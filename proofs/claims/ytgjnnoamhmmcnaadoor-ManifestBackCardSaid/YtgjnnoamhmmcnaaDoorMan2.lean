/- The reference's flag and Print of files. Conditions: the library's tables are laid, paths of at most 2^30 bytes. -/
import Derived.Test.YtgjnnoamhmmcnaaDoorFlat3
import Derived.Test.YtgjnnoamhmmcnaaDoorMan1
import Derived.Test.YtgjnnoamhmmcnaaDoorHexa2
namespace Go.Proofs.YtgjnnoamhmmcnaaDoor
set_option linter.unusedVariables false
set_option linter.unusedSimpArgs false
open Go.RowKit

set_option maxRecDepth 100000 in
theorem ref16_flag (k : Int) (w : World) :
    Calls Tryd.prog 23 #[.int .i64 k] w fun e w' => e = .returned (.string ⟨(flagF k).toArray⟩) ∧ w' = w := by
  have hw : flagF k = if (k == 2) = true then [120] else if (k == 3) = true then [108] else [] := by unfold flagF; simp only [beq_iff_eq]
  rw [hw]
  clear hw
  cases h2 : (k == 2) <;> cases h3 : (k == 3)
  all_goals
    go_enter Tryd.func23, Tryd.ntmps23
    go_wp2
    go_ret
    exact ⟨rfl, rfl⟩

theorem find_byte (l : List UInt8) (c : UInt8) : decide (0 ≤ Lib.index l [c]) = l.contains c := by
  have h := index_cut l c
  cases hq : Pure.cutC c l with
  | none =>
    rw [hq] at h
    simp only at h
    have h2 := (Pure.cutC_none c l).1 hq
    have h3 : l.contains c = false := by
      cases hc : l.contains c with
      | false => rfl
      | true => exact absurd rfl (h2 c (by simpa using hc))
    rw [h, h3]
    rfl
  | some y =>
    obtain ⟨a, b⟩ := y
    rw [hq] at h
    simp only at h
    have h2 := ((Pure.cutC_some c l a b).1 hq).1
    have h3 : l.contains c = true := by rw [h2]; simp
    rw [h, h3]
    simp

set_option maxRecDepth 100000 in
set_option maxHeartbeats 4000000 in
theorem ref16_Print (p : Option Addr) (l : List Fil) (cap : Nat) (w : World) (hl : l.length ≤ 1073741824) (hr : RdG kFile w p l) (hf : ∀ x ∈ l, FineF x) (hu : U8Ok w) :
    Calls Tryd.prog 10 #[.slice p l.length cap] w (PrintPostM l w) := by
  have g0 : Grew w w := Below.refl _ _
  have cR := (fun W (g : Grew w W) => ref13_Right p l cap W hl (hr.grew g) hf (u8_grew hu g))
  have HFI := Lib.hid hf
  have HR := Lib.hid hr
  clear hu hf hr
  cases hok : rightF l with
  | false =>
    rw [hok] at cR
    have hbad : rightM l = false := by unfold rightM; rw [hok]; simp
    have HB := Lib.hid hbad
    clear hok hbad
    go_enter Tryd.func10, Tryd.ntmps10
    go_wp2_with (first | (go_at_call 21; with_reducible refine (cR _ (by assumption)).mono ?_; rintro e1 W1 ⟨rfl, g1⟩; replace g1 := Grew.trans' (a := w) (by assumption) g1))
    go_ret2
    exact ⟨by assumption, .inl ⟨HB.out, rfl⟩⟩
  | true =>
    rw [hok] at cR
    have hok2 := hok
    unfold rightF at hok2
    simp only [Bool.and_eq_true, decide_eq_true_eq] at hok2
    have hlen := hok2.2
    have HNM := Lib.hid (fun x hx => (oneF_parts (goodF_all _ _ hok2.1.1 x hx)).1)
    have HOK := Lib.hid hok
    clear hok hok2
    go_enter Tryd.func10, Tryd.ntmps10
    go_wp2_with (first | (go_at_call 21; with_reducible refine (cR _ (by assumption)).mono ?_; rintro e1 W1 ⟨rfl, g1⟩; replace g1 := Grew.trans' (a := w) (by assumption) g1))
    go_loopw [4, 5] (fun sv i wr => ∃ (k : Nat) (S : ByteArray), .string S = sv ∧ i = .int .i64 (k : Int) ∧ k ≤ l.length ∧ Grew w wr ∧ S.size ≤ 221500 ∧ Hid (S.data.toList = printF (l.take k)) ∧ Hid ((l.take k).all (fun f => !f.p.contains 10) = true)) (fun _ i _ => l.length - (intOf i).toNat)
    case atStart => exact ⟨0, ⟨#[]⟩, rfl, rfl, Nat.zero_le _, by assumption, by decide, rfl, rfl⟩
    case round =>
      obtain ⟨k, S, rfl, rfl, hk, hb, hSs, hS, hno⟩ := hrel
      clear cR
      by_cases hlt : k < l.length
      · obtain ⟨x, hx⟩ : ∃ x, l[k]? = some x := ⟨_, List.getElem?_eq_getElem hlt⟩
        obtain ⟨hxi, hxn⟩ := HFI.out x (List.mem_of_getElem? hx)
        have hxm := HNM.out x (List.mem_of_getElem? hx)
        rcases HR.out with h | ⟨b, o, rfl, hc⟩
        · subst h; simp at hlt
        have rx : ∀ W, Grew wr W → W.rangeAt b (o + k * 22) x.cells := fun W g => range_grew (hc k x hx) (hb.trans' g)
        have q0 : ∀ W, Grew wr W → W.cell? ⟨b, o + k * 22, none⟩ = some (.string x.path) := fun W g => (fil_range (rx W g)).1
        have q1 : ∀ W, Grew wr W → W.cell? ⟨b, o + k * 22 + 1, none⟩ = some (.int .i64 x.mode) := fun W g => (fil_range (rx W g)).2.1
        have ri : ∀ W, Grew wr W → W.rangeAt b (o + k * 22 + 2) (Lib.byteCells x.id) := fun W g => (fil_range (rx W g)).2.2
        have qq := q0 wr (Below.refl _ _)
        have gww : Grew wr wr := Below.refl _ _
        clear hc g0
        have hm1 : (0 : Int) ≤ (k : Int) := by omega
        have hm2 : (k : Int) < (l.length : Int) := by omega
        have hnl : x.path.data.toList.length ≤ 400 := path_len hxm
        have hnn : x.path.size ≤ 400 := by have : x.path.data.toList.length = x.path.size := Array.length_toList; omega
        have cF := fun W => help_Find x.path ⟨#[10]⟩ W (by omega) (by decide) (by decide)
        have hcd : (⟨#[10]⟩ : ByteArray).data.toList = [10] := rfl
        simp only [hcd] at cF
        have hfb := find_byte x.p 10
        obtain ⟨F, hF⟩ : ∃ F, Lib.index x.path.data.toList [10] = F := ⟨_, rfl⟩
        have hst := noLine_step hx hno.out
        obtain ⟨C, hC⟩ : ∃ C, x.p.contains 10 = C := ⟨_, rfl⟩
        rw [hF, hC] at hfb
        rw [hC] at hst
        simp only [hF] at cF
        have HST := Lib.hid hst
        have HC := Lib.hid hC
        clear hst hC hF rx hno hcd
        cases C with
        | true =>
          have hbad : rightM l = false := by
            unfold rightM
            have : l.all (fun f => !f.p.contains 10) = false := by
              rw [List.all_eq_false]
              exact ⟨x, List.mem_of_getElem? hx, by rw [HC.out]; decide⟩
            rw [this]
            rfl
          have HB := Lib.hid hbad
          clear hbad q0 q1 ri hx
          go_wp2_with (first | (go_at_call 22; with_reducible refine (cF _).mono ?_; rintro e9 W9 ⟨rfl, h9⟩; subst W9))
          go_ret2
          exact ⟨hb, .inl ⟨HB.out, rfl⟩⟩
        | false =>
          have cH := (fun W (g : Grew wr W) => ref_Hex (some ⟨b, o + k * 22 + 2, none⟩) x.id 20 W (by omega) (rd_range (ri W g)))
          rw [hxi] at cH
          have cW := (fun W => ref16_flag x.mode W)
          obtain ⟨H, hH⟩ : ∃ H : ByteArray, (⟨(Pure.hex x.id).toArray⟩ : ByteArray) = H := ⟨_, rfl⟩
          have hHl : H.data.toList = Pure.hex x.id := by rw [← hH]
          have hHs : H.size = 40 := by rw [Lib.size_eq, hHl, Pure.hex_length, hxi]
          simp only [hH] at cH
          obtain ⟨FL, hFL⟩ : ∃ H : ByteArray, (⟨(flagF x.mode).toArray⟩ : ByteArray) = H := ⟨_, rfl⟩
          have hFLl : FL.data.toList = flagF x.mode := by rw [← hFL]
          have hFLs : FL.size ≤ 1 := by rw [Lib.size_eq, hFLl]; exact flagF_len _
          simp only [hFL] at cW
          obtain ⟨T0, h0⟩ : ∃ T : ByteArray, S ++ x.path = T := ⟨_, rfl⟩
          obtain ⟨T1, h1⟩ : ∃ T : ByteArray, T0 ++ ⟨#[0]⟩ = T := ⟨_, rfl⟩
          obtain ⟨T2, h2⟩ : ∃ T : ByteArray, T1 ++ H = T := ⟨_, rfl⟩
          obtain ⟨T3, h3⟩ : ∃ T : ByteArray, T2 ++ FL = T := ⟨_, rfl⟩
          obtain ⟨T4, h4⟩ : ∃ T : ByteArray, T3 ++ ⟨#[10]⟩ = T := ⟨_, rfl⟩
          have s0 : T0.size = S.size + x.path.size := by rw [← h0, ByteArray.size_append]
          have s1 : T1.size = T0.size + 1 := by rw [← h1, ByteArray.size_append]; rfl
          have s2 : T2.size = T1.size + H.size := by rw [← h2, ByteArray.size_append]
          have s3 : T3.size = T2.size + FL.size := by rw [← h3, ByteArray.size_append]
          have s4 : T4.size = T3.size + 1 := by rw [← h4, ByteArray.size_append]; rfl
          have hT4 : T4.data.toList = printF (l.take (k + 1)) := by
            rw [printF_next hx, ← hS.out, ← h4, ← h3, ← h2, ← h1, ← h0]
            simp only [append_list, hHl, hFLl, lineF, List.append_assoc]
          have n0 : ¬ 9223372036854775807 < S.size + x.path.size := by omega
          have n1 : ¬ 9223372036854775807 < T0.size + 1 := by omega
          have n2 : ¬ 9223372036854775807 < T1.size + H.size := by omega
          have n3 : ¬ 9223372036854775807 < T2.size + FL.size := by omega
          have n4 : ¬ 9223372036854775807 < T3.size + 1 := by omega
          have HT := Lib.hid hT4
          have hPL := printF_len (l.take (k + 1)) (fun y hy => (HFI.out y (List.mem_of_mem_take hy)).1) (fun y hy => HNM.out y (List.mem_of_mem_take hy))
          have hTk : (l.take (k + 1)).length ≤ 500 := by rw [List.length_take]; omega
          have hT4s : T4.size ≤ 221500 := by rw [Lib.size_eq, hT4]; omega
          have hsl := run_slice_idF b (o + k * 22 + 2)
          clear hT4 hH hHl hFL hFLl s0 s1 s2 s3 s4 hPL hTk hnl hxm hHs hFLs hS hSs
          go_wp2_with (first | (go_at_call 22; with_reducible refine (cF _).mono ?_; rintro e9 W9 ⟨rfl, h9⟩; subst W9))
          refine wp_region_held_drew (S := fun w' => Grew wr w') (by kernel_rfl) (by first | assumption | exact Below.drew (by assumption)) (fun hHeld => ?_)
          first
            | (refine wpAnyH_take (i := 0) (v := ?_) rfl (by kernel_rfl) (by kernel_rfl) (by kernel_rfl) (fun _ _ _ h => h) (Or.inl ⟨by rfl, ?_⟩) (by assumption) ?_; rotate_left 1; focus (intro w hSw; (try dsimp only at hSw); go_simp; (try with_reducible rfl)))
            | fail
          try simp only [Act.put, List.getElem_toArray, List.getElem_cons_succ, List.getElem_cons_zero, List.setIfInBounds_toArray, List.set_cons_zero, List.set_cons_succ]
          first
            | (refine wpAnyH_take (i := 1) (v := ?_) rfl (by kernel_rfl) (by kernel_rfl) (by kernel_rfl) (fun _ _ _ h => h) (Or.inl ⟨by rfl, ?_⟩) (by assumption) ?_; rotate_left 1; focus (intro w hSw; (try dsimp only at hSw); go_simp; (try with_reducible rfl)))
            | fail
          try simp only [Act.put, List.getElem_toArray, List.getElem_cons_succ, List.getElem_cons_zero, List.setIfInBounds_toArray, List.set_cons_zero, List.set_cons_succ]
          first
            | (refine wpAnyH_take (i := 2) (v := ?_) rfl (by kernel_rfl) (by kernel_rfl) (by kernel_rfl) (fun _ _ _ h => h) (Or.inl ⟨by rfl, ?_⟩) (by assumption) ?_; rotate_left 1; focus (intro w hSw; (try dsimp only at hSw); go_simp; (try with_reducible rfl)))
            | fail
          try simp only [Act.put, List.getElem_toArray, List.getElem_cons_succ, List.getElem_cons_zero, List.setIfInBounds_toArray, List.set_cons_zero, List.set_cons_succ]
          first
            | (refine wpAnyH_take (i := 3) (v := ?_) rfl (by kernel_rfl) (by kernel_rfl) (by kernel_rfl) (fun _ _ _ h => h) (Or.inl ⟨by rfl, ?_⟩) (by assumption) ?_; rotate_left 1; focus (intro w hSw; (try dsimp only at hSw); go_simp; (try with_reducible rfl)))
            | fail
          try simp only [Act.put, List.getElem_toArray, List.getElem_cons_succ, List.getElem_cons_zero, List.setIfInBounds_toArray, List.set_cons_zero, List.set_cons_succ]
          first
            | (refine wpAnyH_take (i := 4) (v := ?_) rfl (by kernel_rfl) (by kernel_rfl) (by kernel_rfl) (fun _ _ _ h => h) (Or.inl ⟨by rfl, ?_⟩) (by assumption) ?_; rotate_left 1; focus (intro w hSw; (try dsimp only at hSw); go_simp; (try with_reducible rfl)))
            | fail
          try simp only [Act.put, List.getElem_toArray, List.getElem_cons_succ, List.getElem_cons_zero, List.setIfInBounds_toArray, List.set_cons_zero, List.set_cons_succ]
          first
            | (refine wpAnyH_take (i := 5) (v := ?_) rfl (by kernel_rfl) (by kernel_rfl) (by kernel_rfl) (fun _ _ _ h => h) (Or.inl ⟨by rfl, ?_⟩) (by assumption) ?_; rotate_left 1; focus (intro w hSw; (try dsimp only at hSw); go_simp; (try with_reducible rfl)))
            | fail
          try simp only [Act.put, List.getElem_toArray, List.getElem_cons_succ, List.getElem_cons_zero, List.setIfInBounds_toArray, List.set_cons_zero, List.set_cons_succ]
          first
            | (refine wpAnyH_take (i := 6) (v := ?_) rfl (by kernel_rfl) (by kernel_rfl) (by kernel_rfl) (fun _ _ _ h => h) (Or.inl ⟨by rfl, ?_⟩) (by assumption) ?_; rotate_left 1; focus (intro w hSw; (try dsimp only at hSw); go_simp; (try with_reducible rfl)))
            | fail
          try simp only [Act.put, List.getElem_toArray, List.getElem_cons_succ, List.getElem_cons_zero, List.setIfInBounds_toArray, List.set_cons_zero, List.set_cons_succ]
          first
            | (refine wpAnyH_take (i := 7) (v := ?_) rfl (by kernel_rfl) (by kernel_rfl) (by kernel_rfl) (fun _ _ _ h => h) (Or.inl ⟨by rfl, ?_⟩) (by assumption) ?_; rotate_left 1; focus (intro w hSw; (try dsimp only at hSw); go_simp; (try with_reducible rfl)))
            | fail
          try simp only [Act.put, List.getElem_toArray, List.getElem_cons_succ, List.getElem_cons_zero, List.setIfInBounds_toArray, List.set_cons_zero, List.set_cons_succ]
          first
            | (refine wpAnyH_take (i := 8) (v := ?_) rfl (by kernel_rfl) (by kernel_rfl) (by kernel_rfl) (fun _ _ _ h => h) (Or.inl ⟨by rfl, ?_⟩) (by assumption) ?_; rotate_left 1; focus (intro w hSw; (try dsimp only at hSw); go_simp; (try with_reducible rfl)))
            | fail
          try simp only [Act.put, List.getElem_toArray, List.getElem_cons_succ, List.getElem_cons_zero, List.setIfInBounds_toArray, List.set_cons_zero, List.set_cons_succ]
          first
            | (refine wpAnyH_take (i := 9) (v := ?_) rfl (by kernel_rfl) (by kernel_rfl) (by kernel_rfl) (fun _ _ _ h => h) (Or.inl ⟨by rfl, ?_⟩) (by assumption) ?_; rotate_left 1; focus (intro w hSw; (try dsimp only at hSw); go_simp; (try with_reducible rfl)))
            | fail
          try simp only [Act.put, List.getElem_toArray, List.getElem_cons_succ, List.getElem_cons_zero, List.setIfInBounds_toArray, List.set_cons_zero, List.set_cons_succ]
          first
            | (refine wpAnyH_take (i := 10) (v := ?_) rfl (by kernel_rfl) (by kernel_rfl) (by kernel_rfl) (fun _ _ _ h => h) (Or.inl ⟨by rfl, ?_⟩) (by assumption) ?_; rotate_left 1; focus (intro w hSw; (try dsimp only at hSw); go_simp; (try with_reducible rfl)))
            | fail
          try simp only [Act.put, List.getElem_toArray, List.getElem_cons_succ, List.getElem_cons_zero, List.setIfInBounds_toArray, List.set_cons_zero, List.set_cons_succ]
          first
            | (refine wpAnyH_take (i := 11) (v := ?_) rfl (by kernel_rfl) (by kernel_rfl) (by kernel_rfl) (fun _ _ _ h => h) (Or.inl ⟨by rfl, ?_⟩) (by assumption) ?_; rotate_left 1; focus (intro w hSw; (try dsimp only at hSw); go_simp; (try with_reducible rfl)))
            | fail
          try simp only [Act.put, List.getElem_toArray, List.getElem_cons_succ, List.getElem_cons_zero, List.setIfInBounds_toArray, List.set_cons_zero, List.set_cons_succ]
          first
            | (refine wpAnyH_take (i := 12) (v := ?_) rfl (by kernel_rfl) (by kernel_rfl) (by kernel_rfl) (fun _ _ _ h => h) (Or.inl ⟨by rfl, ?_⟩) (by assumption) ?_; rotate_left 1; focus (intro w hSw; (try dsimp only at hSw); go_simp; (try with_reducible rfl)))
            | fail
          try simp only [Act.put, List.getElem_toArray, List.getElem_cons_succ, List.getElem_cons_zero, List.setIfInBounds_toArray, List.set_cons_zero, List.set_cons_succ]
          first
            | (refine wpAnyH_take (i := 15) (v := ?_) rfl (by kernel_rfl) (by kernel_rfl) (by kernel_rfl) (fun _ _ _ h => h) (Or.inl ⟨by rfl, ?_⟩) (by assumption) ?_; rotate_left 1; focus (intro w hSw; (try dsimp only at hSw); go_simp; (try with_reducible rfl)))
            | fail
          try simp only [Act.put, List.getElem_toArray, List.getElem_cons_succ, List.getElem_cons_zero, List.setIfInBounds_toArray, List.set_cons_zero, List.set_cons_succ]
          first
            | (refine wpAnyH_take (i := 16) (v := ?_) rfl (by kernel_rfl) (by kernel_rfl) (by kernel_rfl) (fun _ _ _ h => h) (Or.inl ⟨by rfl, ?_⟩) (by assumption) ?_; rotate_left 1; focus (intro w hSw; (try dsimp only at hSw); go_simp; (try with_reducible rfl)))
            | fail
          try simp only [Act.put, List.getElem_toArray, List.getElem_cons_succ, List.getElem_cons_zero, List.setIfInBounds_toArray, List.set_cons_zero, List.set_cons_succ]
          first
            | (refine wpAnyH_take (i := 17) (v := ?_) rfl (by kernel_rfl) (by kernel_rfl) (by kernel_rfl) (fun _ _ _ h => h) (Or.inl ⟨by rfl, ?_⟩) (by assumption) ?_; rotate_left 1; focus (intro w hSw; (try dsimp only at hSw); go_simp; (try with_reducible rfl)))
            | fail
          try simp only [Act.put, List.getElem_toArray, List.getElem_cons_succ, List.getElem_cons_zero, List.setIfInBounds_toArray, List.set_cons_zero, List.set_cons_succ]
          first
            | (refine wpAnyH_take (i := 18) (v := ?_) rfl (by kernel_rfl) (by kernel_rfl) (by kernel_rfl) (fun _ _ _ h => h) (Or.inl ⟨by rfl, ?_⟩) (by assumption) ?_; rotate_left 1; focus (intro w hSw; (try dsimp only at hSw); go_simp; (try with_reducible rfl)))
            | fail
          try simp only [Act.put, List.getElem_toArray, List.getElem_cons_succ, List.getElem_cons_zero, List.setIfInBounds_toArray, List.set_cons_zero, List.set_cons_succ]
          first
            | (refine wpAnyH_take (i := 19) (v := ?_) rfl (by kernel_rfl) (by kernel_rfl) (by kernel_rfl) (fun _ _ _ h => h) (Or.inl ⟨by rfl, ?_⟩) (by assumption) ?_; rotate_left 1; focus (intro w hSw; (try dsimp only at hSw); go_simp; (try with_reducible rfl)))
            | fail
          try simp only [Act.put, List.getElem_toArray, List.getElem_cons_succ, List.getElem_cons_zero, List.setIfInBounds_toArray, List.set_cons_zero, List.set_cons_succ]
          refine wpAnyH_ready (rs := [13]) (by kernel_rfl) (by simp) ?_
          refine AllReadyH.cons rfl (fun K hK => ?_) AllReadyH.nil
          go_simp
          (go_at_call 17; with_reducible refine (cH _ (by first | assumption | exact Below.drew (by assumption))).mono ?_; rintro e1 W1 ⟨rfl, g1⟩; replace g1 := Grew.trans' (a := wr) (by first | assumption | exact Below.drew (by assumption)) g1)
          go_wp2_with fail
          refine hK.out _ _ (by first | assumption | exact Below.drew (by assumption)) (fun hHeld => ?_)
          clear hK K
          try simp only [Act.put, List.getElem_toArray, List.getElem_cons_succ, List.getElem_cons_zero, List.setIfInBounds_toArray, List.set_cons_zero, List.set_cons_succ]
          first
            | (refine wpAnyH_take (i := 14) (v := ?_) rfl (by kernel_rfl) (by kernel_rfl) (by kernel_rfl) (fun _ _ _ h => h) (Or.inl ⟨by rfl, ?_⟩) (by assumption) ?_; rotate_left 1; focus (intro w hSw; (try dsimp only at hSw); go_simp; (try with_reducible rfl)))
            | fail
          try simp only [Act.put, List.getElem_toArray, List.getElem_cons_succ, List.getElem_cons_zero, List.setIfInBounds_toArray, List.set_cons_zero, List.set_cons_succ]
          refine wpAnyH_ready (rs := [20]) (by kernel_rfl) (by simp) ?_
          refine AllReadyH.cons rfl (fun K hK => ?_) AllReadyH.nil
          go_simp
          (go_at_call 23; with_reducible refine (cW _).mono ?_; rintro e9 W9 ⟨rfl, h9⟩; subst W9)
          go_wp2_with fail
          refine hK.out _ _ (by first | assumption | exact Below.drew (by assumption)) (fun hHeld => ?_)
          clear hK K
          try simp only [Act.put, List.getElem_toArray, List.getElem_cons_succ, List.getElem_cons_zero, List.setIfInBounds_toArray, List.set_cons_zero, List.set_cons_succ]
          first
            | (refine wpAnyH_take (i := 21) (v := ?_) rfl (by kernel_rfl) (by kernel_rfl) (by kernel_rfl) (fun _ _ _ h => h) (Or.inl ⟨by rfl, ?_⟩) (by assumption) ?_; rotate_left 1; focus (intro w hSw; (try dsimp only at hSw); go_simp; (try with_reducible rfl)))
            | fail
          try simp only [Act.put, List.getElem_toArray, List.getElem_cons_succ, List.getElem_cons_zero, List.setIfInBounds_toArray, List.set_cons_zero, List.set_cons_succ]
          first
            | (refine wpAnyH_take (i := 22) (v := ?_) rfl (by kernel_rfl) (by kernel_rfl) (by kernel_rfl) (fun _ _ _ h => h) (Or.inl ⟨by rfl, ?_⟩) (by assumption) ?_; rotate_left 1; focus (intro w hSw; (try dsimp only at hSw); go_simp; (try with_reducible rfl)))
            | fail
          try simp only [Act.put, List.getElem_toArray, List.getElem_cons_succ, List.getElem_cons_zero, List.setIfInBounds_toArray, List.set_cons_zero, List.set_cons_succ]
          first
            | (refine wpAnyH_take (i := 23) (v := ?_) rfl (by kernel_rfl) (by kernel_rfl) (by kernel_rfl) (fun _ _ _ h => h) (Or.inl ⟨by rfl, ?_⟩) (by assumption) ?_; rotate_left 1; focus (intro w hSw; (try dsimp only at hSw); go_simp; (try with_reducible rfl)))
            | fail
          try simp only [Act.put, List.getElem_toArray, List.getElem_cons_succ, List.getElem_cons_zero, List.setIfInBounds_toArray, List.set_cons_zero, List.set_cons_succ]
          refine wpAnyH_done (by kernel_rfl) ?_ _
          go_wp2
          go_roundw
          case rel => exact ⟨k + 1, T4, rfl, by go_num, by omega, hb.trans' (by assumption), hT4s, HT, by have := HST.out; unfold Hid; rw [this]; rfl⟩
          case measure => simp [intOf]; omega
      · obtain rfl : k = l.length := by omega
        have hno2 := hno.out
        have hS2 := hS.out
        rw [List.take_length] at hno2 hS2
        have hR : rightM l = true := by unfold rightM; rw [hno2, HOK.out]; rfl
        have hSl : S.data.toList.length = S.size := Array.length_toList
        have hSP : (printF l).length = S.size := by rw [← hS2]; exact hSl
        have HRR := Lib.hid hR
        have HS2 := Lib.hid hS2
        have HSP := Lib.hid hSP
        have HSL := Lib.hid hSl
        clear hno hno2 hS hS2 hR hSl hSP
        by_cases hbig : 65536 < S.size
        · have f2 : decide (65536 < (S.size : Int)) = true := decide_eq_true (by omega)
          go_wp2
          go_ret2
          exact ⟨hb, .inr (.inl ⟨HRR.out, by rw [HSP.out]; exact hbig, rfl⟩)⟩
        · have f2 : decide (65536 < (S.size : Int)) = false := decide_eq_false (by omega)
          have kc := run_conv_bytes
          have hown := OwnB.conv (w := wr) (base := w.heap.size) S hb.size (by omega)
          rw [HS2.out] at hown
          have HOWN := Lib.hid hown
          clear hown
          go_wp2
          go_ret2
          exact ⟨hb.trans' (bytesWorld_grew _ _), .inr (.inr ⟨HRR.out, by rw [HSP.out]; omega, _, rfl, by have := HOWN.out; rw [HSP.out] at this; exact this⟩)⟩

end Go.Proofs.YtgjnnoamhmmcnaaDoor

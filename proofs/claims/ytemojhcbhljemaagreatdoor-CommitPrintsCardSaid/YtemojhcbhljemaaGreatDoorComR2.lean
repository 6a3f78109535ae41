/- The reference's Print of a record. Conditions: the library's tables are laid; at most 2^30 parents; a text of at most 2^30 bytes. -/
import Derived.Test.YtemojhcbhljemaaGreatDoorCom3
import Derived.Test.YtemojhcbhljemaaGreatDoorCom8
import Derived.Test.YtemojhcbhljemaaGreatDoorM4
import Derived.Test.YtemojhcbhljemaaGreatDoorIdent10
namespace Go.Proofs.YtemojhcbhljemaaGreatDoor
set_option linter.unusedVariables false
set_option linter.unusedSimpArgs false
open Go.RowKit

set_option maxRecDepth 100000 in
set_option maxHeartbeats 8000000 in
theorem ref_PrintR (p : Option Addr) (cap : Nat) (r : Rec) (w : World) (hf : FineR r) (hc : r.par.length ≤ cap) (hr : RdG kId w p r.par) (hu : U8Ok w) (hm : MaxOk w) (ht : TabOk w) :
    Calls Tryz.prog 9 #[.agg (r.cells (.slice p r.par.length cap)).toArray] w (PrintPostR r w) := by
  obtain ⟨V, hV, gV, gVV, rV⟩ := boxedR w (.slice p r.par.length cap) r
  have cR : ∀ W, Grew V W → Calls Tryz.prog 13 #[.agg (r.cells (.slice p r.par.length cap)).toArray] W fun e w' => e = .returned (.bool (rightR r)) ∧ Grew W w' := fun W g => ref_RightR p cap r W hf hc (hr.grew (gV.trans' g)) (u8_grew hu (gV.trans' g)) (hm.grew (gV.trans' g))
  obtain ⟨h20, hp20, hpl, ha1, ha2, hc1, hc2, htx⟩ := hf
  have nfR := infoRec (.slice p r.par.length cap) r h20
  obtain ⟨R, hR⟩ : ∃ R, rightR r = R := ⟨_, rfl⟩
  unfold PrintPostR
  simp only [hR] at cR ⊢
  cases R with
  | false =>
    have rV0 := rV V gVV
    generalize r.cells (.slice p r.par.length cap) = RC at *
    go_enter Tryz.func9, Tryz.ntmps9
    go_wp2_with (first | (refine wpList_load_mid rfl 28 _ rfl _ _ rfl RC _ rV0 Tryz.underlying28 rfl nfR ?_) | (go_at_call 13; with_reducible refine (cR _ (by assumption)).mono ?_; rintro e1 W1 ⟨rfl, g1⟩; replace g1 := Grew.trans' (a := V) (by assumption) g1))
    go_ret2
    exact ⟨gV.trans' (by assumption), .inl ⟨by simp, rfl⟩⟩
  | true =>
    obtain ⟨hp16, hra, hrc, hts⟩ := rightR_parts hR
    have rT : ∀ W, Grew V W → W.rangeAt w.heap.size 0 (Lib.byteCells r.tree) := fun W g => (rec_range (rV W g) h20).1
    have rP : ∀ W, Grew V W → W.cell? ⟨w.heap.size, 20, none⟩ = some (.slice p r.par.length cap) := fun W g => by have := (rec_range (rV W g) h20).2.1; rwa [Nat.zero_add] at this
    have rA : ∀ W, Grew V W → W.rangeAt w.heap.size 21 r.au.cells := fun W g => by have := (rec_range (rV W g) h20).2.2.1; rwa [Nat.zero_add] at this
    have rC : ∀ W, Grew V W → W.rangeAt w.heap.size 25 r.co.cells := fun W g => by have := (rec_range (rV W g) h20).2.2.2.1; rwa [Nat.zero_add] at this
    have rX : ∀ W, Grew V W → W.cell? ⟨w.heap.size, 29, none⟩ = some (.string r.text) := fun W g => by have := (rec_range (rV W g) h20).2.2.2.2; rwa [Nat.zero_add] at this
    have kr := run_slice_idR
    have hl40 := hex_len r.tree
    rw [h20] at hl40
    have cH := fun W (g : Grew V W) => ref_Hex (some ⟨w.heap.size, 0, none⟩) r.tree 20 W (by omega) (rd_range (rT W g))
    rw [h20] at cH
    obtain ⟨H, hH⟩ : ∃ H : ByteArray, (⟨(Pure.hex r.tree).toArray⟩ : ByteArray) = H := ⟨_, rfl⟩
    simp only [hH] at cH
    have hHl : H.data.toList = Pure.hex r.tree := by rw [← hH]
    have hHs : H.size = 40 := by rw [Lib.size_eq, hHl, hl40]
    obtain ⟨T1, h1⟩ : ∃ T : ByteArray, (⟨#[116, 114, 101, 101, 32]⟩ : ByteArray) ++ H = T := ⟨_, rfl⟩
    obtain ⟨T2, h2⟩ : ∃ T : ByteArray, T1 ++ (⟨#[10]⟩ : ByteArray) = T := ⟨_, rfl⟩
    have s1 : T1.size = 45 := by rw [← h1, ByteArray.size_append, hHs]; rfl
    have s2 : T2.size = 46 := by rw [← h2, ByteArray.size_append, s1]; rfl
    have n1 : ¬ 9223372036854775807 < 5 + H.size := by omega
    have n2 : ¬ 9223372036854775807 < T1.size + 1 := by omega
    have hT2 : T2.data.toList = treeT ++ Pure.hex r.tree ++ [10] := by rw [← h2, append_list, ← h1, append_list, hHl]; rfl
    have rV0 := rV V gVV
    have HR := Lib.hid hr
    have HP20 := Lib.hid hp20
    have HT2 := Lib.hid hT2
    have HS2 := Lib.hid s2
    obtain ⟨n, hn⟩ : ∃ n, r.par.length = n := ⟨_, rfl⟩
    have HN := Lib.hid hn
    have HRR := Lib.hid hR
    rw [hn] at rP hpl hc hp16 rV0 nfR cR hV ⊢
    clear hr hp20 hT2 s1 hH hHl hHs hl40 hR hn
    generalize r.cells (.slice p n cap) = RC at *
    go_enter Tryz.func9, Tryz.ntmps9
    go_wp2_with (first | (refine wpList_load_mid rfl 28 _ rfl _ _ rfl RC _ rV0 Tryz.underlying28 rfl nfR ?_) | (go_at_call 13; with_reducible refine (cR _ (by assumption)).mono ?_; rintro e1 W1 ⟨rfl, g1⟩; replace g1 := Grew.trans' (a := V) (by assumption) g1) | (go_at_call 22; with_reducible refine (cH _ (by assumption)).mono ?_; rintro e1 W1 ⟨rfl, g1⟩; replace g1 := Grew.trans' (a := V) (by assumption) g1))
    obtain ⟨P0, hP0⟩ : ∃ P0, treeT ++ Pure.hex r.tree ++ [10] = P0 := ⟨_, rfl⟩
    have hHT := HT2.out
    rw [hP0] at hHT
    have HP0 := Lib.hid hP0
    have HHT := Lib.hid hHT
    clear hP0 hHT cR cH rV0 h1 h2 n1 n2 rT
    go_loopw [4, 5] (fun sv i wr => ∃ (k : Nat) (S : ByteArray), .string S = sv ∧ k ≤ n ∧ i = .int .i64 k ∧ Grew V wr ∧ S.size = 46 + 48 * k ∧ Hid (S.data.toList = P0 ++ parL (r.par.take k))) (fun _ i _ => n - (intOf i).toNat)
    case atStart => exact ⟨0, T2, rfl, Nat.zero_le _, rfl, by assumption, s2, Lib.hid (by rw [HHT.out]; simp [parL])⟩
    case round =>
      obtain ⟨k, S, rfl, hk, rfl, hgV, hSs, hI⟩ := hrel
      by_cases hlt : k < n
      · obtain ⟨x, hx⟩ : ∃ x, r.par[k]? = some x := ⟨_, List.getElem?_eq_getElem (by rw [HN.out]; exact hlt)⟩
        have hxi := HP20.out x (List.mem_of_getElem? hx)
        obtain ⟨bb, oo, rfl, hcx⟩ := HR.out.at (by rw [HN.out]; omega)
        have rx : wr.rangeAt bb (oo + k * 20) (Lib.byteCells x) := range_grew (range_grew (hcx k x hx) gV) hgV
        have hnx : P0 ++ parL (r.par.take (k + 1)) = P0 ++ parL (r.par.take k) ++ (parT ++ Pure.hex x ++ [10]) := by rw [List.take_add_one, hx, Option.toList_some, parL_snoc]; simp only [List.append_assoc]
        have hl40 := hex_len x
        rw [hxi] at hl40
        have cX := ref_Hex (some ⟨bb, oo + k * 20, none⟩) x 20 wr (by omega) (rd_range rx)
        rw [hxi] at cX
        obtain ⟨H, hH⟩ : ∃ H : ByteArray, (⟨(Pure.hex x).toArray⟩ : ByteArray) = H := ⟨_, rfl⟩
        have hHl : H.data.toList = Pure.hex x := by rw [← hH]
        have hHs : H.size = 40 := by rw [Lib.size_eq, hHl, hl40]
        simp only [hH] at cX
        obtain ⟨T1, h1⟩ : ∃ T : ByteArray, S ++ (⟨#[112, 97, 114, 101, 110, 116, 32]⟩ : ByteArray) = T := ⟨_, rfl⟩
        obtain ⟨T2, h2⟩ : ∃ T : ByteArray, T1 ++ H = T := ⟨_, rfl⟩
        obtain ⟨T3, h3⟩ : ∃ T : ByteArray, T2 ++ (⟨#[10]⟩ : ByteArray) = T := ⟨_, rfl⟩
        have s1 : T1.size = S.size + 7 := by rw [← h1, ByteArray.size_append]; rfl
        have s2' : T2.size = S.size + 47 := by rw [← h2, ByteArray.size_append, s1, hHs]
        have s3 : T3.size = S.size + 48 := by rw [← h3, ByteArray.size_append, s2']; rfl
        have n1 : ¬ 9223372036854775807 < S.size + 7 := by omega
        have n2 : ¬ 9223372036854775807 < T1.size + H.size := by omega
        have n3 : ¬ 9223372036854775807 < T2.size + 1 := by omega
        have hT3 : T3.data.toList = P0 ++ parL (r.par.take (k + 1)) := by
          rw [hnx, ← hI.out, ← h3, ← h2, ← h1]
          simp only [append_list, hHl, List.append_assoc]
          rfl
        have HT3 := Lib.hid hT3
        have HS3 := Lib.hid (show T3.size = 46 + 48 * (k + 1) by omega)
        have gww : Grew wr wr := Below.refl _ _
        clear hcx hx hnx hT3 s1 s2' s3 hH hHl hHs hl40 hSs hI
        go_wp2_with (go_at_call 22; with_reducible refine cX.mono ?_; rintro e5 W5 ⟨rfl, g5⟩)
        go_roundw
        case rel => exact ⟨k + 1, T3, rfl, by omega, by go_num, hgV.trans' (by assumption), HS3.out, HT3⟩
        case measure => simp [intOf]; omega
      · obtain rfl : k = n := by omega
        have hI2 := hI.out
        rw [← HN.out, List.take_length] at hI2
        have kc := run_conv_bytes
        have eA : printB r.au = ⟨(printN r.au).toArray⟩ := if_pos hra
        have eC : printB r.co = ⟨(printN r.co).toArray⟩ := if_pos hrc
        have lA := printN_len hra
        have lC := printN_len hrc
        have cPA : ∀ W, Grew V W → Calls Tryz.prog 23 #[.agg #[.string r.au.name, .string r.au.email, .int .i64 r.au.when, .int .i64 r.au.zone]] W fun e w' => e = .returned (.string (printB r.au)) ∧ Grew W w' := fun W g => ref06_Print r.au W (nameShort hra).1 (nameShort hra).2 (u8_grew hu (gV.trans' g))
        have cPC : ∀ W, Grew V W → Calls Tryz.prog 23 #[.agg #[.string r.co.name, .string r.co.email, .int .i64 r.co.when, .int .i64 r.co.zone]] W fun e w' => e = .returned (.string (printB r.co)) ∧ Grew W w' := fun W g => ref06_Print r.co W (nameShort hrc).1 (nameShort hrc).2 (u8_grew hu (gV.trans' g))
        rw [eA] at cPA
        rw [eC] at cPC
        obtain ⟨PA, hPA⟩ : ∃ P : ByteArray, (⟨(printN r.au).toArray⟩ : ByteArray) = P := ⟨_, rfl⟩
        obtain ⟨PC, hPC⟩ : ∃ P : ByteArray, (⟨(printN r.co).toArray⟩ : ByteArray) = P := ⟨_, rfl⟩
        simp only [hPA] at cPA
        simp only [hPC] at cPC
        have hPAl : PA.data.toList = printN r.au := by rw [← hPA]
        have hPCl : PC.data.toList = printN r.co := by rw [← hPC]
        have zA : PA.size ≤ 440 := by rw [Lib.size_eq, hPAl]; exact lA
        have zC : PC.size ≤ 440 := by rw [Lib.size_eq, hPCl]; exact lC
        obtain ⟨T1, h1⟩ : ∃ T : ByteArray, S ++ (⟨#[97, 117, 116, 104, 111, 114, 32]⟩ : ByteArray) = T := ⟨_, rfl⟩
        obtain ⟨T2, h2⟩ : ∃ T : ByteArray, T1 ++ PA = T := ⟨_, rfl⟩
        obtain ⟨T3, h3⟩ : ∃ T : ByteArray, T2 ++ (⟨#[10, 99, 111, 109, 109, 105, 116, 116, 101, 114, 32]⟩ : ByteArray) = T := ⟨_, rfl⟩
        obtain ⟨T4, h4⟩ : ∃ T : ByteArray, T3 ++ PC = T := ⟨_, rfl⟩
        obtain ⟨T5, h5⟩ : ∃ T : ByteArray, T4 ++ (⟨#[10, 10]⟩ : ByteArray) = T := ⟨_, rfl⟩
        obtain ⟨T6, h6⟩ : ∃ T : ByteArray, T5 ++ r.text = T := ⟨_, rfl⟩
        have s1 : T1.size = S.size + 7 := by rw [← h1, ByteArray.size_append]; rfl
        have s2' : T2.size = T1.size + PA.size := by rw [← h2, ByteArray.size_append]
        have s3 : T3.size = T2.size + 11 := by rw [← h3, ByteArray.size_append]; rfl
        have s4 : T4.size = T3.size + PC.size := by rw [← h4, ByteArray.size_append]
        have s5 : T5.size = T4.size + 2 := by rw [← h5, ByteArray.size_append]; rfl
        have s6 : T6.size = T5.size + r.text.size := by rw [← h6, ByteArray.size_append]
        have n1 : ¬ 9223372036854775807 < S.size + 7 := by omega
        have n2 : ¬ 9223372036854775807 < T1.size + PA.size := by omega
        have n3 : ¬ 9223372036854775807 < T2.size + 11 := by omega
        have n4 : ¬ 9223372036854775807 < T3.size + PC.size := by omega
        have n5 : ¬ 9223372036854775807 < T4.size + 2 := by omega
        have n6 : ¬ 9223372036854775807 < T5.size + r.text.size := by omega
        have z6 : T6.size ≤ 9223372036854775807 := by omega
        have hT6 : T6.data.toList = printR r := by
          rw [← h6, ← h5, ← h4, ← h3, ← h2, ← h1]
          simp only [append_list, hPAl, hPCl, hI2]
          rw [← HP0.out]
          unfold printR
          simp only [List.append_assoc]
          rfl
        have gVd : Grew V wr.drew := hgV.drew
        have rr1 : ∀ W, Grew V W → W.rangeAt w.heap.size 21 [.string r.au.name, .string r.au.email, .int .i64 r.au.when, .int .i64 r.au.zone] := rA
        have rr2 : ∀ W, Grew V W → W.rangeAt w.heap.size 25 [.string r.co.name, .string r.co.email, .int .i64 r.co.when, .int .i64 r.co.zone] := rC
        have HT6 := Lib.hid hT6
        clear hT6 s1 s2' s3 s4 s5 s6 hPA hPC hPAl hPCl eA eC lA lC rA rC hI2 hI hSs
        go_wp2_with fail
        refine wp_region_held_drew (S := fun w' => Grew V w') (by kernel_rfl) (by first | assumption | exact Below.drew (by assumption) | exact Grew.trans' (by assumption) (bytesWorld_grew _ _)) (fun hHeld => ?_)
        first
          | (refine wpAnyH_take (i := 0) (v := ?_) rfl (by kernel_rfl) (by kernel_rfl) (by kernel_rfl) (fun _ _ _ h => h) (Or.inl ⟨by rfl, ?_⟩) (by assumption) ?_; rotate_left 1; focus (intro w hSw; (try dsimp only at hSw); go_simp; (try with_reducible rfl)))
          | fail
        try simp only [Act.put, List.getElem_toArray, List.getElem_cons_succ, List.getElem_cons_zero, List.setIfInBounds_toArray, List.set_cons_zero, List.set_cons_succ]
        first
          | (refine wpAnyH_take (i := 1) (v := ?_) rfl (by kernel_rfl) (by kernel_rfl) (by kernel_rfl) (fun _ _ _ h => h) (Or.inl ⟨by rfl, ?_⟩) (by assumption) ?_; rotate_left 1; focus (intro w hSw; (try dsimp only at hSw); go_simp; (try with_reducible rfl)))
          | fail
        try simp only [Act.put, List.getElem_toArray, List.getElem_cons_succ, List.getElem_cons_zero, List.setIfInBounds_toArray, List.set_cons_zero, List.set_cons_succ]
        first
          | (refine wpAnyH_take (i := 2) (v := ?_) rfl (by kernel_rfl) (by kernel_rfl) (by kernel_rfl) (fun _ _ _ h => h) (Or.inl ⟨by rfl, ?_⟩) (by assumption) ?_; rotate_left 1; focus (intro w hSw; (try dsimp only at hSw); go_simp; (try with_reducible rfl)))
          | fail
        try simp only [Act.put, List.getElem_toArray, List.getElem_cons_succ, List.getElem_cons_zero, List.setIfInBounds_toArray, List.set_cons_zero, List.set_cons_succ]
        first
          | (refine' wpAnyH_take (i := 3) (v := _) rfl (by kernel_rfl) (by kernel_rfl) (by kernel_rfl) (fun _ _ _ h => h) (yieldsIf_load_mid (by rfl) _ _ rfl _ _ rfl _ _ (fun w hSw => (by (first | exact rr1 _ hSw | exact rr2 _ hSw))) Tryz.underlying26 rfl (by first | assumption | kernel_rfl)) (by assumption) ?_)
          | fail
        try simp only [Act.put, List.getElem_toArray, List.getElem_cons_succ, List.getElem_cons_zero, List.setIfInBounds_toArray, List.set_cons_zero, List.set_cons_succ]
        first
          | (refine wpAnyH_take (i := 7) (v := ?_) rfl (by kernel_rfl) (by kernel_rfl) (by kernel_rfl) (fun _ _ _ h => h) (Or.inl ⟨by rfl, ?_⟩) (by assumption) ?_; rotate_left 1; focus (intro w hSw; (try dsimp only at hSw); go_simp; (try with_reducible rfl)))
          | fail
        try simp only [Act.put, List.getElem_toArray, List.getElem_cons_succ, List.getElem_cons_zero, List.setIfInBounds_toArray, List.set_cons_zero, List.set_cons_succ]
        first
          | (refine' wpAnyH_take (i := 8) (v := _) rfl (by kernel_rfl) (by kernel_rfl) (by kernel_rfl) (fun _ _ _ h => h) (yieldsIf_load_mid (by rfl) _ _ rfl _ _ rfl _ _ (fun w hSw => (by (first | exact rr1 _ hSw | exact rr2 _ hSw))) Tryz.underlying26 rfl (by first | assumption | kernel_rfl)) (by assumption) ?_)
          | fail
        try simp only [Act.put, List.getElem_toArray, List.getElem_cons_succ, List.getElem_cons_zero, List.setIfInBounds_toArray, List.set_cons_zero, List.set_cons_succ]
        first
          | (refine wpAnyH_take (i := 12) (v := ?_) rfl (by kernel_rfl) (by kernel_rfl) (by kernel_rfl) (fun _ _ _ h => h) (Or.inl ⟨by rfl, ?_⟩) (by assumption) ?_; rotate_left 1; focus (intro w hSw; (try dsimp only at hSw); go_simp; (try with_reducible rfl)))
          | fail
        try simp only [Act.put, List.getElem_toArray, List.getElem_cons_succ, List.getElem_cons_zero, List.setIfInBounds_toArray, List.set_cons_zero, List.set_cons_succ]
        first
          | (refine wpAnyH_take (i := 13) (v := ?_) rfl (by kernel_rfl) (by kernel_rfl) (by kernel_rfl) (fun _ _ _ h => h) (Or.inl ⟨by rfl, ?_⟩) (by assumption) ?_; rotate_left 1; focus (intro w hSw; (try dsimp only at hSw); go_simp; (try with_reducible rfl)))
          | fail
        try simp only [Act.put, List.getElem_toArray, List.getElem_cons_succ, List.getElem_cons_zero, List.setIfInBounds_toArray, List.set_cons_zero, List.set_cons_succ]
        refine wpAnyH_ready (rs := [4]) (by kernel_rfl) (by simp) ?_
        refine AllReadyH.cons rfl (fun K hK => ?_) AllReadyH.nil
        go_simp
        (go_at_call 23; with_reducible refine (cPA _ gVd).mono ?_; rintro e7 W7 ⟨rfl, g7⟩; have gV7 : Grew V W7 := Grew.trans' gVd g7)
        go_wp2_with fail
        refine hK.out _ _ (by first | assumption | exact Below.drew (by assumption) | exact Grew.trans' (by assumption) (bytesWorld_grew _ _)) (fun hHeld => ?_)
        clear hK K
        try simp only [Act.put, List.getElem_toArray, List.getElem_cons_succ, List.getElem_cons_zero, List.setIfInBounds_toArray, List.set_cons_zero, List.set_cons_succ]
        first
          | (refine wpAnyH_take (i := 5) (v := ?_) rfl (by kernel_rfl) (by kernel_rfl) (by kernel_rfl) (fun _ _ _ h => h) (Or.inl ⟨by rfl, ?_⟩) (by assumption) ?_; rotate_left 1; focus (intro w hSw; (try dsimp only at hSw); go_simp; (try with_reducible rfl)))
          | fail
        try simp only [Act.put, List.getElem_toArray, List.getElem_cons_succ, List.getElem_cons_zero, List.setIfInBounds_toArray, List.set_cons_zero, List.set_cons_succ]
        first
          | (refine wpAnyH_take (i := 6) (v := ?_) rfl (by kernel_rfl) (by kernel_rfl) (by kernel_rfl) (fun _ _ _ h => h) (Or.inl ⟨by rfl, ?_⟩) (by assumption) ?_; rotate_left 1; focus (intro w hSw; (try dsimp only at hSw); go_simp; (try with_reducible rfl)))
          | fail
        try simp only [Act.put, List.getElem_toArray, List.getElem_cons_succ, List.getElem_cons_zero, List.setIfInBounds_toArray, List.set_cons_zero, List.set_cons_succ]
        refine wpAnyH_ready (rs := [9]) (by kernel_rfl) (by simp) ?_
        refine AllReadyH.cons rfl (fun K hK => ?_) AllReadyH.nil
        go_simp
        (go_at_call 23; with_reducible refine (cPC _ gV7).mono ?_; rintro e8 W8 ⟨rfl, g8⟩; have gV8 : Grew V W8 := Grew.trans' gV7 g8)
        go_wp2_with fail
        refine hK.out _ _ (by first | assumption | exact Below.drew (by assumption) | exact Grew.trans' (by assumption) (bytesWorld_grew _ _)) (fun hHeld => ?_)
        clear hK K
        try simp only [Act.put, List.getElem_toArray, List.getElem_cons_succ, List.getElem_cons_zero, List.setIfInBounds_toArray, List.set_cons_zero, List.set_cons_succ]
        first
          | (refine wpAnyH_take (i := 10) (v := ?_) rfl (by kernel_rfl) (by kernel_rfl) (by kernel_rfl) (fun _ _ _ h => h) (Or.inl ⟨by rfl, ?_⟩) (by assumption) ?_; rotate_left 1; focus (intro w hSw; (try dsimp only at hSw); go_simp; (try with_reducible rfl)))
          | fail
        try simp only [Act.put, List.getElem_toArray, List.getElem_cons_succ, List.getElem_cons_zero, List.setIfInBounds_toArray, List.set_cons_zero, List.set_cons_succ]
        first
          | (refine wpAnyH_take (i := 11) (v := ?_) rfl (by kernel_rfl) (by kernel_rfl) (by kernel_rfl) (fun _ _ _ h => h) (Or.inl ⟨by rfl, ?_⟩) (by assumption) ?_; rotate_left 1; focus (intro w hSw; (try dsimp only at hSw); go_simp; (try with_reducible rfl)))
          | fail
        try simp only [Act.put, List.getElem_toArray, List.getElem_cons_succ, List.getElem_cons_zero, List.setIfInBounds_toArray, List.set_cons_zero, List.set_cons_succ]
        first
          | (refine wpAnyH_take (i := 14) (v := ?_) rfl (by kernel_rfl) (by kernel_rfl) (by kernel_rfl) (fun _ _ _ h => h) (Or.inl ⟨by rfl, ?_⟩) (by assumption) ?_; rotate_left 1; focus (intro w hSw; (try dsimp only at hSw); go_simp; (try with_reducible rfl)))
          | fail
        try simp only [Act.put, List.getElem_toArray, List.getElem_cons_succ, List.getElem_cons_zero, List.setIfInBounds_toArray, List.set_cons_zero, List.set_cons_succ]
        refine wpAnyH_ready (rs := [15]) (by kernel_rfl) (by simp) ?_
        refine AllReadyH.cons rfl (fun K hK => ?_) AllReadyH.nil
        go_simp
        skip
        go_wp2_with fail
        refine hK.out _ _ (by first | assumption | exact Below.drew (by assumption) | exact Grew.trans' (by assumption) (bytesWorld_grew _ _)) (fun hHeld => ?_)
        clear hK K
        try simp only [Act.put, List.getElem_toArray, List.getElem_cons_succ, List.getElem_cons_zero, List.setIfInBounds_toArray, List.set_cons_zero, List.set_cons_succ]
        first
          | (refine wpAnyH_take (i := 16) (v := ?_) rfl (by kernel_rfl) (by kernel_rfl) (by kernel_rfl) (fun _ _ _ h => h) (Or.inl ⟨by rfl, ?_⟩) (by assumption) ?_; rotate_left 1; focus (intro w hSw; (try dsimp only at hSw); go_simp; (try with_reducible rfl)))
          | fail
        try simp only [Act.put, List.getElem_toArray, List.getElem_cons_succ, List.getElem_cons_zero, List.setIfInBounds_toArray, List.set_cons_zero, List.set_cons_succ]
        first
          | (refine wpAnyH_take (i := 17) (v := ?_) rfl (by kernel_rfl) (by kernel_rfl) (by kernel_rfl) (fun _ _ _ h => h) (Or.inl ⟨by rfl, ?_⟩) (by assumption) ?_; rotate_left 1; focus (intro w hSw; (try dsimp only at hSw); go_simp; (try with_reducible rfl)))
          | fail
        try simp only [Act.put, List.getElem_toArray, List.getElem_cons_succ, List.getElem_cons_zero, List.setIfInBounds_toArray, List.set_cons_zero, List.set_cons_succ]
        refine wpAnyH_done (by kernel_rfl) ?_ _
        go_wp2
        go_ret2
        refine ⟨gV.trans' (gV8.trans' (bytesWorld_grew _ _)), .inr ⟨trivial, _, rfl, ?_⟩⟩
        rw [← HT6.out]
        exact OwnB.conv' (base := w.heap.size) (w := W8) T6 (gV.trans' gV8).size z6

end Go.Proofs.YtemojhcbhljemaaGreatDoor

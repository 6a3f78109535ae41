/- manifest.file: the file that a line is. Conditions: at most 2^31 bytes; the library's tables are laid. -/
import Derived.Test.YtgjnnoamhmmcnaaDoorMan1
import Derived.Test.YtgjnnoamhmmcnaaDoorCut
import Derived.Test.YtgjnnoamhmmcnaaDoorM4
import Derived.Test.YtgjnnoamhmmcnaaDoorM1
namespace Go.Proofs.YtgjnnoamhmmcnaaDoor
set_option linter.unusedVariables false
set_option linter.unusedSimpArgs false
open Go.RowKit

abbrev zeroFil : Fil := ⟨⟨#[]⟩, 0, zeros20⟩
/-- What file leaves. -/
def FilePost (s : List UInt8) (w : World) (e : Ending) (w' : World) : Prop := Grew w w' ∧
  ((∃ x, fileM s = some x ∧ e = .returned (.tuple #[.agg x.cells.toArray, .bool true])) ∨ (fileM s = none ∧ e = .returned (.tuple #[.agg zeroFil.cells.toArray, .bool false])))

theorem zeroFil_row : zeroFil.cells.toArray = #[.string ⟨#[]⟩, .int .i64 0, .int .u8 0, .int .u8 0, .int .u8 0, .int .u8 0, .int .u8 0, .int .u8 0, .int .u8 0, .int .u8 0, .int .u8 0, .int .u8 0, .int .u8 0, .int .u8 0, .int .u8 0, .int .u8 0, .int .u8 0, .int .u8 0, .int .u8 0, .int .u8 0, .int .u8 0, .int .u8 0] := rfl
theorem run_build_file (p : ByteArray) (m : Int) (id : List UInt8) (h : id.length = 20) (w : World) : (Instr.build 28 #[(0, .string p), (1, .int .i64 m), (2, .agg (Lib.byteCells id).toArray)]).run Tryd.prog w = .ok (.agg (⟨p, m, id⟩ : Fil).cells.toArray) w := by
  have hl : (Lib.byteCells id).length = 20 := by rw [Lib.byteCells_length]; exact h
  obtain ⟨b0, b1, b2, b3, b4, b5, b6, b7, b8, b9, b10, b11, b12, b13, b14, b15, b16, b17, b18, b19, hb⟩ : ∃ b0 b1 b2 b3 b4 b5 b6 b7 b8 b9 b10 b11 b12 b13 b14 b15 b16 b17 b18 b19, Lib.byteCells id = [b0, b1, b2, b3, b4, b5, b6, b7, b8, b9, b10, b11, b12, b13, b14, b15, b16, b17, b18, b19] := by
    generalize Lib.byteCells id = L at hl
    match L, hl with
    | [b0, b1, b2, b3, b4, b5, b6, b7, b8, b9, b10, b11, b12, b13, b14, b15, b16, b17, b18, b19], _ => exact ⟨_, _, _, _, _, _, _, _, _, _, _, _, _, _, _, _, _, _, _, _, rfl⟩
  unfold Fil.cells
  simp only [hb]
  exact run_build w _ _ _ (by kernel_rfl)

theorem cut_uniform {s : ByteArray} {w w' : World} {e : Ending} (h : CutPost 0 s w e w') : ∃ (a r : ByteArray) (is : Bool), e = .returned (.tuple #[.string a, .string r, .bool is]) ∧ r.size ≤ s.size ∧ Grew w w' ∧ Hid ((is = true ∧ Pure.cutC 0 s.data.toList = some (a.data.toList, r.data.toList)) ∨ (is = false ∧ Pure.cutC 0 s.data.toList = none)) := by
  obtain ⟨g, ⟨h1, rfl⟩ | ⟨a, b, h1, h2, rfl⟩⟩ := h
  · exact ⟨s, ⟨#[]⟩, false, rfl, Nat.zero_le _, g, .inr ⟨rfl, h1⟩⟩
  · exact ⟨a, b, true, rfl, by omega, g, .inl ⟨rfl, h1⟩⟩
theorem id_uniform {s : ByteArray} {w w' : World} {e : Ending} (h : IdPost s w e w') : ∃ (id : List UInt8) (E : Int), e = .returned (.tuple #[.agg (Lib.byteCells id).toArray, .int .i64 E]) ∧ id.length = 20 ∧ Grew w w' ∧ ((E = 0 ∧ Hid (Pure.unhex s.data.toList = some id)) ∨ (E = 4 ∧ Hid (∀ l, Pure.unhex s.data.toList = some l → l.length ≠ 20))) := by
  obtain ⟨g, ⟨l, h1, h2, rfl⟩ | ⟨h1, rfl⟩⟩ := h
  · exact ⟨l, 0, rfl, h2, g, .inl ⟨rfl, h1⟩⟩
  · exact ⟨zeros20, 4, rfl, rfl, g, .inr ⟨rfl, h1⟩⟩

set_option maxRecDepth 100000 in
set_option maxHeartbeats 4000000 in
theorem manifest_file (s : ByteArray) (w : World) (hs : s.size ≤ 2147483648) (hm : MaxOk w) :
    Calls Tryd.prog 25 #[.string s] w (FilePost s.data.toList w) := by
  obtain ⟨Z, hZ⟩ : ∃ Z, zeroFil.cells.toArray = Z := ⟨_, rfl⟩
  obtain ⟨W0, hW0⟩ : ∃ W0, w.alloc (.cells Z 28) = W0 := ⟨_, rfl⟩
  have gw0 : Grew w W0 := by rw [← hW0]; exact (Below.refl w.heap.size w).alloc (Nat.le_refl _) _
  have hb0 : W0.heap[w.heap.size]? = some (.cells Z 28 (0, 0)) := by rw [← hW0]; exact heap_alloc_new _ _
  have cC := (strings_Cut1 0 s W0 hs (hm.grew gw0)).mono (fun _ _ h => cut_uniform h)
  have HW0 := Lib.hid hW0
  have HZ := Lib.hid hZ
  rw [← hW0, ← hZ, zeroFil_row] at cC
  clear hZ hW0
  go_enter Tryd.func25, Tryd.ntmps25
  go_wp2_with (go_at_call 24; with_reducible refine cC.mono ?_)
  rintro e1 W1 ⟨a, r, is, rfl, hrs, g1, hcut⟩
  rw [← zeroFil_row, HZ.out, HW0.out] at g1
  have gw1 := gw0.trans' g1
  have hb1 := (g1.block w.heap.size (Array.getElem?_eq_some_iff.1 hb0).1).trans hb0
  obtain ⟨n, hn, hnr⟩ : ∃ n : Nat, min (r.size : Int) 40 = (n : Int) ∧ n = min r.size 40 := ⟨min r.size 40, by omega, rfl⟩
  have hn1 : n ≤ r.size := by omega
  have hn2 : (n : Int) ≤ (r.size : Int) := by omega
  obtain ⟨D1, hD1⟩ : ∃ D, r.extract 0 n = D := ⟨_, rfl⟩
  obtain ⟨D2, hD2⟩ : ∃ D, r.extract n r.size = D := ⟨_, rfl⟩
  have hD1s : D1.size ≤ 40 := by rw [← hD1, ByteArray.size_extract]; omega
  have hd1 : D1.data.toList = r.data.toList.take 40 := by
    rw [← hD1, ByteArray.data_extract]
    simp only [Array.toList_extract, List.extract_eq_take_drop, Nat.sub_zero, List.drop_zero]
    have : r.data.toList.length = r.size := Array.length_toList
    rw [hnr]
    by_cases h : r.size ≤ 40
    · rw [Nat.min_eq_left h, List.take_of_length_le (by omega), List.take_of_length_le (by omega)]
    · rw [Nat.min_eq_right (by omega)]
  have hd2 : D2.data.toList = r.data.toList.drop n := by
    rw [← hD2, ByteArray.data_extract]
    simp only [Array.toList_extract, List.extract_eq_take_drop]
    have : r.data.toList.length = r.size := Array.length_toList
    rw [List.take_of_length_le (by rw [List.length_drop]; omega)]
  have cI := (hexa_Id D1 W1 (by omega)).mono (fun _ _ h => id_uniform h)
  have HD1 := Lib.hid hd1
  have HD2 := Lib.hid hd2
  have HNR := Lib.hid hnr
  clear hd1 hd2 hnr cC g1 hb0 HW0 gw0
  go_wp2_with (go_at_call 38; with_reducible refine cI.mono ?_)
  rintro e2 W2 ⟨id, E, rfl, hid, g2, hE⟩
  have nfx : (Tryd.prog.info? 26).map (·.size) = some (Lib.byteCells id).length := infoId' hid
  have one1 := one_bytes' id
  have h22 : (Lib.byteCells id).length = 20 := by rw [Lib.byteCells_length]; exact hid
  have gw2 := gw1.trans' g2
  have hb2 := (g2.block w.heap.size (Array.getElem?_eq_some_iff.1 hb1).1).trans hb1
  go_wp2_with (refine wpList_store_new rfl 26 _ _ rfl W2 _ rfl (Lib.byteCells id) rfl rfl h22.symm nfx one1 ?_)
  intro V gV gVV rV fV sV
  have gwV := gw2.trans' gV
  have hbV := (gV.block w.heap.size (Array.getElem?_eq_some_iff.1 hb2).1).trans hb2
  have HNZ : Hid ((Tryd.prog.info? 28).map (·.size) = some zeroFil.cells.toArray.size) := by rw [List.size_toArray]; exact infoFile zeroFil rfl
  have HNZL : Hid ((Tryd.prog.info? 28).map (·.size) = some zeroFil.cells.length) := infoFile zeroFil rfl
  have HZS : Hid (Z.size = zeroFil.cells.toArray.size) := by rw [← HZ.out]; rfl
  have HOZ : Hid (zeroFil.cells.toArray.all (·.oneCell') = true) := all_oneCell_toArray zeroFil.one
  have HID := Lib.hid hid
  have HBV := Lib.hid hbV
  have HRV := Lib.hid rV
  have HSZ : Hid (W2.heap.size ≠ w.heap.size) := by
    have := (Array.getElem?_eq_some_iff.1 hb2).1
    unfold Hid
    omega
  clear hbV hb1 hb2 fV sV cI g2 gV gw2 gw1 one1 h22 nfx hs hm rV
  have hways : (is = false ∨ (is = true ∧ E = 4)) ∧ fileM s.data.toList = none ∨ (is = true ∧ E = 0 ∧ Hid (Pure.cutC 0 s.data.toList = some (a.data.toList, r.data.toList)) ∧ Hid (Pure.unhex D1.data.toList = some id)) := by
    rcases hcut.out with ⟨rfl, h1⟩ | ⟨rfl, h1⟩
    · rcases hE with ⟨rfl, h2⟩ | ⟨rfl, h2⟩
      · exact .inr ⟨rfl, rfl, h1, h2⟩
      · refine .inl ⟨.inr ⟨rfl, rfl⟩, ?_⟩
        have h3 := h2.out
        rw [HD1.out] at h3
        unfold fileM
        rw [h1]
        simp only
        cases hu : Pure.unhex (r.data.toList.take 40) with
        | none => rfl
        | some l => simp only; rw [if_neg (h3 l hu)]
    · refine .inl ⟨.inl rfl, ?_⟩
      unfold fileM
      rw [h1]
  clear hcut hE
  rcases hways with ⟨rfl | ⟨rfl, rfl⟩, hno⟩ | ⟨rfl, rfl, hc, hu⟩
  rotate_right
  · have hn40 : n = 40 := by
      have h1 := Pure.unhex_length hu.out
      have h2 : D1.data.toList.length = n := by
        rw [HD1.out, List.length_take, HNR.out]
        have : r.data.toList.length = r.size := Array.length_toList
        omega
      have h3 := HID.out
      omega
    have hfm : fileM s.data.toList = (modeM D2.data.toList).map fun m => ⟨a, m, id⟩ := by
      have h1 := hu.out
      rw [HD1.out] at h1
      unfold fileM
      rw [hc.out]
      simp only
      rw [h1]
      simp only
      rw [if_pos HID.out, HD2.out, hn40]
    have HFM := Lib.hid hfm
    clear hfm hc hu hn40
    go_wp2
    go_loopw [10] (fun i wr => ∃ m : Nat, i = .int .i64 (m : Int) ∧ 1 ≤ m ∧ m ≤ 4 ∧ Grew V wr ∧ Hid (∀ j : Nat, 1 ≤ j → j < m → flagF (j : Int) ≠ D2.data.toList)) (fun i _ => 4 - (intOf i).toNat)
    case atStart => exact ⟨1, rfl, by omega, by omega, gVV, fun j h1 h2 => by omega⟩
    case round =>
      obtain ⟨m, rfl, hm1, hm4, hgV, hno⟩ := hrel
      by_cases hlt : m ≤ 3
      · have hlt2 : (m : Int) ≤ 3 := by omega
        have cW := fun W => manifest_flag (m : Int) W
        obtain ⟨FL, hFL⟩ : ∃ H : ByteArray, (⟨(flagF (m : Int)).toArray⟩ : ByteArray) = H := ⟨_, rfl⟩
        have hFLl : FL.data.toList = flagF (m : Int) := by rw [← hFL]
        simp only [hFL] at cW
        obtain ⟨B, hB⟩ : ∃ B, (D2.toList == FL.toList) = B := ⟨_, rfl⟩
        have hBE : B = true ↔ flagF (m : Int) = D2.data.toList := by
          rw [← hB, beq_iff_eq, ByteArray.toList_eq, ByteArray.toList_eq, hFLl]
          exact eq_comm
        have HBE := Lib.hid hBE
        clear hFL hFLl hBE
        have hlen1 : (n : Int) ≤ (r.size : Int) := hn2
        cases B with
        | false =>
          go_wp2
          refine wp_region_held_drew (S := fun w' => Grew V w') (by kernel_rfl) (by first | assumption | exact Below.drew (by assumption)) (fun hHeld => ?_)
          first
            | (refine wpAnyH_take (i := 0) (v := ?_) rfl (by kernel_rfl) (by kernel_rfl) (by kernel_rfl) (fun _ _ _ h => h) (Or.inl ⟨by rfl, ?_⟩) (by assumption) ?_; rotate_left 1; focus (intro w hSw; (try dsimp only at hSw); go_simp; (try with_reducible rfl)))
            | fail
          try simp only [Act.put, List.getElem_toArray, List.getElem_cons_succ, List.getElem_cons_zero, List.setIfInBounds_toArray, List.set_cons_zero, List.set_cons_succ]
          first
            | (refine wpAnyH_take (i := 1) (v := ?_) rfl (by kernel_rfl) (by kernel_rfl) (by kernel_rfl) (fun _ _ _ h => h) (Or.inl ⟨by rfl, ?_⟩) (by assumption) ?_; rotate_left 1; focus (intro w hSw; (try dsimp only at hSw); go_simp; (try with_reducible rfl)))
            | fail
          try simp only [Act.put, List.getElem_toArray, List.getElem_cons_succ, List.getElem_cons_zero, List.setIfInBounds_toArray, List.set_cons_zero, List.set_cons_succ]
          first
            | (refine wpAnyH_take (i := 2) (v := ?_) rfl (by kernel_rfl) (by kernel_rfl) (by kernel_rfl) (fun _ _ _ h => h) (Or.inl ⟨by rfl, ?_⟩) (by assumption) ?_; rotate_left 1; focus (intro w hSw; (try dsimp only at hSw); go_simp; (try with_reducible rfl)))
            | (refine wpAnyH_take (i := 2) (v := undef) rfl (by kernel_rfl) (by kernel_rfl) (by kernel_rfl) (fun _ _ _ h => h) (Or.inr ⟨by rfl, rfl⟩) (by assumption) ?_)
            | fail
          try simp only [Act.put, List.getElem_toArray, List.getElem_cons_succ, List.getElem_cons_zero, List.setIfInBounds_toArray, List.set_cons_zero, List.set_cons_succ]
          first
            | (refine wpAnyH_take (i := 3) (v := ?_) rfl (by kernel_rfl) (by kernel_rfl) (by kernel_rfl) (fun _ _ _ h => h) (Or.inl ⟨by rfl, ?_⟩) (by assumption) ?_; rotate_left 1; focus (intro w hSw; (try dsimp only at hSw); go_simp; (try with_reducible rfl)))
            | (refine wpAnyH_take (i := 3) (v := undef) rfl (by kernel_rfl) (by kernel_rfl) (by kernel_rfl) (fun _ _ _ h => h) (Or.inr ⟨by rfl, rfl⟩) (by assumption) ?_)
            | fail
          try simp only [Act.put, List.getElem_toArray, List.getElem_cons_succ, List.getElem_cons_zero, List.setIfInBounds_toArray, List.set_cons_zero, List.set_cons_succ]
          first
            | (refine wpAnyH_take (i := 4) (v := ?_) rfl (by kernel_rfl) (by kernel_rfl) (by kernel_rfl) (fun _ _ _ h => h) (Or.inl ⟨by rfl, ?_⟩) (by assumption) ?_; rotate_left 1; focus (intro w hSw; (try dsimp only at hSw); go_simp; (try with_reducible rfl)))
            | fail
          try simp only [Act.put, List.getElem_toArray, List.getElem_cons_succ, List.getElem_cons_zero, List.setIfInBounds_toArray, List.set_cons_zero, List.set_cons_succ]
          first
            | (refine wpAnyH_take (i := 5) (v := ?_) rfl (by kernel_rfl) (by kernel_rfl) (by kernel_rfl) (fun _ _ _ h => h) (Or.inl ⟨by rfl, ?_⟩) (by assumption) ?_; rotate_left 1; focus (intro w hSw; (try dsimp only at hSw); go_simp; (try with_reducible rfl)))
            | fail
          try simp only [Act.put, List.getElem_toArray, List.getElem_cons_succ, List.getElem_cons_zero, List.setIfInBounds_toArray, List.set_cons_zero, List.set_cons_succ]
          first
            | (refine wpAnyH_take (i := 6) (v := ?_) rfl (by kernel_rfl) (by kernel_rfl) (by kernel_rfl) (fun _ _ _ h => h) (Or.inl ⟨by rfl, ?_⟩) (by assumption) ?_; rotate_left 1; focus (intro w hSw; (try dsimp only at hSw); go_simp; (try with_reducible rfl)))
            | (refine wpAnyH_take (i := 6) (v := undef) rfl (by kernel_rfl) (by kernel_rfl) (by kernel_rfl) (fun _ _ _ h => h) (Or.inr ⟨by rfl, rfl⟩) (by assumption) ?_)
            | fail
          try simp only [Act.put, List.getElem_toArray, List.getElem_cons_succ, List.getElem_cons_zero, List.setIfInBounds_toArray, List.set_cons_zero, List.set_cons_succ]
          first
            | (refine wpAnyH_take (i := 7) (v := ?_) rfl (by kernel_rfl) (by kernel_rfl) (by kernel_rfl) (fun _ _ _ h => h) (Or.inl ⟨by rfl, ?_⟩) (by assumption) ?_; rotate_left 1; focus (intro w hSw; (try dsimp only at hSw); go_simp; (try with_reducible rfl)))
            | (refine wpAnyH_take (i := 7) (v := undef) rfl (by kernel_rfl) (by kernel_rfl) (by kernel_rfl) (fun _ _ _ h => h) (Or.inr ⟨by rfl, rfl⟩) (by assumption) ?_)
            | fail
          try simp only [Act.put, List.getElem_toArray, List.getElem_cons_succ, List.getElem_cons_zero, List.setIfInBounds_toArray, List.set_cons_zero, List.set_cons_succ]
          first
            | (refine wpAnyH_take (i := 8) (v := ?_) rfl (by kernel_rfl) (by kernel_rfl) (by kernel_rfl) (fun _ _ _ h => h) (Or.inl ⟨by rfl, ?_⟩) (by assumption) ?_; rotate_left 1; focus (intro w hSw; (try dsimp only at hSw); go_simp; (try with_reducible rfl)))
            | (refine wpAnyH_take (i := 8) (v := undef) rfl (by kernel_rfl) (by kernel_rfl) (by kernel_rfl) (fun _ _ _ h => h) (Or.inr ⟨by rfl, rfl⟩) (by assumption) ?_)
            | fail
          try simp only [Act.put, List.getElem_toArray, List.getElem_cons_succ, List.getElem_cons_zero, List.setIfInBounds_toArray, List.set_cons_zero, List.set_cons_succ]
          first
            | (refine wpAnyH_take (i := 9) (v := ?_) rfl (by kernel_rfl) (by kernel_rfl) (by kernel_rfl) (fun _ _ _ h => h) (Or.inl ⟨by rfl, ?_⟩) (by assumption) ?_; rotate_left 1; focus (intro w hSw; (try dsimp only at hSw); go_simp; (try with_reducible rfl)))
            | (refine wpAnyH_take (i := 9) (v := undef) rfl (by kernel_rfl) (by kernel_rfl) (by kernel_rfl) (fun _ _ _ h => h) (Or.inr ⟨by rfl, rfl⟩) (by assumption) ?_)
            | fail
          try simp only [Act.put, List.getElem_toArray, List.getElem_cons_succ, List.getElem_cons_zero, List.setIfInBounds_toArray, List.set_cons_zero, List.set_cons_succ]
          first
            | (refine wpAnyH_take (i := 10) (v := undef) rfl (by kernel_rfl) (by kernel_rfl) (by kernel_rfl) (fun _ _ _ h => h) (Or.inr ⟨by rfl, rfl⟩) (by assumption) ?_; try simp only [Act.put, List.getElem_toArray, List.getElem_cons_succ, List.getElem_cons_zero, List.setIfInBounds_toArray, List.set_cons_zero, List.set_cons_succ])
            | (refine wpAnyH_ready (rs := [10]) (by kernel_rfl) (by simp) ?_; refine AllReadyH.cons rfl (fun K hK => ?_) AllReadyH.nil; go_simp; ((go_at_call 20; with_reducible refine (cW _).mono ?_; rintro e9 W9 ⟨rfl, h9⟩; subst W9)); go_wp2_with fail; refine hK.out _ _ (by first | assumption | exact Below.drew (by assumption)) (fun hHeld => ?_); clear hK K; (try simp only [Act.put, List.getElem_toArray, List.getElem_cons_succ, List.getElem_cons_zero, List.setIfInBounds_toArray, List.set_cons_zero, List.set_cons_succ]))
            | fail
          first
            | (refine wpAnyH_take (i := 11) (v := ?_) rfl (by kernel_rfl) (by kernel_rfl) (by kernel_rfl) (fun _ _ _ h => h) (Or.inl ⟨by rfl, ?_⟩) (by assumption) ?_; rotate_left 1; focus (intro w hSw; (try dsimp only at hSw); go_simp; (try with_reducible rfl)))
            | (refine wpAnyH_take (i := 11) (v := undef) rfl (by kernel_rfl) (by kernel_rfl) (by kernel_rfl) (fun _ _ _ h => h) (Or.inr ⟨by rfl, rfl⟩) (by assumption) ?_)
            | fail
          try simp only [Act.put, List.getElem_toArray, List.getElem_cons_succ, List.getElem_cons_zero, List.setIfInBounds_toArray, List.set_cons_zero, List.set_cons_succ]
          first
            | (refine wpAnyH_take (i := 12) (v := ?_) rfl (by kernel_rfl) (by kernel_rfl) (by kernel_rfl) (fun _ _ _ h => h) (Or.inl ⟨by rfl, ?_⟩) (by assumption) ?_; rotate_left 1; focus (intro w hSw; (try dsimp only at hSw); go_simp; (try with_reducible rfl)))
            | fail
          try simp only [Act.put, List.getElem_toArray, List.getElem_cons_succ, List.getElem_cons_zero, List.setIfInBounds_toArray, List.set_cons_zero, List.set_cons_succ]
          refine wpAnyH_done (by kernel_rfl) ?_ _
          go_wp2
          go_roundw
          case rel =>
            refine ⟨m + 1, by go_num, by omega, by omega, by assumption, fun j k1 k2 => ?_⟩
            by_cases e : j = m
            · subst e; intro e; have := HBE.out.2 e; cases this
            · exact hno.out j k1 (by omega)
          case measure => simp [intOf]; omega
        | true =>
          have hfm : fileM s.data.toList = some ⟨a, (m : Int), id⟩ := by
            rw [HFM.out, ← HBE.out.1 rfl, modeM_flag (by omega)]
            rfl
          have HFM2 := Lib.hid hfm
          have hid20 := HID.out
          obtain ⟨X, hX⟩ : ∃ X : Fil, (⟨a, (m : Int), id⟩ : Fil) = X := ⟨_, rfl⟩
          have kb := fun W => run_build_file a (m : Int) id hid20 W
          simp only [hX] at kb
          rw [hX] at HFM2
          have hXi : X.id.length = 20 := by rw [← hX]; exact hid20
          have nfx : (Tryd.prog.info? 26).map (·.size) = some (Lib.byteCells id).length := infoId' hid20
          have nfX : (Tryd.prog.info? 28).map (·.size) = some X.cells.toArray.size := by rw [List.size_toArray]; exact infoFile X hXi
          have hXs : Z.size = X.cells.toArray.size := by rw [HZS.out, List.size_toArray, List.size_toArray, X.len hXi]; rfl
          have oX := all_oneCell_toArray X.one
          have HNX := Lib.hid nfX
          have HXS := Lib.hid hXs
          have HOX := Lib.hid oX
          have HXL := Lib.hid (infoFile X hXi)
          clear nfX hXs oX hfm
          go_wp2
          refine wp_region_held_drew (S := fun w' => Grew V w') (by kernel_rfl) (by first | assumption | exact Below.drew (by assumption)) (fun hHeld => ?_)
          first
            | (refine wpAnyH_take (i := 0) (v := ?_) rfl (by kernel_rfl) (by kernel_rfl) (by kernel_rfl) (fun _ _ _ h => h) (Or.inl ⟨by rfl, ?_⟩) (by assumption) ?_; rotate_left 1; focus (intro w hSw; (try dsimp only at hSw); go_simp; (try with_reducible rfl)))
            | fail
          try simp only [Act.put, List.getElem_toArray, List.getElem_cons_succ, List.getElem_cons_zero, List.setIfInBounds_toArray, List.set_cons_zero, List.set_cons_succ]
          first
            | (refine wpAnyH_take (i := 1) (v := ?_) rfl (by kernel_rfl) (by kernel_rfl) (by kernel_rfl) (fun _ _ _ h => h) (Or.inl ⟨by rfl, ?_⟩) (by assumption) ?_; rotate_left 1; focus (intro w hSw; (try dsimp only at hSw); go_simp; (try with_reducible rfl)))
            | fail
          try simp only [Act.put, List.getElem_toArray, List.getElem_cons_succ, List.getElem_cons_zero, List.setIfInBounds_toArray, List.set_cons_zero, List.set_cons_succ]
          first
            | (refine wpAnyH_take (i := 2) (v := ?_) rfl (by kernel_rfl) (by kernel_rfl) (by kernel_rfl) (fun _ _ _ h => h) (Or.inl ⟨by rfl, ?_⟩) (by assumption) ?_; rotate_left 1; focus (intro w hSw; (try dsimp only at hSw); go_simp; (try with_reducible rfl)))
            | (refine wpAnyH_take (i := 2) (v := undef) rfl (by kernel_rfl) (by kernel_rfl) (by kernel_rfl) (fun _ _ _ h => h) (Or.inr ⟨by rfl, rfl⟩) (by assumption) ?_)
            | fail
          try simp only [Act.put, List.getElem_toArray, List.getElem_cons_succ, List.getElem_cons_zero, List.setIfInBounds_toArray, List.set_cons_zero, List.set_cons_succ]
          first
            | (refine wpAnyH_take (i := 3) (v := ?_) rfl (by kernel_rfl) (by kernel_rfl) (by kernel_rfl) (fun _ _ _ h => h) (Or.inl ⟨by rfl, ?_⟩) (by assumption) ?_; rotate_left 1; focus (intro w hSw; (try dsimp only at hSw); go_simp; (try with_reducible rfl)))
            | (refine wpAnyH_take (i := 3) (v := undef) rfl (by kernel_rfl) (by kernel_rfl) (by kernel_rfl) (fun _ _ _ h => h) (Or.inr ⟨by rfl, rfl⟩) (by assumption) ?_)
            | fail
          try simp only [Act.put, List.getElem_toArray, List.getElem_cons_succ, List.getElem_cons_zero, List.setIfInBounds_toArray, List.set_cons_zero, List.set_cons_succ]
          first
            | (refine wpAnyH_take (i := 4) (v := ?_) rfl (by kernel_rfl) (by kernel_rfl) (by kernel_rfl) (fun _ _ _ h => h) (Or.inl ⟨by rfl, ?_⟩) (by assumption) ?_; rotate_left 1; focus (intro w hSw; (try dsimp only at hSw); go_simp; (try with_reducible rfl)))
            | fail
          try simp only [Act.put, List.getElem_toArray, List.getElem_cons_succ, List.getElem_cons_zero, List.setIfInBounds_toArray, List.set_cons_zero, List.set_cons_succ]
          first
            | (refine wpAnyH_take (i := 5) (v := ?_) rfl (by kernel_rfl) (by kernel_rfl) (by kernel_rfl) (fun _ _ _ h => h) (Or.inl ⟨by rfl, ?_⟩) (by assumption) ?_; rotate_left 1; focus (intro w hSw; (try dsimp only at hSw); go_simp; (try with_reducible rfl)))
            | fail
          try simp only [Act.put, List.getElem_toArray, List.getElem_cons_succ, List.getElem_cons_zero, List.setIfInBounds_toArray, List.set_cons_zero, List.set_cons_succ]
          first
            | (refine wpAnyH_take (i := 6) (v := ?_) rfl (by kernel_rfl) (by kernel_rfl) (by kernel_rfl) (fun _ _ _ h => h) (Or.inl ⟨by rfl, ?_⟩) (by assumption) ?_; rotate_left 1; focus (intro w hSw; (try dsimp only at hSw); go_simp; (try with_reducible rfl)))
            | (refine wpAnyH_take (i := 6) (v := undef) rfl (by kernel_rfl) (by kernel_rfl) (by kernel_rfl) (fun _ _ _ h => h) (Or.inr ⟨by rfl, rfl⟩) (by assumption) ?_)
            | fail
          try simp only [Act.put, List.getElem_toArray, List.getElem_cons_succ, List.getElem_cons_zero, List.setIfInBounds_toArray, List.set_cons_zero, List.set_cons_succ]
          first
            | (refine wpAnyH_take (i := 7) (v := ?_) rfl (by kernel_rfl) (by kernel_rfl) (by kernel_rfl) (fun _ _ _ h => h) (Or.inl ⟨by rfl, ?_⟩) (by assumption) ?_; rotate_left 1; focus (intro w hSw; (try dsimp only at hSw); go_simp; (try with_reducible rfl)))
            | (refine wpAnyH_take (i := 7) (v := undef) rfl (by kernel_rfl) (by kernel_rfl) (by kernel_rfl) (fun _ _ _ h => h) (Or.inr ⟨by rfl, rfl⟩) (by assumption) ?_)
            | fail
          try simp only [Act.put, List.getElem_toArray, List.getElem_cons_succ, List.getElem_cons_zero, List.setIfInBounds_toArray, List.set_cons_zero, List.set_cons_succ]
          first
            | (refine wpAnyH_take (i := 8) (v := ?_) rfl (by kernel_rfl) (by kernel_rfl) (by kernel_rfl) (fun _ _ _ h => h) (Or.inl ⟨by rfl, ?_⟩) (by assumption) ?_; rotate_left 1; focus (intro w hSw; (try dsimp only at hSw); go_simp; (try with_reducible rfl)))
            | (refine wpAnyH_take (i := 8) (v := undef) rfl (by kernel_rfl) (by kernel_rfl) (by kernel_rfl) (fun _ _ _ h => h) (Or.inr ⟨by rfl, rfl⟩) (by assumption) ?_)
            | fail
          try simp only [Act.put, List.getElem_toArray, List.getElem_cons_succ, List.getElem_cons_zero, List.setIfInBounds_toArray, List.set_cons_zero, List.set_cons_succ]
          first
            | (refine wpAnyH_take (i := 9) (v := ?_) rfl (by kernel_rfl) (by kernel_rfl) (by kernel_rfl) (fun _ _ _ h => h) (Or.inl ⟨by rfl, ?_⟩) (by assumption) ?_; rotate_left 1; focus (intro w hSw; (try dsimp only at hSw); go_simp; (try with_reducible rfl)))
            | (refine wpAnyH_take (i := 9) (v := undef) rfl (by kernel_rfl) (by kernel_rfl) (by kernel_rfl) (fun _ _ _ h => h) (Or.inr ⟨by rfl, rfl⟩) (by assumption) ?_)
            | fail
          try simp only [Act.put, List.getElem_toArray, List.getElem_cons_succ, List.getElem_cons_zero, List.setIfInBounds_toArray, List.set_cons_zero, List.set_cons_succ]
          first
            | (refine wpAnyH_take (i := 10) (v := undef) rfl (by kernel_rfl) (by kernel_rfl) (by kernel_rfl) (fun _ _ _ h => h) (Or.inr ⟨by rfl, rfl⟩) (by assumption) ?_; try simp only [Act.put, List.getElem_toArray, List.getElem_cons_succ, List.getElem_cons_zero, List.setIfInBounds_toArray, List.set_cons_zero, List.set_cons_succ])
            | (refine wpAnyH_ready (rs := [10]) (by kernel_rfl) (by simp) ?_; refine AllReadyH.cons rfl (fun K hK => ?_) AllReadyH.nil; go_simp; ((go_at_call 20; with_reducible refine (cW _).mono ?_; rintro e9 W9 ⟨rfl, h9⟩; subst W9)); go_wp2_with fail; refine hK.out _ _ (by first | assumption | exact Below.drew (by assumption)) (fun hHeld => ?_); clear hK K; (try simp only [Act.put, List.getElem_toArray, List.getElem_cons_succ, List.getElem_cons_zero, List.setIfInBounds_toArray, List.set_cons_zero, List.set_cons_succ]))
            | fail
          first
            | (refine wpAnyH_take (i := 11) (v := ?_) rfl (by kernel_rfl) (by kernel_rfl) (by kernel_rfl) (fun _ _ _ h => h) (Or.inl ⟨by rfl, ?_⟩) (by assumption) ?_; rotate_left 1; focus (intro w hSw; (try dsimp only at hSw); go_simp; (try with_reducible rfl)))
            | (refine wpAnyH_take (i := 11) (v := undef) rfl (by kernel_rfl) (by kernel_rfl) (by kernel_rfl) (fun _ _ _ h => h) (Or.inr ⟨by rfl, rfl⟩) (by assumption) ?_)
            | fail
          try simp only [Act.put, List.getElem_toArray, List.getElem_cons_succ, List.getElem_cons_zero, List.setIfInBounds_toArray, List.set_cons_zero, List.set_cons_succ]
          first
            | (refine wpAnyH_take (i := 12) (v := ?_) rfl (by kernel_rfl) (by kernel_rfl) (by kernel_rfl) (fun _ _ _ h => h) (Or.inl ⟨by rfl, ?_⟩) (by assumption) ?_; rotate_left 1; focus (intro w hSw; (try dsimp only at hSw); go_simp; (try with_reducible rfl)))
            | fail
          try simp only [Act.put, List.getElem_toArray, List.getElem_cons_succ, List.getElem_cons_zero, List.setIfInBounds_toArray, List.set_cons_zero, List.set_cons_succ]
          refine wpAnyH_done (by kernel_rfl) ?_ _
          have gE : Grew V wr.drew := by assumption
          have rE := HRV.out _ gE
          have hbE := (gE.block w.heap.size (Array.getElem?_eq_some_iff.1 HBV.out).1).trans HBV.out
          go_wp2_with (refine wpList_load_mid rfl 26 _ rfl W2.heap.size 0 rfl (Lib.byteCells id) _ rE Tryd.underlying26 rfl nfx ?_; refine wpListExec rfl _ _ (execBuild 28 [(0, .tmp 44), (1, .tmp 45), (2, .tmp 46)] rfl _ (kb _)) ?_; refine wpList_store_row rfl 28 _ _ rfl w.heap.size X.cells.toArray rfl rfl 28 _ hbE HNX.out HXS.out HOX.out ?_)
          refine bodyPost_ret (results_cell_tmp_mid Tryd.results25 _ _ w.heap.size 0 X.cells _ rfl (range_setRow hbE _) Tryd.underlying28 rfl HXL.out) rfl ?_
          exact ⟨below_setRow (gwV.trans' gE) (Nat.le_refl _) _, .inl ⟨X, HFM2.out, rfl⟩⟩
      · obtain rfl : m = 4 := by omega
        have hnone : fileM s.data.toList = none := by
          rw [HFM.out]
          cases hq : modeM D2.data.toList with
          | none => rfl
          | some k =>
            obtain ⟨k1, k2, k3⟩ := modeM_some hq
            have := hno.out k.toNat (by omega) (by omega)
            rw [Int.toNat_of_nonneg (by omega)] at this
            exact absurd k3.symm this
        have HN := Lib.hid hnone
        have hbE := (hgV.block w.heap.size (Array.getElem?_eq_some_iff.1 HBV.out).1).trans HBV.out
        clear hnone hno
        go_wp2_with (refine wpList_store_row rfl 28 _ _ rfl w.heap.size zeroFil.cells.toArray rfl rfl 28 _ hbE HNZ.out HZS.out HOZ.out ?_)
        refine bodyPost_ret (results_cell_tmp_mid Tryd.results25 _ _ w.heap.size 0 zeroFil.cells _ rfl (range_setRow hbE _) Tryd.underlying28 rfl HNZL.out) rfl ?_
        exact ⟨below_setRow (gwV.trans' hgV) (Nat.le_refl _) _, .inr ⟨HN.out, rfl⟩⟩
  all_goals
    go_wp2
    go_loopw [10] (fun i wr => ∃ m : Nat, i = .int .i64 (m : Int) ∧ 1 ≤ m ∧ m ≤ 4 ∧ Grew V wr) (fun i _ => 4 - (intOf i).toNat)
    case atStart => exact ⟨1, rfl, by omega, by omega, gVV⟩
    case round =>
      obtain ⟨m, rfl, hm1, hm4, hgV⟩ := hrel
      by_cases hlt : m ≤ 3
      · have hlt2 : (m : Int) ≤ 3 := by omega
        go_wp2
        refine wp_region_held_drew (S := fun w' => Grew V w') (by kernel_rfl) (by first | assumption | exact Below.drew (by assumption)) (fun hHeld => ?_)
        first
          | (refine wpAnyH_take (i := 0) (v := ?_) rfl (by kernel_rfl) (by kernel_rfl) (by kernel_rfl) (fun _ _ _ h => h) (Or.inl ⟨by rfl, ?_⟩) (by assumption) ?_; rotate_left 1; focus (intro w hSw; (try dsimp only at hSw); go_simp; (try with_reducible rfl)))
          | fail
        try simp only [Act.put, List.getElem_toArray, List.getElem_cons_succ, List.getElem_cons_zero, List.setIfInBounds_toArray, List.set_cons_zero, List.set_cons_succ]
        first
          | (refine wpAnyH_take (i := 1) (v := ?_) rfl (by kernel_rfl) (by kernel_rfl) (by kernel_rfl) (fun _ _ _ h => h) (Or.inl ⟨by rfl, ?_⟩) (by assumption) ?_; rotate_left 1; focus (intro w hSw; (try dsimp only at hSw); go_simp; (try with_reducible rfl)))
          | fail
        try simp only [Act.put, List.getElem_toArray, List.getElem_cons_succ, List.getElem_cons_zero, List.setIfInBounds_toArray, List.set_cons_zero, List.set_cons_succ]
        first
          | (refine wpAnyH_take (i := 2) (v := ?_) rfl (by kernel_rfl) (by kernel_rfl) (by kernel_rfl) (fun _ _ _ h => h) (Or.inl ⟨by rfl, ?_⟩) (by assumption) ?_; rotate_left 1; focus (intro w hSw; (try dsimp only at hSw); go_simp; (try with_reducible rfl)))
          | (refine wpAnyH_take (i := 2) (v := undef) rfl (by kernel_rfl) (by kernel_rfl) (by kernel_rfl) (fun _ _ _ h => h) (Or.inr ⟨by rfl, rfl⟩) (by assumption) ?_)
          | fail
        try simp only [Act.put, List.getElem_toArray, List.getElem_cons_succ, List.getElem_cons_zero, List.setIfInBounds_toArray, List.set_cons_zero, List.set_cons_succ]
        first
          | (refine wpAnyH_take (i := 3) (v := ?_) rfl (by kernel_rfl) (by kernel_rfl) (by kernel_rfl) (fun _ _ _ h => h) (Or.inl ⟨by rfl, ?_⟩) (by assumption) ?_; rotate_left 1; focus (intro w hSw; (try dsimp only at hSw); go_simp; (try with_reducible rfl)))
          | (refine wpAnyH_take (i := 3) (v := undef) rfl (by kernel_rfl) (by kernel_rfl) (by kernel_rfl) (fun _ _ _ h => h) (Or.inr ⟨by rfl, rfl⟩) (by assumption) ?_)
          | fail
        try simp only [Act.put, List.getElem_toArray, List.getElem_cons_succ, List.getElem_cons_zero, List.setIfInBounds_toArray, List.set_cons_zero, List.set_cons_succ]
        first
          | (refine wpAnyH_take (i := 4) (v := ?_) rfl (by kernel_rfl) (by kernel_rfl) (by kernel_rfl) (fun _ _ _ h => h) (Or.inl ⟨by rfl, ?_⟩) (by assumption) ?_; rotate_left 1; focus (intro w hSw; (try dsimp only at hSw); go_simp; (try with_reducible rfl)))
          | fail
        try simp only [Act.put, List.getElem_toArray, List.getElem_cons_succ, List.getElem_cons_zero, List.setIfInBounds_toArray, List.set_cons_zero, List.set_cons_succ]
        first
          | (refine wpAnyH_take (i := 5) (v := ?_) rfl (by kernel_rfl) (by kernel_rfl) (by kernel_rfl) (fun _ _ _ h => h) (Or.inl ⟨by rfl, ?_⟩) (by assumption) ?_; rotate_left 1; focus (intro w hSw; (try dsimp only at hSw); go_simp; (try with_reducible rfl)))
          | fail
        try simp only [Act.put, List.getElem_toArray, List.getElem_cons_succ, List.getElem_cons_zero, List.setIfInBounds_toArray, List.set_cons_zero, List.set_cons_succ]
        first
          | (refine wpAnyH_take (i := 6) (v := ?_) rfl (by kernel_rfl) (by kernel_rfl) (by kernel_rfl) (fun _ _ _ h => h) (Or.inl ⟨by rfl, ?_⟩) (by assumption) ?_; rotate_left 1; focus (intro w hSw; (try dsimp only at hSw); go_simp; (try with_reducible rfl)))
          | (refine wpAnyH_take (i := 6) (v := undef) rfl (by kernel_rfl) (by kernel_rfl) (by kernel_rfl) (fun _ _ _ h => h) (Or.inr ⟨by rfl, rfl⟩) (by assumption) ?_)
          | fail
        try simp only [Act.put, List.getElem_toArray, List.getElem_cons_succ, List.getElem_cons_zero, List.setIfInBounds_toArray, List.set_cons_zero, List.set_cons_succ]
        first
          | (refine wpAnyH_take (i := 7) (v := ?_) rfl (by kernel_rfl) (by kernel_rfl) (by kernel_rfl) (fun _ _ _ h => h) (Or.inl ⟨by rfl, ?_⟩) (by assumption) ?_; rotate_left 1; focus (intro w hSw; (try dsimp only at hSw); go_simp; (try with_reducible rfl)))
          | (refine wpAnyH_take (i := 7) (v := undef) rfl (by kernel_rfl) (by kernel_rfl) (by kernel_rfl) (fun _ _ _ h => h) (Or.inr ⟨by rfl, rfl⟩) (by assumption) ?_)
          | fail
        try simp only [Act.put, List.getElem_toArray, List.getElem_cons_succ, List.getElem_cons_zero, List.setIfInBounds_toArray, List.set_cons_zero, List.set_cons_succ]
        first
          | (refine wpAnyH_take (i := 8) (v := ?_) rfl (by kernel_rfl) (by kernel_rfl) (by kernel_rfl) (fun _ _ _ h => h) (Or.inl ⟨by rfl, ?_⟩) (by assumption) ?_; rotate_left 1; focus (intro w hSw; (try dsimp only at hSw); go_simp; (try with_reducible rfl)))
          | (refine wpAnyH_take (i := 8) (v := undef) rfl (by kernel_rfl) (by kernel_rfl) (by kernel_rfl) (fun _ _ _ h => h) (Or.inr ⟨by rfl, rfl⟩) (by assumption) ?_)
          | fail
        try simp only [Act.put, List.getElem_toArray, List.getElem_cons_succ, List.getElem_cons_zero, List.setIfInBounds_toArray, List.set_cons_zero, List.set_cons_succ]
        first
          | (refine wpAnyH_take (i := 9) (v := ?_) rfl (by kernel_rfl) (by kernel_rfl) (by kernel_rfl) (fun _ _ _ h => h) (Or.inl ⟨by rfl, ?_⟩) (by assumption) ?_; rotate_left 1; focus (intro w hSw; (try dsimp only at hSw); go_simp; (try with_reducible rfl)))
          | (refine wpAnyH_take (i := 9) (v := undef) rfl (by kernel_rfl) (by kernel_rfl) (by kernel_rfl) (fun _ _ _ h => h) (Or.inr ⟨by rfl, rfl⟩) (by assumption) ?_)
          | fail
        try simp only [Act.put, List.getElem_toArray, List.getElem_cons_succ, List.getElem_cons_zero, List.setIfInBounds_toArray, List.set_cons_zero, List.set_cons_succ]
        first
          | (refine wpAnyH_take (i := 10) (v := undef) rfl (by kernel_rfl) (by kernel_rfl) (by kernel_rfl) (fun _ _ _ h => h) (Or.inr ⟨by rfl, rfl⟩) (by assumption) ?_; try simp only [Act.put, List.getElem_toArray, List.getElem_cons_succ, List.getElem_cons_zero, List.setIfInBounds_toArray, List.set_cons_zero, List.set_cons_succ])
          | (refine wpAnyH_ready (rs := [10]) (by kernel_rfl) (by simp) ?_; refine AllReadyH.cons rfl (fun K hK => ?_) AllReadyH.nil; go_simp; fail; go_wp2_with fail; refine hK.out _ _ (by first | assumption | exact Below.drew (by assumption)) (fun hHeld => ?_); clear hK K; (try simp only [Act.put, List.getElem_toArray, List.getElem_cons_succ, List.getElem_cons_zero, List.setIfInBounds_toArray, List.set_cons_zero, List.set_cons_succ]))
          | fail
        first
          | (refine wpAnyH_take (i := 11) (v := ?_) rfl (by kernel_rfl) (by kernel_rfl) (by kernel_rfl) (fun _ _ _ h => h) (Or.inl ⟨by rfl, ?_⟩) (by assumption) ?_; rotate_left 1; focus (intro w hSw; (try dsimp only at hSw); go_simp; (try with_reducible rfl)))
          | (refine wpAnyH_take (i := 11) (v := undef) rfl (by kernel_rfl) (by kernel_rfl) (by kernel_rfl) (fun _ _ _ h => h) (Or.inr ⟨by rfl, rfl⟩) (by assumption) ?_)
          | fail
        try simp only [Act.put, List.getElem_toArray, List.getElem_cons_succ, List.getElem_cons_zero, List.setIfInBounds_toArray, List.set_cons_zero, List.set_cons_succ]
        first
          | (refine wpAnyH_take (i := 12) (v := ?_) rfl (by kernel_rfl) (by kernel_rfl) (by kernel_rfl) (fun _ _ _ h => h) (Or.inl ⟨by rfl, ?_⟩) (by assumption) ?_; rotate_left 1; focus (intro w hSw; (try dsimp only at hSw); go_simp; (try with_reducible rfl)))
          | fail
        try simp only [Act.put, List.getElem_toArray, List.getElem_cons_succ, List.getElem_cons_zero, List.setIfInBounds_toArray, List.set_cons_zero, List.set_cons_succ]
        refine wpAnyH_done (by kernel_rfl) ?_ _
        go_wp2
        go_roundw
        case rel => exact ⟨m + 1, by go_num, by omega, by omega, by assumption⟩
        case measure => simp [intOf]; omega
      · obtain rfl : m = 4 := by omega
        have HN := Lib.hid hno
        have hbE := (hgV.block w.heap.size (Array.getElem?_eq_some_iff.1 HBV.out).1).trans HBV.out
        go_wp2_with (refine wpList_store_row rfl 28 _ _ rfl w.heap.size zeroFil.cells.toArray rfl rfl 28 _ hbE HNZ.out HZS.out HOZ.out ?_)
        refine bodyPost_ret (results_cell_tmp_mid Tryd.results25 _ _ w.heap.size 0 zeroFil.cells _ rfl (range_setRow hbE _) Tryd.underlying28 rfl HNZL.out) rfl ?_
        exact ⟨below_setRow (gwV.trans' hgV) (Nat.le_refl _) _, .inr ⟨HN.out, rfl⟩⟩

end Go.Proofs.YtgjnnoamhmmcnaaDoor

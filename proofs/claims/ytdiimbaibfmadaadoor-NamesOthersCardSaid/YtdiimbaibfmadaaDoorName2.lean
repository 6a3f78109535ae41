/- refname.Right tells which texts are names of refs. Conditions: the library's tables are laid, the text is at most 2^40 bytes long. -/
import Derived.Test.YtdiimbaibfmadaaDoorName1
namespace Go.Proofs.YtdiimbaibfmadaaDoor
set_option linter.unusedVariables false
set_option linter.unusedSimpArgs false
open Go.RowKit

set_option maxRecDepth 100000 in
set_option maxHeartbeats 1000000 in
theorem refname_Right (s : ByteArray) (w : World) (hs : s.size ≤ 1099511627776) (hm : MaxOk w) (hu : U8Ok w) :
    Calls Tryd.prog 14 #[.string s] w fun e w' => e = .returned (.bool (Pure.right s.data.toList)) ∧ Grew w w' := by
  obtain ⟨m, hm⟩ := hm
  have hmm : ∀ W, Grew w W → W.cell? ⟨2, 0, none⟩ = some (.int .i64 m) := fun W g => cell_grew hm g
  by_cases hl : 200 < s.size
  · have hr : Pure.right s.data.toList = false := by
      have : s.data.toList.length = s.size := Array.length_toList
      unfold Pure.right
      rw [decide_eq_false (show ¬ s.data.toList.length ≤ 200 by omega)]
      simp only [Bool.false_and]
    rw [hr]
    clear hr
    go_enter Tryd.func14, Tryd.ntmps14
    go_wp2
    go_ret
    exact ⟨rfl, Below.refl _ _⟩
  have cV := Tryd.utf8_ValidString s w (by omega) hu
  have cC1 := fun W g => Tryd.strings_Contains s ⟨#[46, 46]⟩ m W (by omega) (hmm W g)
  have cC2 := fun W g => Tryd.strings_Contains s ⟨#[64, 123]⟩ m W (by omega) (hmm W g)
  have cS := fun W => Tryd.strings_HasSuffix s ⟨#[46]⟩ W (by omega)
  have cP := fun W g => Tryd.strings_Split s ⟨#[47]⟩ m W (by omega) (hmm W g) (by decide)
  obtain ⟨V, hV⟩ : ∃ V, Lib.validD s.data.toList = V := ⟨_, rfl⟩
  obtain ⟨C1, hC1⟩ : ∃ V, Lib.contains s.data.toList [46, 46] = V := ⟨_, rfl⟩
  obtain ⟨C2, hC2⟩ : ∃ V, Lib.contains s.data.toList [64, 123] = V := ⟨_, rfl⟩
  obtain ⟨D, hD⟩ : ∃ V, Lib.hasSuffix s.data.toList [46] = V := ⟨_, rfl⟩
  have hR : Pure.right s.data.toList = (V && !C1 && !C2 && !D && s.data.toList.all (fun c => !Pure.badB c) && (Pure.splitS s.data.toList).all Pure.partP && decide (2 ≤ (Pure.splitS s.data.toList).length)) := by
    have : s.data.toList.length = s.size := Array.length_toList
    simp only [Pure.right, hV, hC1, hC2, hD, show s.data.toList.length ≤ 200 by omega, decide_true, Bool.true_and]
  simp only [hV] at cV
  simp only [hC1] at cC1
  simp only [hC2] at cC2
  simp only [hD] at cS
  clear hV hC1 hC2 hD hm hu
  have HR := Lib.hid hR
  clear hR
  have h200 : decide (200 < (s.size : Int)) = false := by rw [decide_eq_false_iff_not]; omega
  by_cases qV : V = false
  · subst qV
    go_enter Tryd.func14, Tryd.ntmps14
    go_wp2_with (first | (go_at_call 19; refine cV.mono ?_; rintro e w1 ⟨rfl, g⟩) | (go_at_call 22; first | (refine (cC1 _ (by assumption)).mono ?_; rintro e w1 ⟨rfl, rfl⟩) | (refine (cC2 _ (by assumption)).mono ?_; rintro e w1 ⟨rfl, rfl⟩)) | (go_at_call 23; refine (cS _).mono ?_; rintro e w1 ⟨rfl, rfl⟩))
    go_ret
    exact ⟨by rw [HR.out]; simp, by assumption⟩
  obtain rfl : V = true := by simpa using qV
  clear qV
  by_cases qC1 : C1 = true
  · subst qC1
    go_enter Tryd.func14, Tryd.ntmps14
    go_wp2_with (first | (go_at_call 19; refine cV.mono ?_; rintro e w1 ⟨rfl, g⟩) | (go_at_call 22; first | (refine (cC1 _ (by assumption)).mono ?_; rintro e w1 ⟨rfl, rfl⟩) | (refine (cC2 _ (by assumption)).mono ?_; rintro e w1 ⟨rfl, rfl⟩)) | (go_at_call 23; refine (cS _).mono ?_; rintro e w1 ⟨rfl, rfl⟩))
    go_ret
    exact ⟨by rw [HR.out]; simp, by assumption⟩
  obtain rfl : C1 = false := by simpa using qC1
  clear qC1
  by_cases qC2 : C2 = true
  · subst qC2
    go_enter Tryd.func14, Tryd.ntmps14
    go_wp2_with (first | (go_at_call 19; refine cV.mono ?_; rintro e w1 ⟨rfl, g⟩) | (go_at_call 22; first | (refine (cC1 _ (by assumption)).mono ?_; rintro e w1 ⟨rfl, rfl⟩) | (refine (cC2 _ (by assumption)).mono ?_; rintro e w1 ⟨rfl, rfl⟩)) | (go_at_call 23; refine (cS _).mono ?_; rintro e w1 ⟨rfl, rfl⟩))
    go_ret
    exact ⟨by rw [HR.out]; simp, by assumption⟩
  obtain rfl : C2 = false := by simpa using qC2
  clear qC2
  by_cases qD : D = true
  · subst qD
    go_enter Tryd.func14, Tryd.ntmps14
    go_wp2_with (first | (go_at_call 19; refine cV.mono ?_; rintro e w1 ⟨rfl, g⟩) | (go_at_call 22; first | (refine (cC1 _ (by assumption)).mono ?_; rintro e w1 ⟨rfl, rfl⟩) | (refine (cC2 _ (by assumption)).mono ?_; rintro e w1 ⟨rfl, rfl⟩)) | (go_at_call 23; refine (cS _).mono ?_; rintro e w1 ⟨rfl, rfl⟩))
    go_ret
    exact ⟨by rw [HR.out]; simp, by assumption⟩
  obtain rfl : D = false := by simpa using qD
  clear qD
  have hR : Pure.right s.data.toList = (s.data.toList.all (fun c => !Pure.badB c) && (Pure.splitS s.data.toList).all Pure.partP && decide (2 ≤ (Pure.splitS s.data.toList).length)) := by rw [HR.out]; simp
  have HR2 := Lib.hid hR
  clear hR HR
  go_enter Tryd.func14, Tryd.ntmps14
  go_wp2_with (first | (go_at_call 19; refine cV.mono ?_; rintro e w1 ⟨rfl, g⟩) | (go_at_call 22; first | (refine (cC1 _ (by assumption)).mono ?_; rintro e w1 ⟨rfl, rfl⟩) | (refine (cC2 _ (by assumption)).mono ?_; rintro e w1 ⟨rfl, rfl⟩)) | (go_at_call 23; refine (cS _).mono ?_; rintro e w1 ⟨rfl, rfl⟩))
  have gw1 : Grew w w1 := by assumption
  go_loopw [] (fun wr => ∃ pos : Nat, wr.heap[w1.heap.size]? = some (.stringIter s pos) ∧ Grew w wr ∧ Hid (s.data.toList.all (fun c => !Pure.badB c) = (s.data.toList.drop pos).all (fun c => !Pure.badB c))) (fun wr => s.size - wr.iterPos w1.heap.size)
  case atStart => exact ⟨0, by simpa using World.iter_heap w1 s 0, gw1.trans' ((Below.refl _ w1).alloc (Nat.le_refl _) _), by simp [Hid]⟩
  case round =>
    obtain ⟨pos, hit, hb, hal⟩ := hrel
    by_cases hp : pos < s.size
    · have hnx : ∀ ty, (Instr.next (.pointer (some ⟨w1.heap.size, 0, none⟩)) true ty).run Tryd.prog wr = _ := fun ty => Lib.run_next_any_at wr w1.heap.size s pos ty hit hp
      by_cases ha : (s[pos]'hp).toNat < 128
      · have hd := decode_ascii s pos hp ha
        have hit2 := Lib.iterAt_heap wr w1.heap.size s pos (pos + (Utf8.decode s pos).2) hit
        have hb2 := Lib.below_iterAt hb (k := w1.heap.size) gw1.size s (pos + (Utf8.decode s pos).2)
        rw [hd] at hnx hit2 hb2
        simp only at hnx hit2 hb2
        generalize hW : wr.iterAt w1.heap.size s (pos + 1) = W at *
        have hdrop : s.data.toList.drop pos = (s[pos]'hp) :: s.data.toList.drop (pos + 1) := by
          rw [List.drop_eq_getElem_cons (by simpa using hp)]; congr 1
        have hal2 := hal.out
        rw [hdrop, List.all_cons] at hal2
        have cb := refname_bad_ascii (s[pos]'hp) ha W
        obtain ⟨B, hB⟩ : ∃ B, Pure.badB (s[pos]'hp) = B := ⟨_, rfl⟩
        rw [hB] at cb hal2
        have HAL := Lib.hid hal2
        obtain ⟨x, hx⟩ : ∃ x : Int, ((s[pos]'hp).toNat : Int) = x := ⟨_, rfl⟩
        rw [hx] at hnx cb
        clear hd hx hb hdrop hal2 hal hB ha
        cases B with
        | true =>
          go_wp2_with (go_at_call 24; refine cb.mono ?_; rintro e w2 ⟨rfl, rfl⟩)
          go_ret
          exact ⟨by rw [HR2.out, HAL.out]; simp, hb2⟩
        | false =>
          go_wp2_with (go_at_call 24; refine cb.mono ?_; rintro e w2 ⟨rfl, rfl⟩)
          go_roundw
          case rel => exact ⟨pos + 1, hit2, hb2, by have := HAL.out; unfold Hid; rw [this]; simp⟩
          case measure =>
            simp only [World.iterPos, hit2, hit]
            omega
      · have hh : 128 ≤ (s[pos]'hp).toNat := by omega
        have hit2 := Lib.iterAt_heap wr w1.heap.size s pos (pos + (Utf8.decode s pos).2) hit
        have hb2 := Lib.below_iterAt hb (k := w1.heap.size) gw1.size s (pos + (Utf8.decode s pos).2)
        have hal2 := hal.out
        rw [Pure.all_skip s pos hp hh] at hal2
        have HAL := Lib.hid hal2
        have hr0 := (decode_high s pos hp hh).1
        have hr1 := Lib.rune_le s pos
        have hwd := (decode_high s pos hp hh).2
        generalize Utf8.decode s pos = d at *
        generalize hW : wr.iterAt w1.heap.size s (pos + d.2) = W at *
        have cb := refname_bad_high (d.1 : Int) (by omega) (by omega) W
        clear hal2 hal hb hh ha
        go_wp2_with (go_at_call 24; refine cb.mono ?_; rintro e w2 ⟨rfl, g2⟩)
        have hit3 : w2.heap[w1.heap.size]? = _ := (g2.block w1.heap.size (Array.getElem?_eq_some_iff.1 hit2).1).trans hit2
        go_roundw
        case rel => exact ⟨pos + d.2, hit3, Grew.trans' hb2 g2, HAL⟩
        case measure =>
          simp only [World.iterPos, hit3, hit]
          omega
    · have hnx : ∀ ty, (Instr.next (.pointer (some ⟨w1.heap.size, 0, none⟩)) true ty).run Tryd.prog wr = _ := fun ty => Lib.run_next_end_at wr w1.heap.size s pos ty hit hp
      have hal2 := hal.out
      rw [List.drop_eq_nil_of_le (by simp; show s.size ≤ pos; omega)] at hal2
      have hR : Pure.right s.data.toList = ((Pure.splitS s.data.toList).all Pure.partP && decide (2 ≤ (Pure.splitS s.data.toList).length)) := by rw [HR2.out, hal2]; simp
      have hmp := Pure.splitB_eq s
      have cP2 := cP wr hb
      have hlen := Lib.splitB_all ⟨#[47]⟩ (by decide) 0 _ s rfl
      generalize Lib.splitB ⟨#[47]⟩ 0 (Lib.countB s ⟨#[47]⟩) s = ps at cP2 hmp hlen
      rw [← hlen] at cP2
      rw [← hmp] at hR
      have hsz : ∀ p ∈ ps, p.size ≤ 9223372036854775807 := by
        intro p hp'
        have h1 := Pure.splitS_len s.data.toList p.data.toList (by rw [← hmp]; exact List.mem_map_of_mem hp')
        have h2 : s.data.toList.length = s.size := Array.length_toList
        have h3 : p.data.toList.length = p.size := Array.length_toList
        omega
      have hpl : ps.length ≤ 1099511627777 := by
        rw [hlen]
        have := Lib.countB_le ⟨#[47]⟩ (by decide) _ s (Nat.le_refl _)
        omega
      have HR3 := Lib.hid hR
      have HL := Lib.hid hlen
      have HSZ := Lib.hid hsz
      clear hR hal2 hal hmp cP HR2 hlen hsz
      have hblk : (wr.alloc (.cells (ps.map Value.string).toArray 9)).heap[wr.heap.size]? = some (.cells (ps.map Value.string).toArray 9 (0, 0)) := heap_alloc_new wr _
      have hg3 : Grew w (wr.alloc (.cells (ps.map Value.string).toArray 9)) := Grew.trans' hb ((Below.refl _ _).alloc (Nat.le_refl _) _)
      go_wp2_with (go_at_call 25; refine cP2.mono ?_; rintro e w2 ⟨rfl, rfl⟩)
      generalize wr.heap.size = gb at hblk ⊢
      generalize hW2 : World.alloc wr _ = W2 at hblk hg3 ⊢
      go_loopw [39] (fun i wx => ∃ k : Nat, i = .int .i64 k ∧ k ≤ ps.length ∧ wx = W2 ∧ Hid ((ps.map (·.data.toList)).all Pure.partP = ((ps.map (·.data.toList)).drop k).all Pure.partP)) (fun i _ => ps.length - (intOf i).toNat)
      case atStart => exact ⟨0, rfl, Nat.zero_le _, rfl, by simp [Hid]⟩
      case round =>
        obtain ⟨k, rfl, hk, rfl, hal⟩ := hrel
        by_cases hlt : k < ps.length
        · have hcell : wr.cell? ⟨gb, k, none⟩ = some (.string (ps[k]'hlt)) := by
            rw [cell_of_row wr gb k _ _ (0, 0) hblk]
            simp [hlt]
          have hdrop : (ps.map (·.data.toList)).drop k = (ps[k]'hlt).data.toList :: (ps.map (·.data.toList)).drop (k + 1) := by
            rw [List.drop_eq_getElem_cons (by simpa using hlt)]; simp
          have hal2 := hal.out
          rw [hdrop, List.all_cons] at hal2
          have cp := refname_part (ps[k]'hlt) wr (HSZ.out _ (List.getElem_mem _))
          obtain ⟨B, hB⟩ : ∃ B, Pure.partP (ps[k]'hlt).data.toList = B := ⟨_, rfl⟩
          rw [hB] at cp hal2
          have HAL := Lib.hid hal2
          generalize (ps[k]'hlt) = pk at *
          clear hal2 hal hB hdrop
          cases B with
          | false =>
            go_wp2_with (go_at_call 26; refine cp.mono ?_; rintro e w2 ⟨rfl, rfl⟩)
            go_ret
            exact ⟨by rw [HR3.out, HAL.out]; simp, hg3⟩
          | true =>
            go_wp2_with (go_at_call 26; refine cp.mono ?_; rintro e w2 ⟨rfl, rfl⟩)
            go_roundw
            case rel => exact ⟨k + 1, by go_num, by omega, by trivial, by have := HAL.out; unfold Hid; rw [this]; simp⟩
            case measure => simp [intOf]; omega
        · have hal2 := hal.out
          rw [List.drop_eq_nil_of_le (by simp; omega)] at hal2
          have hfin : Pure.right s.data.toList = decide (2 ≤ (ps.length : Int)) := by
            rw [HR3.out, hal2]
            simp
            omega
          have HF := Lib.hid hfin
          clear hfin hal2 hal
          go_wp2
          go_ret
          exact ⟨by rw [HF.out]; rfl, hg3⟩

end Go.Proofs.YtdiimbaibfmadaaDoor

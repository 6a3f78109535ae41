/- quote.Path tells which texts may be paths. Conditions: the library's tables are laid; the text is at most 2^30 bytes long. -/
import Derived.Test.YtkdmhflcpfekfaaDoorQ1b
namespace Go.Proofs.YtkdmhflcpfekfaaDoor
set_option linter.unusedVariables false
set_option linter.unusedSimpArgs false
open Go.RowKit

set_option maxRecDepth 100000 in
set_option maxHeartbeats 1000000 in
theorem quote_Path (s : ByteArray) (w : World) (hs : s.size ≤ 1073741824) (hm : MaxOk w) (hu : U8Ok w) (hF : FoldOk w) :
    Calls Tryd.prog 67 #[.string s] w fun e w' => e = .returned (.bool (Pure.pathP s.data.toList)) ∧ Grew w w' := by
  obtain ⟨m, hm⟩ := hm
  have hmm : ∀ W, Grew w W → W.cell? ⟨0, 0, none⟩ = some (.int .i64 m) := fun W g => cell_grew hm g
  have hsl : s.data.toList.length = s.size := Array.length_toList
  by_cases hl : 400 < s.size
  · have hr : Pure.pathP s.data.toList = false := by
      unfold Pure.pathP
      rw [decide_eq_false (show ¬ s.data.toList.length ≤ 400 by omega)]
      simp only [Bool.false_and]
    rw [hr]
    clear hr
    go_enter Tryd.func67, Tryd.ntmps67
    go_wp2
    go_ret
    exact ⟨rfl, Below.refl _ _⟩
  have h400 : decide (400 < (s.size : Int)) = false := decide_eq_false (by omega)
  have cV := (fun W g => Tryd.utf8_ValidString s W (by omega) (u8_grew hu g) : ∀ W, Grew w W → _)
  have cC := fun W g => Tryd.strings_Contains s ⟨#[0]⟩ m W (by omega) (hmm W g)
  have cP := fun W g => Tryd.strings_Split s ⟨#[47]⟩ m W (by omega) (hmm W g) (by decide)
  obtain ⟨V, hV⟩ : ∃ V, Lib.validD s.data.toList = V := ⟨_, rfl⟩
  obtain ⟨C, hC⟩ : ∃ V, Lib.contains s.data.toList [0] = V := ⟨_, rfl⟩
  have hR : Pure.pathP s.data.toList = (!C && V && (Pure.splitS s.data.toList).all Pure.nameP && decide ((Pure.splitS s.data.toList).length ≤ 16)) := by
    simp only [Pure.pathP, hV, hC, show s.data.toList.length ≤ 400 by omega, decide_true, Bool.true_and]
  simp only [hV] at cV
  simp only [hC] at cC
  clear hV hC hm hu hsl
  have HR := Lib.hid hR
  clear hR
  have g0 : Grew w w := Below.refl _ _
  cases C with
  | true =>
    go_enter Tryd.func67, Tryd.ntmps67
    go_wp2_with (first | (go_at_call 37; with_reducible refine (cC _ (by assumption)).mono ?_; rintro e1 W1 ⟨rfl, h1⟩; subst W1) | (go_at_call 75; with_reducible refine (cV _ (by assumption)).mono ?_; rintro e1 W1 ⟨rfl, g1⟩; replace g1 := Grew.trans' (a := w) (by assumption) g1))
    go_ret
    exact ⟨by rw [HR.out]; simp, by assumption⟩
  | false =>
  cases V with
  | false =>
    go_enter Tryd.func67, Tryd.ntmps67
    go_wp2_with (first | (go_at_call 37; with_reducible refine (cC _ (by assumption)).mono ?_; rintro e1 W1 ⟨rfl, h1⟩; subst W1) | (go_at_call 75; with_reducible refine (cV _ (by assumption)).mono ?_; rintro e1 W1 ⟨rfl, g1⟩; replace g1 := Grew.trans' (a := w) (by assumption) g1))
    go_ret
    exact ⟨by rw [HR.out]; simp, by assumption⟩
  | true =>
  have hR : Pure.pathP s.data.toList = ((Pure.splitS s.data.toList).all Pure.nameP && decide ((Pure.splitS s.data.toList).length ≤ 16)) := by rw [HR.out]; simp
  have hmp := Pure.splitB_eq s
  have hlen := Lib.splitB_all ⟨#[47]⟩ (by decide) 0 _ s rfl
  generalize Lib.splitB ⟨#[47]⟩ 0 (Lib.countB s ⟨#[47]⟩) s = ps at cP hmp hlen
  rw [← hlen] at cP
  rw [← hmp] at hR
  have hsz : ∀ p ∈ ps, p.size ≤ 1073741824 := by
    intro p hp'
    have h1 := Pure.splitS_len s.data.toList p.data.toList (by rw [← hmp]; exact List.mem_map_of_mem hp')
    have h2 : s.data.toList.length = s.size := Array.length_toList
    have h3 : p.data.toList.length = p.size := Array.length_toList
    omega
  have hpl : ps.length ≤ 1073741825 := by
    rw [hlen]
    have := Lib.countB_le ⟨#[47]⟩ (by decide) _ s (Nat.le_refl _)
    omega
  have HR3 := Lib.hid hR
  have HSZ := Lib.hid hsz
  clear hR hmp HR hlen hsz
  go_enter Tryd.func67, Tryd.ntmps67
  go_wp2_with (first | (go_at_call 37; with_reducible refine (cC _ (by assumption)).mono ?_; rintro e1 W1 ⟨rfl, h1⟩; subst W1) | (go_at_call 75; with_reducible refine (cV _ (by assumption)).mono ?_; rintro e1 W1 ⟨rfl, g1⟩; replace g1 := Grew.trans' (a := w) (by assumption) g1))
  have gw1 : Grew w W1 := by assumption
  obtain ⟨W2, hW2⟩ : ∃ W2, W1.alloc (.cells (ps.map Value.string).toArray 9) = W2 := ⟨_, rfl⟩
  have hblk : W2.heap[W1.heap.size]? = some (.cells (ps.map Value.string).toArray 9 (0, 0)) := by rw [← hW2]; exact heap_alloc_new W1 _
  have hg3 : Grew w W2 := by rw [← hW2]; exact Grew.trans' gw1 ((Below.refl _ _).alloc (Nat.le_refl _) _)
  have cP2 := cP W1 gw1
  rw [hW2] at cP2
  clear hW2 cP cC cV
  refine cP2.mono ?_
  rintro e2 W3 ⟨rfl, h3⟩
  subst W3
  go_wp2
  generalize W1.heap.size = gb at hblk ⊢
  have hlt2 := (Array.getElem?_eq_some_iff.1 hblk).1
  go_loopw [22] (fun i wx => ∃ k : Nat, i = .int .i64 k ∧ k ≤ ps.length ∧ Grew W2 wx ∧ Hid ((ps.map (·.data.toList)).all Pure.nameP = ((ps.map (·.data.toList)).drop k).all Pure.nameP)) (fun i _ => ps.length - (intOf i).toNat)
  case atStart => exact ⟨0, rfl, Nat.zero_le _, Below.refl _ _, by simp [Hid]⟩
  case round =>
    obtain ⟨k, rfl, hk, hb, hal⟩ := hrel
    have hbw := hg3.trans' hb
    by_cases hlt : k < ps.length
    · have hcell : wr.cell? ⟨gb, k, none⟩ = some (.string (ps[k]'hlt)) := by
        rw [hb.cell (p := ⟨gb, k, none⟩) hlt2, cell_of_row W2 gb k _ _ (0, 0) hblk]
        simp [hlt]
      have hdrop : (ps.map (·.data.toList)).drop k = (ps[k]'hlt).data.toList :: (ps.map (·.data.toList)).drop (k + 1) := by
        rw [List.drop_eq_getElem_cons (by simpa using hlt)]; simp
      have hal2 := hal.out
      rw [hdrop, List.all_cons] at hal2
      have cp := quote_name (ps[k]'hlt) wr (HSZ.out _ (List.getElem_mem _)) (hF.grew hbw)
      obtain ⟨B, hB⟩ : ∃ B, Pure.nameP (ps[k]'hlt).data.toList = B := ⟨_, rfl⟩
      rw [hB] at cp hal2
      have HAL := Lib.hid hal2
      generalize (ps[k]'hlt) = pk at *
      clear hal2 hal hB hdrop
      cases B with
      | false =>
        go_wp2_with (go_at_call 77; with_reducible refine cp.mono ?_; rintro e2 W4 ⟨rfl, g4⟩)
        go_ret
        exact ⟨by rw [HR3.out, HAL.out]; simp, hbw.trans' g4⟩
      | true =>
        go_wp2_with (go_at_call 77; with_reducible refine cp.mono ?_; rintro e2 W4 ⟨rfl, g4⟩)
        go_roundw
        case rel => exact ⟨k + 1, by go_num, by omega, hb.trans' g4, by have := HAL.out; unfold Hid; rw [this]; simp⟩
        case measure => simp [intOf]; omega
    · have hal2 := hal.out
      rw [List.drop_eq_nil_of_le (by simp; omega)] at hal2
      have hfin : Pure.pathP s.data.toList = decide ((ps.length : Int) ≤ 16) := by
        rw [HR3.out, hal2]
        simp
        omega
      have HF := Lib.hid hfin
      clear hfin hal2 hal
      go_wp2
      go_ret
      exact ⟨by rw [HF.out]; rfl, hbw⟩

end Go.Proofs.YtkdmhflcpfekfaaDoor

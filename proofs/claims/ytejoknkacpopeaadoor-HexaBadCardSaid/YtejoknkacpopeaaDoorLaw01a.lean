/- The law HexaDigits of layer 1, walked: for any bytes and any text the call returns true, and nothing that was there has changed. Conditions: the library's table of powers of ten is laid. -/
import Derived.Test.YtejoknkacpopeaaDoorHexa2
import Derived.Test.YtejoknkacpopeaaDoorHexa7
import Derived.Test.YtejoknkacpopeaaDoorHelpBytes
import Derived.Test.YtejoknkacpopeaaDoorNum1
import Derived.Test.YtejoknkacpopeaaDoorIds
namespace Go.Proofs.YtejoknkacpopeaaDoor
set_option linter.unusedVariables false
set_option linter.unusedSimpArgs false
open Go.RowKit

set_option maxRecDepth 100000 in
set_option maxHeartbeats 1000000 in
theorem awake01 (w : World) (ht : TabOk w) :
    Calls Tryd.prog 8 #[] w fun e w' => e = .returned (.bool true) ∧ Grew w w' := by
  have hbi : Grew w (w.alloc (.cells #[.int .u8 10, .int .u8 255] 5)) := (Below.refl _ w).alloc (Nat.le_refl _) _
  have hr : Rd (w.alloc (.cells #[.int .u8 10, .int .u8 255] 5)) (some ⟨w.heap.size, 0, none⟩) [10, 255] := by
    refine .inr ⟨w.heap.size, 0, rfl, by simp, fun i hi => ?_⟩
    have : i = 0 ∨ i = 1 := by simp at hi; omega
    rcases this with rfl | rfl <;> simp [cell_of_row _ _ _ _ _ _ (heap_alloc_new w _)]
  have HT := Lib.hid ht
  clear ht
  go_enter Tryd.func8, Tryd.ntmps8
  go_wp2_with (go_at_call 14; refine (hexa_Hex _ [10, 255] 2 _ (by decide) hr).mono ?_)
  rintro _ w1 ⟨he, hb1⟩
  rw [show Pure.hex [10, 255] = [48, 97, 102, 102] from by decide] at he
  subst he
  have hg := Grew.trans' hbi hb1
  clear hb1 hr hbi
  go_wp2_with (go_at_call 20; refine (hexa_Number _ _ (by decide) (by decide) (HT.out.grew hg)).mono ?_)
  rintro _ w2 ⟨he, hb2⟩
  rw [show Lib.itoa (-5) = [45, 53] from by decide +kernel] at he
  subst he
  have hg2 := Grew.trans' hg hb2
  clear hb2
  go_wp2
  go_ret
  exact ⟨rfl, hg2⟩

/-- Unhex, in one of its two ways. -/
theorem unhexPost_some {s : ByteArray} {w w' : World} {e : Ending} {l : List UInt8} (h : UnhexPost s w e w') (hl : Pure.unhex s.data.toList = some l) :
    Grew w w' ∧ ∃ p cap, e = .returned (.tuple #[.slice p l.length cap, .int .i64 0]) ∧ Rd w' p l := by
  obtain ⟨hb, ⟨l', v, h1, rfl, hown⟩ | ⟨h1, rfl⟩⟩ := h
  · rw [hl] at h1; cases h1
    obtain ⟨-, p, cap, rfl, -, -, hr⟩ := rd_of_owns hown
    exact ⟨hb, p, cap, rfl, hr⟩
  · rw [hl] at h1; cases h1
theorem unhexPost_none {s : ByteArray} {w w' : World} {e : Ending} (h : UnhexPost s w e w') (hl : Pure.unhex s.data.toList = none) :
    Grew w w' ∧ ∃ p cap, e = .returned (.tuple #[.slice p ([] : List UInt8).length cap, .int .i64 4]) ∧ Rd w' p [] := by
  obtain ⟨hb, ⟨l', v, h1, rfl, hown⟩ | ⟨h1, rfl⟩⟩ := h
  · rw [hl] at h1; cases h1
  · exact ⟨hb, none, 0, rfl, .inl rfl⟩
/-- What Unhex tells, as bytes and an error's number. -/
def unB (s : ByteArray) : List UInt8 := (Pure.unhex s.data.toList).getD []
def unE (s : ByteArray) : Int := if (Pure.unhex s.data.toList).isSome then 0 else 4
theorem unhexPost_any {s : ByteArray} {w w' : World} {e : Ending} (h : UnhexPost s w e w') :
    Grew w w' ∧ ∃ p cap, e = .returned (.tuple #[.slice p (unB s).length cap, .int .i64 (unE s)]) ∧ Rd w' p (unB s) := by
  cases hl : Pure.unhex s.data.toList with
  | none => have := unhexPost_none h hl; simpa [unB, unE, hl] using this
  | some l => have := unhexPost_some h hl; simpa [unB, unE, hl] using this
/-- What Id tells. -/
def idB (s : ByteArray) : List UInt8 := match Pure.unhex s.data.toList with | some l => if l.length = 20 then l else zeros20 | none => zeros20
def idE (s : ByteArray) : Int := match Pure.unhex s.data.toList with | some l => if l.length = 20 then 0 else 4 | none => 4
theorem idB_length (s : ByteArray) : (idB s).length = 20 := by
  unfold idB
  split
  · split
    · assumption
    · rfl
  · rfl
theorem idPost_any {s : ByteArray} {w w' : World} {e : Ending} (h : IdPost s w e w') :
    Grew w w' ∧ e = .returned (.tuple #[.agg (Lib.byteCells (idB s)).toArray, .int .i64 (idE s)]) := by
  obtain ⟨hb, ⟨l, h1, h2, rfl⟩ | ⟨h1, rfl⟩⟩ := h
  · exact ⟨hb, by simp [idB, idE, h1, h2, idV]⟩
  · refine ⟨hb, ?_⟩
    cases hl : Pure.unhex s.data.toList with
    | none => simp [idB, idE, hl, idV]
    | some l => simp [idB, idE, hl, h1 l hl, idV]

set_option maxRecDepth 100000 in
set_option maxHeartbeats 2000000 in
theorem law_HexaDigits (p : Option Addr) (l : List UInt8) (cap : Nat) (s : ByteArray) (w : World) (hR : Rd w p l) (hl0 : l.length ≤ 9223372036854775807) (hs0 : s.size ≤ 9223372036854775807) (ht : TabOk w) :
    Calls Tryd.prog 3 #[.slice p l.length cap, .string s] w fun e w' => e = .returned (.bool true) ∧ Grew w w' := by
  have HT := Lib.hid ht
  have HR := Lib.hid hR
  clear ht hR
  by_cases hbig : l.length > 1000 ∨ s.size > 1000
  · by_cases h1 : 1000 < l.length
    · clear hbig
      go_enter Tryd.func3, Tryd.ntmps3
      go_wp2_with (go_at_call 8; refine (awake01 _ HT.out).mono ?_; rintro e w1 ⟨rfl, hb⟩)
      go_ret
      exact ⟨rfl, hb⟩
    · have h2 : 1000 < s.size := by omega
      have h1' : l.length ≤ 1000 := by omega
      clear hbig h1
      go_enter Tryd.func3, Tryd.ntmps3
      go_wp2_with (go_at_call 8; refine (awake01 _ HT.out).mono ?_; rintro e w1 ⟨rfl, hb⟩)
      go_ret
      exact ⟨rfl, hb⟩
  · have h1 : l.length ≤ 1000 := by omega
    have h2 : s.size ≤ 1000 := by omega
    clear hbig hl0 hs0
    go_enter Tryd.func3, Tryd.ntmps3
    go_wp2_with (go_at_call 9; refine (own_bytes _ l _ _ _ (by omega) HR.out).mono ?_)
    rintro e w1 ⟨rfl, hown, g1⟩
    have HO := Lib.hid hown
    clear hown
    go_wp2_with (go_at_call 10; refine (hexa_Unhex s _ (by omega)).mono ?_)
    rintro e w2 hq
    obtain ⟨g2, px, cx, rfl, hrx⟩ := unhexPost_any hq
    clear hq
    go_wp2_with (go_at_call 11; refine (ref_Unhex s _ (by omega)).mono ?_)
    rintro e w3 hq
    obtain ⟨g3, py, cy, rfl, hry⟩ := unhexPost_any hq
    clear hq
    go_wp2_with (go_at_call 12; refine (hexa_Id s _ (by omega)).mono ?_)
    rintro e w4 hq
    obtain ⟨g4, rfl⟩ := idPost_any hq
    clear hq
    go_wp2_with (first | refine wpList_store_row rfl 29 (.tmp 10) (.tmp 38) rfl w4.heap.size (Lib.byteCells (idB s)).toArray rfl rfl 29 _ (heap_alloc_new w4 _) (infoId'' (idB_length s)) (by simp [Lib.byteCells_length, idB_length]) (one_bytes _) ?_ | (go_at_call 13; refine (ref_Id s _ (by omega)).mono ?_))
    rintro e w5 hq
    obtain ⟨g5, rfl⟩ := idPost_any hq
    clear hq
    have hn5 := (g5.block w4.heap.size (by simp)).trans (setRow_heap _ _ _ _ _ _ (heap_alloc_new w4 _))
    have g45 : Grew w4 w5 := (below_setRow ((Below.refl _ _).alloc (Nat.le_refl _) _) (Nat.le_refl _) _).trans (g5.mono (by simp))
    have hlt5 := (Array.getElem?_eq_some_iff.1 hn5).1
    clear g5
    go_wp2_with (first | refine wpList_store_row rfl 29 (.tmp 12) (.tmp 43) rfl w5.heap.size (Lib.byteCells (idB s)).toArray rfl rfl 29 _ (heap_alloc_new w5 _) (infoId'' (idB_length s)) (by simp [Lib.byteCells_length, idB_length]) (one_bytes _) ?_)
    generalize hw6 : World.setRow (World.alloc w5 _) w5.heap.size _ = w6
    have hn6 : w6.heap[w5.heap.size]? = some (.cells (Lib.byteCells (idB s)).toArray 29 (0, 0)) := by rw [← hw6]; exact setRow_heap _ _ _ _ _ _ (heap_alloc_new w5 _)
    have g6 : Grew w5 w6 := by rw [← hw6]; exact below_setRow ((Below.refl _ _).alloc (Nat.le_refl _) _) (Nat.le_refl _) _
    have hlt6 := (Array.getElem?_eq_some_iff.1 hn6).1
    clear hw6
    have gA := (g1.trans' g2).trans' (g3.trans' (g4.trans' (g45.trans' g6)))
    go_wp2_with (go_at_call 8; refine (awake01 _ (HT.out.grew gA)).mono ?_; rintro e w7 ⟨rfl, g7⟩)
    have r8 := range_row HO.out
    have hR1 : Rd w1 (some ⟨w.heap.size, 0, none⟩) l := .inr ⟨w.heap.size, 0, rfl, (Array.getElem?_eq_some_iff.1 HO.out).1, fun i hi => by
      rw [cell_of_row w1 _ _ _ _ (0, 0) HO.out]
      simp only [List.getElem?_toArray, Nat.zero_add]
      rw [List.getElem?_append_left (by rw [Lib.byteCells_length]; exact hi), byteCells_getElem?, List.getD_eq_getElem?_getD, List.getElem?_eq_getElem hi]; rfl⟩
    clear r8
    have g17 : Grew w1 w7 := (g2.trans' (g3.trans' (g4.trans' (g45.trans' (g6.trans' g7)))))
    go_wp2_with (go_at_call 14; refine (hexa_Hex _ l _ _ (by omega) (hR1.below g17 (Nat.le_refl _))).mono ?_; rintro e w8 ⟨rfl, g8⟩)
    go_wp2_with (go_at_call 15; refine (ref_Hex _ l _ _ (by omega) (HR.out.below ((g1.trans' g17).trans' g8) (Nat.le_refl _))).mono ?_; rintro e w9 ⟨rfl, g9⟩)
    have g29 : Grew w2 w9 := g3.trans' (g4.trans' (g45.trans' (g6.trans' (g7.trans' (g8.trans' g9)))))
    have g39 : Grew w3 w9 := g4.trans' (g45.trans' (g6.trans' (g7.trans' (g8.trans' g9))))
    have hrx' := hrx.below g29 (Nat.le_refl _)
    have hry' := hry.below g39 (Nat.le_refl _)
    have g69 : Grew w6 w9 := g7.trans' (g8.trans' g9)
    have ra := range_below (g6.trans' g69) (range_row hn5) hlt5
    have rb := range_below g69 (range_row hn6) hlt6
    have hO9 := Lib.hid ((g2.trans' g29).block w.heap.size (Array.getElem?_eq_some_iff.1 HO.out).1 |>.trans HO.out)
    have hR9 := Lib.hid (HR.out.below ((g1.trans' g2).trans' g29) (Nat.le_refl _))
    have gAll := g1.trans' (g2.trans' g29)
    have hq1 := run_eqId (idB s) (idB s) (idB_length s) (idB_length s) w9
    rw [beq_self_eq_true] at hq1
    have hq2 := guard_id .eql (.tmp 64) (.tmp 65) (idB s) (idB s) w9
    have hee : (unE s == unE s) = true := by simp
    have hii : (idE s == idE s) = true := by simp
    clear g1 g2 g3 g4 g45 g6 g7 g8 g9 g17 g29 g39 g69 gA hn5 hn6 hlt5 hlt6 hrx hry hR1
    go_wp2_with (first | (go_at_call 16; refine (help_Bytes _ _ (unB s) (unB s) _ _ _ hrx' hry').mono ?_; rintro e w10 ⟨rfl, rfl⟩) | refine wpList_load_g rfl 29 (.tmp 10) rfl w4.heap.size 0 rfl (Lib.byteCells (idB s)) _ ra Tryd.underlying29 rfl (infoId' (idB_length s)) ?_ | refine wpList_load_g rfl 29 (.tmp 12) rfl w5.heap.size 0 rfl (Lib.byteCells (idB s)) _ rb Tryd.underlying29 rfl (infoId' (idB_length s)) ?_ | (go_at_call 17; refine (kept_bytes _ _ l _ _ _ (by omega) hO9.out hR9.out).mono ?_; rintro e w11 ⟨rfl, g11⟩))
    go_ret
    exact ⟨rfl, gAll.trans' g11⟩

end Go.Proofs.YtejoknkacpopeaaDoor

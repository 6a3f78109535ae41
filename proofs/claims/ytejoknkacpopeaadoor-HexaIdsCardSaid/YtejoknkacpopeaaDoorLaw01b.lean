/- The law HexaIds of layer 1, walked: for any id and any number the call returns true, and nothing that was there has changed. Conditions: the library's table of powers of ten is laid. -/
import Derived.Test.YtejoknkacpopeaaDoorLaw01a
import Derived.Test.YtejoknkacpopeaaDoorPure01b
namespace Go.Proofs.YtejoknkacpopeaaDoor
set_option linter.unusedVariables false
set_option linter.unusedSimpArgs false
open Go.RowKit

theorem idB_hex {l : List UInt8} (h : l.length = 20) : idB ⟨(Pure.hex l).toArray⟩ = l := by simp [idB, Pure.unhex_hex, h]
theorem idE_hex {l : List UInt8} (h : l.length = 20) : idE ⟨(Pure.hex l).toArray⟩ = 0 := by simp [idE, Pure.unhex_hex, h]
theorem idE_len {s : ByteArray} (h : s.size ≠ 40) : idE s = 4 := by
  unfold idE
  cases e : Pure.unhex s.data.toList with
  | none => rfl
  | some r =>
    have := Pure.unhex_length e
    have e2 : s.data.toList.length = s.size := Array.length_toList
    have hr : r.length ≠ 20 := by omega
    simp [hr]

theorem boxed_id {w : World} {l : List UInt8} (h : l.length = 20) (t : TypeId) : (w.alloc (.cells (Lib.byteCells l).toArray t)).heap[w.heap.size]? = some (.cells (Lib.byteCells l).toArray t (0, 0)) := heap_alloc_new w _

set_option maxRecDepth 100000 in
set_option maxHeartbeats 2000000 in
theorem law_HexaIds (l : List UInt8) (cut : Int) (w : World) (hl : l.length = 20) (hc0 : -9223372036854775808 ≤ cut) (hc1 : cut ≤ 9223372036854775807) (ht : TabOk w) :
    Calls Tryd.prog 4 #[.agg (Lib.byteCells l).toArray, .int .i64 cut] w fun e w' => e = .returned (.bool true) ∧ Grew w w' := by
  have HL := Lib.hid hl
  have HT := Lib.hid ht
  clear ht hl
  go_enter Tryd.func4, Tryd.ntmps4
  have hbox := boxed_id (w := w) HL.out 29
  have g0 : Grew w (w.alloc (.cells (Lib.byteCells l).toArray 29)) := (Below.refl _ w).alloc (Nat.le_refl _) _
  have hR : Rd (w.alloc (.cells (Lib.byteCells l).toArray 29)) (some ⟨w.heap.size, 0, none⟩) l := .inr ⟨w.heap.size, 0, rfl, by simp, fun i hi => by
    rw [cell_of_row _ _ _ _ _ (0, 0) hbox]
    simp [byteCells_getElem?, List.getElem?_eq_getElem hi, List.getD_eq_getElem?_getD]⟩
  have hx := hexa_Hex _ l 20 _ (by rw [HL.out]; decide) hR
  rw [HL.out] at hx
  obtain ⟨S, hS⟩ : ∃ S : ByteArray, (⟨(Pure.hex l).toArray⟩ : ByteArray) = S := ⟨_, rfl⟩
  rw [hS] at hx
  have hsz : S.size = 40 := by rw [← hS]; show (Pure.hex l).toArray.size = 40; simp [Pure.hex_length, HL.out]
  have hsb : idB S = l := by rw [← hS]; exact idB_hex HL.out
  have hse : idE S = 0 := by rw [← hS]; exact idE_hex HL.out
  obtain ⟨K, hK, hK40⟩ := pick_wrap cut 40 40 rfl (by decide) (by decide)
  have HS := Lib.hid hS
  have HB := Lib.hid hsb
  have HE := Lib.hid hse
  clear hS hsb hse hR
  go_wp2_with (go_at_call 14; refine hx.mono ?_; rintro e w1 ⟨rfl, g1⟩)
  have g01 := g0.trans' g1
  have hb1 := (g1.block w.heap.size (by simp)).trans hbox
  clear g0 g1 hbox hx
  go_wp2_with (go_at_call 8; refine (awake01 _ (HT.out.grew g01)).mono ?_; rintro e w2 ⟨rfl, g2⟩)
  have g02 := g01.trans' g2
  have hb2 := (g2.block w.heap.size (Array.getElem?_eq_some_iff.1 hb1).1).trans hb1
  clear g2 g01 hb1
  go_wp2_with (go_at_call 12; refine (hexa_Id S _ (by omega)).mono ?_)
  rintro e w3 hq
  obtain ⟨g3, rfl⟩ := idPost_any hq
  clear hq
  rw [HB.out, HE.out]
  have g03 := g02.trans' g3
  have hb3 := (g3.block w.heap.size (Array.getElem?_eq_some_iff.1 hb2).1).trans hb2
  clear g3 g02 hb2
  go_wp2_with (first | refine wpList_store_row rfl 29 (.tmp 6) (.tmp 25) rfl w3.heap.size (Lib.byteCells l).toArray rfl rfl 29 _ (heap_alloc_new w3 _) (infoId'' HL.out) (by simp [Lib.byteCells_length, HL.out]) (one_bytes _) ?_)
  generalize hw4 : World.setRow (World.alloc w3 _) w3.heap.size _ = w4
  have hn4 : w4.heap[w3.heap.size]? = some (.cells (Lib.byteCells l).toArray 29 (0, 0)) := by rw [← hw4]; exact setRow_heap _ _ _ _ _ _ (heap_alloc_new w3 _)
  have g4 : Grew w3 w4 := by rw [← hw4]; exact below_setRow ((Below.refl _ _).alloc (Nat.le_refl _) _) (Nat.le_refl _) _
  clear hw4
  have hb4 := (g4.block w.heap.size (Array.getElem?_eq_some_iff.1 hb3).1).trans hb3
  have g04 := g03.trans' g4
  clear g4 g03 hb3
  have hxs : (S.extract 0 K).size = K := by rw [ByteArray.size_extract]; omega
  have hxe : idE (S.extract 0 K) = 4 := idE_len (by omega)
  have HXE := Lib.hid hxe
  clear hxe
  refine (hexa_Id (S.extract 0 K) _ (by omega)).mono ?_
  rintro e w5 hq
  obtain ⟨g5, rfl⟩ := idPost_any hq
  clear hq
  have hb5 := (g5.block w.heap.size (Array.getElem?_eq_some_iff.1 hb4).1).trans hb4
  have hn5 := (g5.block w3.heap.size (Array.getElem?_eq_some_iff.1 hn4).1).trans hn4
  have g05 := g04.trans' g5
  clear g5 g04 hb4 hn4
  rw [HXE.out]
  go_wp2_with (first | refine wpList_store_row rfl 29 (.tmp 9) (.tmp 36) rfl w5.heap.size (Lib.byteCells (idB (S.extract 0 K))).toArray rfl rfl 29 _ (heap_alloc_new w5 _) (infoId'' (idB_length _)) (by simp [Lib.byteCells_length, idB_length]) (one_bytes _) ?_)
  generalize hw6 : World.setRow (World.alloc w5 _) w5.heap.size _ = w6
  have g6 : Grew w5 w6 := by rw [← hw6]; exact below_setRow ((Below.refl _ _).alloc (Nat.le_refl _) _) (Nat.le_refl _) _
  clear hw6
  have hb6 := (g6.block w.heap.size (Array.getElem?_eq_some_iff.1 hb5).1).trans hb5
  have hn6 := (g6.block w3.heap.size (Array.getElem?_eq_some_iff.1 hn5).1).trans hn5
  have g06 := g05.trans' g6
  clear g6 g05 hb5 hn5
  have hys : (S ++ (⟨#[48, 48]⟩ : ByteArray)).size = 42 := by rw [ByteArray.size_append, hsz]; rfl
  have hye : idE (S ++ (⟨#[48, 48]⟩ : ByteArray)) = 4 := idE_len (by omega)
  refine (hexa_Id (S ++ (⟨#[48, 48]⟩ : ByteArray)) _ (by omega)).mono ?_
  rintro e w7 hq
  obtain ⟨g7, rfl⟩ := idPost_any hq
  clear hq
  have hb7 := (g7.block w.heap.size (Array.getElem?_eq_some_iff.1 hb6).1).trans hb6
  have hn7 := (g7.block w3.heap.size (Array.getElem?_eq_some_iff.1 hn6).1).trans hn6
  have g07 := g06.trans' g7
  rw [hye]
  clear g7 g06 hb6 hn6 hye hys
  have ra : ∀ W', Grew w7 W' → W'.rangeAt w3.heap.size 0 (Lib.byteCells l) := fun W' g => range_row ((g.block w3.heap.size (Array.getElem?_eq_some_iff.1 hn7).1).trans hn7)
  have rb : ∀ W', Grew w7 W' → W'.rangeAt w.heap.size 0 (Lib.byteCells l) := fun W' g => range_row ((g.block w.heap.size (Array.getElem?_eq_some_iff.1 hb7).1).trans hb7)
  have RA := Lib.hid ra
  have RB := Lib.hid rb
  have hq1 := run_eqId l l HL.out HL.out
  rw [beq_self_eq_true] at hq1
  have hq2 := guard_id .eql (.tmp 47) (.tmp 48) l l
  clear hn7 hb7 ra rb
  go_wp2_with (first | refine wpList_store_row rfl 29 (.tmp 11) (.tmp 42) rfl w7.heap.size (Lib.byteCells (idB (S ++ (⟨#[48, 48]⟩ : ByteArray)))).toArray rfl rfl 29 _ (heap_alloc_new w7 _) (infoId'' (idB_length _)) (by simp [Lib.byteCells_length, idB_length]) (one_bytes _) ?_ | refine wpList_load_g rfl 29 (.tmp 6) rfl w3.heap.size 0 rfl (Lib.byteCells l) _ (RA.out _ (below_setRow ((Below.refl _ _).alloc (Nat.le_refl _) _) (Nat.le_refl _) _)) Tryd.underlying29 rfl (infoId' HL.out) ?_ | refine wpList_load_g rfl 29 (.tmp 2) rfl w.heap.size 0 rfl (Lib.byteCells l) _ (RB.out _ (below_setRow ((Below.refl _ _).alloc (Nat.le_refl _) _) (Nat.le_refl _) _)) Tryd.underlying29 rfl (infoId' HL.out) ?_)
  go_ret
  exact ⟨rfl, g07.trans' (below_setRow ((Below.refl _ _).alloc (Nat.le_refl _) _) (Nat.le_refl _) _)⟩

end Go.Proofs.YtejoknkacpopeaaDoor

/- commit's lines: who, behind a pointer. Conditions: the text has at most 2^30 bytes; the library's tables are laid at a world w0, below the lines. -/
import Derived.Test.YtemojhcbhljemaaGreatDoorCom5
namespace Go.Proofs.YtemojhcbhljemaaGreatDoor
set_option linter.unusedVariables false
set_option linter.unusedSimpArgs false
open Go.RowKit

theorem grew_of_grownBy {w0 w W : World} {g : Nat} (h : Grew w0 w) (k : w.grownBy W (some g)) (hg : w0.heap.size ≤ g) : Grew w0 W :=
  ⟨k.os.trans h.os, k.tape.trans h.tape, k.output.trans h.output, Nat.le_trans h.size k.size, fun i hi => (k.block i (Nat.lt_of_lt_of_le hi h.size) (fun e => by cases e; omega)).trans (h.block i hi)⟩
/-- What who leaves. -/
def WhoPost (g : Nat) (word rest : ByteArray) (bad : Bool) (w : World) (e : Ending) (w' : World) : Prop := w.grownBy w' (some g) ∧ ∃ i : Idn, (rightN i = true ∨ i = zeroN) ∧ e = .returned (.agg i.cells.toArray) ∧
  ((nextL word.data.toList rest.data.toList = none ∧ LinesAt g w' rest true) ∨
   ∃ v r : ByteArray, nextL word.data.toList rest.data.toList = some (v.data.toList, r.data.toList) ∧ v.size + r.size < rest.size ∧
    ((rightN i = true ∧ printN i = v.data.toList ∧ LinesAt g w' r bad) ∨
     ((∀ j : Idn, rightN j = true → printN j ≠ v.data.toList) ∧ LinesAt g w' r true)))

set_option maxRecDepth 100000 in
set_option maxHeartbeats 8000000 in
theorem lines_who (g : Nat) (word rest : ByteArray) (bad : Bool) (w0 w : World) (h0 : Grew w0 w) (hg0 : w0.heap.size ≤ g) (hl : LinesAt g w rest bad) (hs : rest.size ≤ 1073741824) (hm : MaxOk w0) (hu : U8Ok w0) (ht : TabOk w0) (he : ErrOk w0) :
    Calls Tryz.prog 25 #[.pointer (some ⟨g, 0, none⟩), .string word] w (WhoPost g word rest bad w) := by
  have hg : g < w.heap.size := (Array.getElem?_eq_some_iff.1 hl).1
  obtain ⟨W0, hW0⟩ : ∃ W0, w.alloc (.cells zeroN.cells.toArray 26) = W0 := ⟨_, rfl⟩
  have gw0 : Grew w W0 := by rw [← hW0]; exact (Below.refl w.heap.size w).alloc (Nat.le_refl _) _
  have hr0 : W0.heap[w.heap.size]? = some (.cells zeroN.cells.toArray 26 (0, 0)) := by rw [← hW0]; exact heap_alloc_new w _
  have hl0 : LinesAt g W0 rest bad := (gw0.block g hg).trans hl
  have cN := lines_next g word rest bad W0 hl0 (by omega) (hm.grew (h0.trans' gw0))
  rw [← hW0] at cN
  go_enter Tryz.func25, Tryz.ntmps25
  go_wp2_with (go_at_call 46; refine cN.mono ?_)
  rw [hW0]
  rintro e1 W1 (⟨hn, rfl, g1, hl1⟩ | ⟨v, r, hn, hz, rfl, g1, hl1⟩)
  · have hr1 : W1.heap[w.heap.size]? = some (.cells zeroN.cells.toArray 26 (0, 0)) := (g1.block _ (by rw [← hW0]; simp) (fun e => by cases e; omega)).trans hr0
    have hc := lines_cells hl1
    have G1 := grew_of_grownBy (h0.trans' gw0) g1 hg0
    have cI := ident_Parse ⟨#[]⟩ W1 (by decide) (hm.grew G1) (u8_grew hu G1) (ht.grew G1) (he.grew G1)
    go_wp2_with (go_at_call 48; with_reducible refine cI.mono ?_)
    rintro e2 W2 ⟨g2, ⟨i, hi, hp, rfl⟩ | ⟨hu2, rfl⟩⟩
    · have hl2 : LinesAt g W2 rest bad := (g2.block g (Array.getElem?_eq_some_iff.1 hl1).1).trans hl1
      have hr2 : W2.heap[w.heap.size]? = some (.cells zeroN.cells.toArray 26 (0, 0)) := (g2.block _ (Array.getElem?_eq_some_iff.1 hr1).1).trans hr1
      have hgw2 : g < W2.heap.size := (Array.getElem?_eq_some_iff.1 hl2).1
      have hRw2 : w.heap.size < W2.heap.size := (Array.getElem?_eq_some_iff.1 hr2).1
      go_wp2_with (refine wpList_store_new rfl 26 _ _ rfl W2 _ rfl i.cells rfl rfl rfl (infoIdn i) i.one ?_)
      intro U gU gUU rU fU sU
      have hlU : LinesAt g U rest bad := (gU.block g hgw2).trans hl2
      have hrU := (gU.block _ hRw2).trans hr2
      have hgU : w.grownBy U (some g) := (((grownBy_of gw0 _).trans g1).trans (grownBy_of g2 _)).trans (grownBy_of gU _)
      have hV : ∀ b, (U.setCell ⟨g, 1, none⟩ (.bool b)).rangeAt W2.heap.size 0 i.cells := fun b => range_grown (rU U gUU) (lines_set1 hlU b).2 (fun e => by cases e; omega)
      have hR : ∀ b, (U.setCell ⟨g, 1, none⟩ (.bool b)).heap[w.heap.size]? = some (.cells zeroN.cells.toArray 26 (0, 0)) := fun b => ((lines_set1 hlU b).2.block _ (Nat.lt_of_lt_of_le hRw2 gU.size) (fun e => by cases e; omega)).trans hrU
      have hF := lines_frozen hlU 1
      have hC1 := (lines_cells hlU).2
      cases bad with
      | false =>
        go_wp2_with (first | (refine wpList_load_g (by rfl) 26 _ rfl _ _ rfl i.cells _ (hV _) Tryz.underlying26 rfl (infoIdn i) ?_) | refine wpList_store_row rfl 26 (.tmp 4) (.tmp 35) rfl w.heap.size i.cells.toArray rfl rfl 26 _ (hR _) (infoIdn' i) rfl (all_oneCell_toArray i.one) ?_)
        refine bodyPost_ret (results_cell_mid Tryz.results25 _ _ w.heap.size 0 i.cells _ rfl (range_setRow (hR _) _) Tryz.underlying26 rfl (infoIdn i)) rfl ?_
        obtain ⟨k1, k2⟩ := lines_end (hgU.trans (lines_set1 hlU _).2) (lines_set1 hlU _).1 (Nat.le_refl _) hg _
        exact ⟨k1, i, .inl hi, rfl, .inl ⟨hn, k2⟩⟩
      | true =>
        go_wp2_with (first | (refine wpList_load_g (by rfl) 26 _ rfl _ _ rfl i.cells _ (hV _) Tryz.underlying26 rfl (infoIdn i) ?_) | refine wpList_store_row rfl 26 (.tmp 4) (.tmp 35) rfl w.heap.size i.cells.toArray rfl rfl 26 _ (hR _) (infoIdn' i) rfl (all_oneCell_toArray i.one) ?_)
        refine bodyPost_ret (results_cell_mid Tryz.results25 _ _ w.heap.size 0 i.cells _ rfl (range_setRow (hR _) _) Tryz.underlying26 rfl (infoIdn i)) rfl ?_
        obtain ⟨k1, k2⟩ := lines_end (hgU.trans (lines_set1 hlU _).2) (lines_set1 hlU _).1 (Nat.le_refl _) hg _
        exact ⟨k1, i, .inl hi, rfl, .inl ⟨hn, k2⟩⟩
    · have hl2 : LinesAt g W2 rest bad := (g2.block g (Array.getElem?_eq_some_iff.1 hl1).1).trans hl1
      have hr2 : W2.heap[w.heap.size]? = some (.cells zeroN.cells.toArray 26 (0, 0)) := (g2.block _ (Array.getElem?_eq_some_iff.1 hr1).1).trans hr1
      have hgw2 : g < W2.heap.size := (Array.getElem?_eq_some_iff.1 hl2).1
      have hRw2 : w.heap.size < W2.heap.size := (Array.getElem?_eq_some_iff.1 hr2).1
      go_wp2_with (refine wpList_store_new rfl 26 _ _ rfl W2 _ rfl zeroN.cells rfl rfl rfl (infoIdn zeroN) zeroN.one ?_)
      intro U gU gUU rU fU sU
      have hlU : LinesAt g U rest bad := (gU.block g hgw2).trans hl2
      have hrU := (gU.block _ hRw2).trans hr2
      have hgU : w.grownBy U (some g) := (((grownBy_of gw0 _).trans g1).trans (grownBy_of g2 _)).trans (grownBy_of gU _)
      have hV : ∀ b, (U.setCell ⟨g, 1, none⟩ (.bool b)).rangeAt W2.heap.size 0 zeroN.cells := fun b => range_grown (rU U gUU) (lines_set1 hlU b).2 (fun e => by cases e; omega)
      have hR : ∀ b, (U.setCell ⟨g, 1, none⟩ (.bool b)).heap[w.heap.size]? = some (.cells zeroN.cells.toArray 26 (0, 0)) := fun b => ((lines_set1 hlU b).2.block _ (Nat.lt_of_lt_of_le hRw2 gU.size) (fun e => by cases e; omega)).trans hrU
      have hF := lines_frozen hlU 1
      have hC1 := (lines_cells hlU).2
      cases bad with
      | false =>
        go_wp2_with (first | (refine wpList_load_g (by rfl) 26 _ rfl _ _ rfl zeroN.cells _ (hV _) Tryz.underlying26 rfl (infoIdn zeroN) ?_) | refine wpList_store_row rfl 26 (.tmp 4) (.tmp 35) rfl w.heap.size zeroN.cells.toArray rfl rfl 26 _ (hR _) (infoIdn' zeroN) rfl (all_oneCell_toArray zeroN.one) ?_)
        refine bodyPost_ret (results_cell_mid Tryz.results25 _ _ w.heap.size 0 zeroN.cells _ rfl (range_setRow (hR _) _) Tryz.underlying26 rfl (infoIdn zeroN)) rfl ?_
        obtain ⟨k1, k2⟩ := lines_end (hgU.trans (lines_set1 hlU _).2) (lines_set1 hlU _).1 (Nat.le_refl _) hg _
        exact ⟨k1, zeroN, .inr rfl, rfl, .inl ⟨hn, k2⟩⟩
      | true =>
        go_wp2_with (first | (refine wpList_load_g (by rfl) 26 _ rfl _ _ rfl zeroN.cells _ (hV _) Tryz.underlying26 rfl (infoIdn zeroN) ?_) | refine wpList_store_row rfl 26 (.tmp 4) (.tmp 35) rfl w.heap.size zeroN.cells.toArray rfl rfl 26 _ (hR _) (infoIdn' zeroN) rfl (all_oneCell_toArray zeroN.one) ?_)
        refine bodyPost_ret (results_cell_mid Tryz.results25 _ _ w.heap.size 0 zeroN.cells _ rfl (range_setRow (hR _) _) Tryz.underlying26 rfl (infoIdn zeroN)) rfl ?_
        obtain ⟨k1, k2⟩ := lines_end (hgU.trans (lines_set1 hlU _).2) (lines_set1 hlU _).1 (Nat.le_refl _) hg _
        exact ⟨k1, zeroN, .inr rfl, rfl, .inl ⟨hn, k2⟩⟩
  · have hr1 : W1.heap[w.heap.size]? = some (.cells zeroN.cells.toArray 26 (0, 0)) := (g1.block _ (by rw [← hW0]; simp) (fun e => by cases e; omega)).trans hr0
    have hc := lines_cells hl1
    have G1 := grew_of_grownBy (h0.trans' gw0) g1 hg0
    have cI := ident_Parse v W1 (by omega) (hm.grew G1) (u8_grew hu G1) (ht.grew G1) (he.grew G1)
    go_wp2_with (go_at_call 48; with_reducible refine cI.mono ?_)
    rintro e2 W2 ⟨g2, ⟨i, hi, hp, rfl⟩ | ⟨hu2, rfl⟩⟩
    · have hl2 : LinesAt g W2 r bad := (g2.block g (Array.getElem?_eq_some_iff.1 hl1).1).trans hl1
      have hr2 : W2.heap[w.heap.size]? = some (.cells zeroN.cells.toArray 26 (0, 0)) := (g2.block _ (Array.getElem?_eq_some_iff.1 hr1).1).trans hr1
      have hgw2 : g < W2.heap.size := (Array.getElem?_eq_some_iff.1 hl2).1
      have hRw2 : w.heap.size < W2.heap.size := (Array.getElem?_eq_some_iff.1 hr2).1
      go_wp2_with (refine wpList_store_new rfl 26 _ _ rfl W2 _ rfl i.cells rfl rfl rfl (infoIdn i) i.one ?_)
      intro U gU gUU rU fU sU
      have hlU : LinesAt g U r bad := (gU.block g hgw2).trans hl2
      have hrU := (gU.block _ hRw2).trans hr2
      have hgU : w.grownBy U (some g) := (((grownBy_of gw0 _).trans g1).trans (grownBy_of g2 _)).trans (grownBy_of gU _)
      have hV : ∀ b, (U.setCell ⟨g, 1, none⟩ (.bool b)).rangeAt W2.heap.size 0 i.cells := fun b => range_grown (rU U gUU) (lines_set1 hlU b).2 (fun e => by cases e; omega)
      have hR : ∀ b, (U.setCell ⟨g, 1, none⟩ (.bool b)).heap[w.heap.size]? = some (.cells zeroN.cells.toArray 26 (0, 0)) := fun b => ((lines_set1 hlU b).2.block _ (Nat.lt_of_lt_of_le hRw2 gU.size) (fun e => by cases e; omega)).trans hrU
      have hF := lines_frozen hlU 1
      have hC1 := (lines_cells hlU).2
      cases bad with
      | false =>
        go_wp2_with (first | (refine wpList_load_g (by rfl) 26 _ rfl _ _ rfl i.cells _ (hV _) Tryz.underlying26 rfl (infoIdn i) ?_) | refine wpList_store_row rfl 26 (.tmp 4) (.tmp 35) rfl w.heap.size i.cells.toArray rfl rfl 26 _ (hR _) (infoIdn' i) rfl (all_oneCell_toArray i.one) ?_)
        refine bodyPost_ret (results_cell_mid Tryz.results25 _ _ w.heap.size 0 i.cells _ rfl (range_setRow (hR _) _) Tryz.underlying26 rfl (infoIdn i)) rfl ?_
        obtain ⟨k1, k2⟩ := lines_end (hgU.trans (lines_set1 hlU _).2) (lines_set1 hlU _).1 (Nat.le_refl _) hg _
        exact ⟨k1, i, .inl hi, rfl, .inr ⟨v, r, hn, hz, .inl ⟨hi, hp, k2⟩⟩⟩
      | true =>
        go_wp2_with (first | (refine wpList_load_g (by rfl) 26 _ rfl _ _ rfl i.cells _ (hV _) Tryz.underlying26 rfl (infoIdn i) ?_) | refine wpList_store_row rfl 26 (.tmp 4) (.tmp 35) rfl w.heap.size i.cells.toArray rfl rfl 26 _ (hR _) (infoIdn' i) rfl (all_oneCell_toArray i.one) ?_)
        refine bodyPost_ret (results_cell_mid Tryz.results25 _ _ w.heap.size 0 i.cells _ rfl (range_setRow (hR _) _) Tryz.underlying26 rfl (infoIdn i)) rfl ?_
        obtain ⟨k1, k2⟩ := lines_end (hgU.trans (lines_set1 hlU _).2) (lines_set1 hlU _).1 (Nat.le_refl _) hg _
        exact ⟨k1, i, .inl hi, rfl, .inr ⟨v, r, hn, hz, .inl ⟨hi, hp, k2⟩⟩⟩
    · have hl2 : LinesAt g W2 r bad := (g2.block g (Array.getElem?_eq_some_iff.1 hl1).1).trans hl1
      have hr2 : W2.heap[w.heap.size]? = some (.cells zeroN.cells.toArray 26 (0, 0)) := (g2.block _ (Array.getElem?_eq_some_iff.1 hr1).1).trans hr1
      have hgw2 : g < W2.heap.size := (Array.getElem?_eq_some_iff.1 hl2).1
      have hRw2 : w.heap.size < W2.heap.size := (Array.getElem?_eq_some_iff.1 hr2).1
      go_wp2_with (refine wpList_store_new rfl 26 _ _ rfl W2 _ rfl zeroN.cells rfl rfl rfl (infoIdn zeroN) zeroN.one ?_)
      intro U gU gUU rU fU sU
      have hlU : LinesAt g U r bad := (gU.block g hgw2).trans hl2
      have hrU := (gU.block _ hRw2).trans hr2
      have hgU : w.grownBy U (some g) := (((grownBy_of gw0 _).trans g1).trans (grownBy_of g2 _)).trans (grownBy_of gU _)
      have hV : ∀ b, (U.setCell ⟨g, 1, none⟩ (.bool b)).rangeAt W2.heap.size 0 zeroN.cells := fun b => range_grown (rU U gUU) (lines_set1 hlU b).2 (fun e => by cases e; omega)
      have hR : ∀ b, (U.setCell ⟨g, 1, none⟩ (.bool b)).heap[w.heap.size]? = some (.cells zeroN.cells.toArray 26 (0, 0)) := fun b => ((lines_set1 hlU b).2.block _ (Nat.lt_of_lt_of_le hRw2 gU.size) (fun e => by cases e; omega)).trans hrU
      have hF := lines_frozen hlU 1
      have hC1 := (lines_cells hlU).2
      cases bad with
      | false =>
        go_wp2_with (first | (refine wpList_load_g (by rfl) 26 _ rfl _ _ rfl zeroN.cells _ (hV _) Tryz.underlying26 rfl (infoIdn zeroN) ?_) | refine wpList_store_row rfl 26 (.tmp 4) (.tmp 35) rfl w.heap.size zeroN.cells.toArray rfl rfl 26 _ (hR _) (infoIdn' zeroN) rfl (all_oneCell_toArray zeroN.one) ?_)
        refine bodyPost_ret (results_cell_mid Tryz.results25 _ _ w.heap.size 0 zeroN.cells _ rfl (range_setRow (hR _) _) Tryz.underlying26 rfl (infoIdn zeroN)) rfl ?_
        obtain ⟨k1, k2⟩ := lines_end (hgU.trans (lines_set1 hlU _).2) (lines_set1 hlU _).1 (Nat.le_refl _) hg _
        exact ⟨k1, zeroN, .inr rfl, rfl, .inr ⟨v, r, hn, hz, .inr ⟨hu2, k2⟩⟩⟩
      | true =>
        go_wp2_with (first | (refine wpList_load_g (by rfl) 26 _ rfl _ _ rfl zeroN.cells _ (hV _) Tryz.underlying26 rfl (infoIdn zeroN) ?_) | refine wpList_store_row rfl 26 (.tmp 4) (.tmp 35) rfl w.heap.size zeroN.cells.toArray rfl rfl 26 _ (hR _) (infoIdn' zeroN) rfl (all_oneCell_toArray zeroN.one) ?_)
        refine bodyPost_ret (results_cell_mid Tryz.results25 _ _ w.heap.size 0 zeroN.cells _ rfl (range_setRow (hR _) _) Tryz.underlying26 rfl (infoIdn zeroN)) rfl ?_
        obtain ⟨k1, k2⟩ := lines_end (hgU.trans (lines_set1 hlU _).2) (lines_set1 hlU _).1 (Nat.le_refl _) hg _
        exact ⟨k1, zeroN, .inr rfl, rfl, .inr ⟨v, r, hn, hz, .inr ⟨hu2, k2⟩⟩⟩

end Go.Proofs.YtemojhcbhljemaaGreatDoor

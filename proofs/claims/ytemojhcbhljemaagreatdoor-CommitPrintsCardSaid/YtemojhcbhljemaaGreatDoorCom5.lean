/- commit's lines: id and who, behind a pointer. Conditions: the text has at most 2^30 bytes; the library's tables are laid. -/
import Derived.Test.YtemojhcbhljemaaGreatDoorCom4
import Derived.Test.YtemojhcbhljemaaGreatDoorM4
import Derived.Test.YtemojhcbhljemaaGreatDoorIdent12
namespace Go.Proofs.YtemojhcbhljemaaGreatDoor
set_option linter.unusedVariables false
set_option linter.unusedSimpArgs false
open Go.RowKit

/-- What id leaves. -/
def LineIdPost (g : Nat) (word rest : ByteArray) (bad : Bool) (w : World) (e : Ending) (w' : World) : Prop := w.grownBy w' (some g) ∧
  ((nextL word.data.toList rest.data.toList = none ∧ e = .returned (.tuple #[idV zeros20, .bool false]) ∧ LinesAt g w' rest bad) ∨
   ∃ v r : ByteArray, nextL word.data.toList rest.data.toList = some (v.data.toList, r.data.toList) ∧ v.size + r.size < rest.size ∧
    ((∃ l, Pure.unhex v.data.toList = some l ∧ l.length = 20 ∧ e = .returned (.tuple #[idV l, .bool true]) ∧ LinesAt g w' r bad) ∨
     ((∀ l, Pure.unhex v.data.toList = some l → l.length ≠ 20) ∧ e = .returned (.tuple #[idV zeros20, .bool true]) ∧ LinesAt g w' r true)))

theorem lines_end {g R : Nat} {w X : World} {r : ByteArray} {b : Bool} (h1 : w.grownBy X (some g)) (hl : LinesAt g X r b) (hR : w.heap.size ≤ R) (hg : g < w.heap.size) (cs : Array Value) : w.grownBy (X.setRow R cs) (some g) ∧ LinesAt g (X.setRow R cs) r b :=
  ⟨h1.andThen (grownBy_setRow X R cs) (fun j e => .inl (by cases e; exact hR)), (setRow_other X R g cs (by omega)).trans hl⟩

set_option maxRecDepth 100000 in
set_option maxHeartbeats 4000000 in
theorem lines_id (g : Nat) (word rest : ByteArray) (bad : Bool) (w : World) (hl : LinesAt g w rest bad) (hs : rest.size ≤ 1073741824) (hm : MaxOk w) :
    Calls Tryz.prog 24 #[.pointer (some ⟨g, 0, none⟩), .string word] w (LineIdPost g word rest bad w) := by
  have hg : g < w.heap.size := (Array.getElem?_eq_some_iff.1 hl).1
  obtain ⟨W0, hW0⟩ : ∃ W0, w.alloc (.cells (Lib.byteCells zeros20).toArray 23) = W0 := ⟨_, rfl⟩
  have gw0 : Grew w W0 := by rw [← hW0]; exact (Below.refl w.heap.size w).alloc (Nat.le_refl _) _
  have hr0 : W0.heap[w.heap.size]? = some (.cells (Lib.byteCells zeros20).toArray 23 (0, 0)) := by rw [← hW0]; exact heap_alloc_new w _
  have hl0 : LinesAt g W0 rest bad := (gw0.block g hg).trans hl
  have cN := lines_next g word rest bad W0 hl0 (by omega) (hm.grew gw0)
  rw [← hW0] at cN
  go_enter Tryz.func24, Tryz.ntmps24
  go_wp2_with (go_at_call 46; refine cN.mono ?_)
  rw [hW0]
  rintro e1 W1 (⟨hn, rfl, g1, hl1⟩ | ⟨v, r, hn, hz, rfl, g1, hl1⟩)
  · have hr1 : W1.heap[w.heap.size]? = some (.cells (Lib.byteCells zeros20).toArray 23 (0, 0)) := (g1.block _ (by rw [← hW0]; simp) (fun e => by cases e; omega)).trans hr0
    go_wp2_with (first | refine wpList_store_row rfl 23 (.tmp 4) (.tmp 18) rfl w.heap.size (Lib.byteCells zeros20).toArray rfl rfl 23 _ hr1 (infoId'' rfl) rfl (one_bytes _) ?_)
    refine bodyPost_ret (results_cell_tmp_mid Tryz.results24 _ _ w.heap.size 0 (Lib.byteCells zeros20) _ rfl (range_setRow hr1 _) Tryz.underlying23 rfl (infoId' rfl)) rfl ?_
    obtain ⟨k1, k2⟩ := lines_end ((grownBy_of gw0 _).trans g1) hl1 (Nat.le_refl _) hg _
    exact ⟨k1, .inl ⟨hn, rfl, k2⟩⟩
  · have hr1 : W1.heap[w.heap.size]? = some (.cells (Lib.byteCells zeros20).toArray 23 (0, 0)) := (g1.block _ (by rw [← hW0]; simp) (fun e => by cases e; omega)).trans hr0
    have hc := lines_cells hl1
    have cI := hexa_Id v W1 (by omega)
    go_wp2_with (go_at_call 47; with_reducible refine cI.mono ?_)
    rintro e2 W2 ⟨g2, ⟨l, hu, h20, rfl⟩ | ⟨hu, rfl⟩⟩
    · have hl2 : LinesAt g W2 r bad := (g2.block g (Array.getElem?_eq_some_iff.1 hl1).1).trans hl1
      have hr2 : W2.heap[w.heap.size]? = some (.cells (Lib.byteCells zeros20).toArray 23 (0, 0)) := (g2.block _ (Array.getElem?_eq_some_iff.1 hr1).1).trans hr1
      have nfx : (Tryz.prog.info? 23).map (·.size) = some (Lib.byteCells l).length := infoId' h20
      have one1 := one_bytes' l
      have h22 : (Lib.byteCells l).length = 20 := by rw [Lib.byteCells_length]; exact h20
      have hgw2 : g < W2.heap.size := (Array.getElem?_eq_some_iff.1 hl2).1
      have hRw2 : w.heap.size < W2.heap.size := (Array.getElem?_eq_some_iff.1 hr2).1
      go_wp2_with (refine wpList_store_new rfl 23 _ _ rfl W2 _ rfl (Lib.byteCells l) rfl rfl h22.symm nfx one1 ?_)
      intro U gU gUU rU fU sU
      have hlU : LinesAt g U r bad := (gU.block g hgw2).trans hl2
      have hrU := (gU.block _ hRw2).trans hr2
      have hgU : w.grownBy U (some g) := (((grownBy_of gw0 _).trans g1).trans (grownBy_of g2 _)).trans (grownBy_of gU _)
      have hV : ∀ b, (U.setCell ⟨g, 1, none⟩ (.bool b)).rangeAt W2.heap.size 0 (Lib.byteCells l) := fun b => range_grown (rU U gUU) (lines_set1 hlU b).2 (fun e => by cases e; omega)
      have hR : ∀ b, (U.setCell ⟨g, 1, none⟩ (.bool b)).heap[w.heap.size]? = some (.cells (Lib.byteCells zeros20).toArray 23 (0, 0)) := fun b => ((lines_set1 hlU b).2.block _ (Nat.lt_of_lt_of_le hRw2 gU.size) (fun e => by cases e; omega)).trans hrU
      have hF := lines_frozen hlU 1
      have hC1 := (lines_cells hlU).2
      cases bad with
      | false =>
        go_wp2_with (first | (refine wpList_load_mid rfl 23 _ rfl _ _ rfl (Lib.byteCells l) _ (hV _) Tryz.underlying23 rfl nfx ?_) | refine wpList_store_row rfl 23 (.tmp 4) (.tmp 35) rfl w.heap.size (Lib.byteCells l).toArray rfl rfl 23 _ (hR _) (by rw [List.size_toArray]; exact nfx) (by first | rfl | (rw [List.size_toArray, List.size_toArray, h22]; rfl)) (one_bytes _) ?_)
        refine bodyPost_ret (results_cell_tmp_mid Tryz.results24 _ _ w.heap.size 0 (Lib.byteCells l) _ rfl (range_setRow (hR _) _) Tryz.underlying23 rfl nfx) rfl ?_
        obtain ⟨k1, k2⟩ := lines_end (hgU.trans (lines_set1 hlU _).2) (lines_set1 hlU _).1 (Nat.le_refl _) hg _
        exact ⟨k1, .inr ⟨v, r, hn, hz, .inl ⟨l, hu, h20, rfl, k2⟩⟩⟩
      | true =>
        go_wp2_with (first | (refine wpList_load_mid rfl 23 _ rfl _ _ rfl (Lib.byteCells l) _ (hV _) Tryz.underlying23 rfl nfx ?_) | refine wpList_store_row rfl 23 (.tmp 4) (.tmp 35) rfl w.heap.size (Lib.byteCells l).toArray rfl rfl 23 _ (hR _) (by rw [List.size_toArray]; exact nfx) (by first | rfl | (rw [List.size_toArray, List.size_toArray, h22]; rfl)) (one_bytes _) ?_)
        refine bodyPost_ret (results_cell_tmp_mid Tryz.results24 _ _ w.heap.size 0 (Lib.byteCells l) _ rfl (range_setRow (hR _) _) Tryz.underlying23 rfl nfx) rfl ?_
        obtain ⟨k1, k2⟩ := lines_end (hgU.trans (lines_set1 hlU _).2) (lines_set1 hlU _).1 (Nat.le_refl _) hg _
        exact ⟨k1, .inr ⟨v, r, hn, hz, .inl ⟨l, hu, h20, rfl, k2⟩⟩⟩
    · have hl2 : LinesAt g W2 r bad := (g2.block g (Array.getElem?_eq_some_iff.1 hl1).1).trans hl1
      have hr2 : W2.heap[w.heap.size]? = some (.cells (Lib.byteCells zeros20).toArray 23 (0, 0)) := (g2.block _ (Array.getElem?_eq_some_iff.1 hr1).1).trans hr1
      have nfx : (Tryz.prog.info? 23).map (·.size) = some (Lib.byteCells zeros20).length := infoId' rfl
      have one1 := one_bytes' zeros20
      have h22 : (Lib.byteCells zeros20).length = 20 := by rw [Lib.byteCells_length]; rfl
      have hgw2 : g < W2.heap.size := (Array.getElem?_eq_some_iff.1 hl2).1
      have hRw2 : w.heap.size < W2.heap.size := (Array.getElem?_eq_some_iff.1 hr2).1
      go_wp2_with (refine wpList_store_new rfl 23 _ _ rfl W2 _ rfl (Lib.byteCells zeros20) rfl rfl h22.symm nfx one1 ?_)
      intro U gU gUU rU fU sU
      have hlU : LinesAt g U r bad := (gU.block g hgw2).trans hl2
      have hrU := (gU.block _ hRw2).trans hr2
      have hgU : w.grownBy U (some g) := (((grownBy_of gw0 _).trans g1).trans (grownBy_of g2 _)).trans (grownBy_of gU _)
      have hV : ∀ b, (U.setCell ⟨g, 1, none⟩ (.bool b)).rangeAt W2.heap.size 0 (Lib.byteCells zeros20) := fun b => range_grown (rU U gUU) (lines_set1 hlU b).2 (fun e => by cases e; omega)
      have hR : ∀ b, (U.setCell ⟨g, 1, none⟩ (.bool b)).heap[w.heap.size]? = some (.cells (Lib.byteCells zeros20).toArray 23 (0, 0)) := fun b => ((lines_set1 hlU b).2.block _ (Nat.lt_of_lt_of_le hRw2 gU.size) (fun e => by cases e; omega)).trans hrU
      have hF := lines_frozen hlU 1
      have hC1 := (lines_cells hlU).2
      cases bad with
      | false =>
        go_wp2_with (first | (refine wpList_load_mid rfl 23 _ rfl _ _ rfl (Lib.byteCells zeros20) _ (hV _) Tryz.underlying23 rfl nfx ?_) | refine wpList_store_row rfl 23 (.tmp 4) (.tmp 35) rfl w.heap.size (Lib.byteCells zeros20).toArray rfl rfl 23 _ (hR _) (by rw [List.size_toArray]; exact nfx) (by first | rfl | (rw [List.size_toArray, List.size_toArray, h22]; rfl)) (one_bytes _) ?_)
        refine bodyPost_ret (results_cell_tmp_mid Tryz.results24 _ _ w.heap.size 0 (Lib.byteCells zeros20) _ rfl (range_setRow (hR _) _) Tryz.underlying23 rfl nfx) rfl ?_
        obtain ⟨k1, k2⟩ := lines_end (hgU.trans (lines_set1 hlU _).2) (lines_set1 hlU _).1 (Nat.le_refl _) hg _
        exact ⟨k1, .inr ⟨v, r, hn, hz, .inr ⟨hu, rfl, k2⟩⟩⟩
      | true =>
        go_wp2_with (first | (refine wpList_load_mid rfl 23 _ rfl _ _ rfl (Lib.byteCells zeros20) _ (hV _) Tryz.underlying23 rfl nfx ?_) | refine wpList_store_row rfl 23 (.tmp 4) (.tmp 35) rfl w.heap.size (Lib.byteCells zeros20).toArray rfl rfl 23 _ (hR _) (by rw [List.size_toArray]; exact nfx) (by first | rfl | (rw [List.size_toArray, List.size_toArray, h22]; rfl)) (one_bytes _) ?_)
        refine bodyPost_ret (results_cell_tmp_mid Tryz.results24 _ _ w.heap.size 0 (Lib.byteCells zeros20) _ rfl (range_setRow (hR _) _) Tryz.underlying23 rfl nfx) rfl ?_
        obtain ⟨k1, k2⟩ := lines_end (hgU.trans (lines_set1 hlU _).2) (lines_set1 hlU _).1 (Nat.le_refl _) hg _
        exact ⟨k1, .inr ⟨v, r, hn, hz, .inr ⟨hu, rfl, k2⟩⟩⟩

end Go.Proofs.YtemojhcbhljemaaGreatDoor

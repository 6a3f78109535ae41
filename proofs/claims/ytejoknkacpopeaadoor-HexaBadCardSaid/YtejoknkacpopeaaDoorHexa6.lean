/- hexa.Id and the reference's Id read an id of twenty bytes. Conditions: the text is at most 2^40 bytes long. -/
import Derived.Test.YtejoknkacpopeaaDoorWords2
import Derived.Test.YtejoknkacpopeaaDoorPure01
import Derived.Test.YtejoknkacpopeaaDoorHexa5
namespace Go.Proofs.YtejoknkacpopeaaDoor
set_option linter.unusedVariables false
set_option linter.unusedSimpArgs false
open Go.RowKit

/-- What Id leaves. -/
def IdPost (s : ByteArray) (w : World) (e : Ending) (w' : World) : Prop := Grew w w' ∧
  ((∃ l, Pure.unhex s.data.toList = some l ∧ l.length = 20 ∧ e = .returned (.tuple #[idV l, .int .i64 0])) ∨
   ((∀ l, Pure.unhex s.data.toList = some l → l.length ≠ 20) ∧ e = .returned (.tuple #[idV zeros20, .int .i64 4])))

set_option maxRecDepth 100000 in
set_option maxHeartbeats 1000000 in
theorem hexa_Id (s : ByteArray) (w : World) (hs : s.size ≤ 1099511627776) :
    Calls Tryd.prog 12 #[.string s] w (IdPost s w) := by
  go_enter Tryd.func12, Tryd.ntmps12
  go_wp2_with (go_at_call 10; refine (hexa_Unhex s _ hs).mono ?_)
  rintro e w1 ⟨hb1, ⟨l, v, hl, rfl, hown⟩ | ⟨hl, rfl⟩⟩
  · have hblk := (hb1.block w.heap.size (by simp)).trans (heap_alloc_new _ _)
    have hbw := ((Below.refl w.heap.size w).alloc (Nat.le_refl _) _).trans (hb1.mono (by simp))
    have hsz := hbw.size
    clear hb1
    by_cases h20 : l.length = 20
    · obtain ⟨g, cap, rfl, hBg, hg, hcap, _, hr⟩ := owns_at hown (by omega)
      have HL := Lib.hid hl
      have H20 := Lib.hid h20
      rw [h20]
      have hsa := arrayAt20 (some ⟨g, 0, none⟩) cap
      clear hl hown hs h20 hcap hBg
      go_wp2_with (first | refine wpList_load_mid rfl 29 (.tmp 20) rfl g 0 rfl (Lib.byteCells l) _ hr Tryd.underlying29 rfl (infoId' H20.out) ?_ | refine wpList_store_row rfl 29 (.tmp 2) (.tmp 21) rfl w.heap.size (Lib.byteCells l).toArray rfl rfl 29 _ hblk (infoId'' H20.out) (by simp [Lib.byteCells_length, H20.out]) (one_bytes l) ?_)
      refine bodyPost_ret (results_cell_tmp_mid Tryd.results12 _ _ w.heap.size 0 (Lib.byteCells l) _ rfl (range_setRow hblk _) Tryd.underlying29 rfl (infoId' H20.out)) rfl ?_
      exact ⟨below_setRow hbw (Nat.le_refl _) _, .inl ⟨l, HL.out, H20.out, rfl⟩⟩
    · obtain ⟨-, p, cap, rfl, -, -, -⟩ := rd_of_owns hown
      have h20' : ((l.length : Int) != 20) = true := by rw [bne_iff_ne]; omega
      have HL : Hid (∀ l', Pure.unhex s.data.toList = some l' → l'.length ≠ 20) := by intro l' h'; rw [hl] at h'; cases h'; exact h20
      clear hl hown hs h20
      go_wp2_with (first | refine wpList_store_row rfl 29 (.tmp 2) (.tmp 18) rfl w.heap.size (Lib.byteCells zeros20).toArray rfl rfl 29 _ hblk (infoId'' rfl) rfl (one_bytes _) ?_)
      refine bodyPost_ret (results_cell_tmp_mid Tryd.results12 _ _ w.heap.size 0 (Lib.byteCells zeros20) _ rfl (range_setRow hblk _) Tryd.underlying29 rfl (infoId' rfl)) rfl ?_
      exact ⟨below_setRow hbw (Nat.le_refl _) _, .inr ⟨HL.out, rfl⟩⟩
  · have hblk := (hb1.block w.heap.size (by simp)).trans (heap_alloc_new _ _)
    have hbw := ((Below.refl w.heap.size w).alloc (Nat.le_refl _) _).trans (hb1.mono (by simp))
    have HL : Hid (∀ l', Pure.unhex s.data.toList = some l' → l'.length ≠ 20) := by intro l' h'; rw [hl] at h'; cases h'
    clear hb1 hl
    go_wp2_with (first | refine wpList_store_row rfl 29 (.tmp 2) (.tmp 18) rfl w.heap.size (Lib.byteCells zeros20).toArray rfl rfl 29 _ hblk (infoId'' rfl) rfl (one_bytes _) ?_)
    refine bodyPost_ret (results_cell_tmp_mid Tryd.results12 _ _ w.heap.size 0 (Lib.byteCells zeros20) _ rfl (range_setRow hblk _) Tryd.underlying29 rfl (infoId' rfl)) rfl ?_
    exact ⟨below_setRow hbw (Nat.le_refl _) _, .inr ⟨HL.out, rfl⟩⟩

end Go.Proofs.YtejoknkacpopeaaDoor

/- The reference's Id reads an id of twenty bytes. Conditions: the text is at most 2^40 bytes long. -/
import Derived.Test.YtgjnnoamhmmcnaaDoorM1
import Derived.Test.YtgjnnoamhmmcnaaDoorM4
namespace Go.Proofs.YtgjnnoamhmmcnaaDoor
set_option linter.unusedVariables false
set_option linter.unusedSimpArgs false
open Go.RowKit

/-- The first k of twenty bytes, and zeros behind. -/
def part20 (l : List UInt8) (k : Nat) : List UInt8 := l.take k ++ List.replicate (20 - k) 0

theorem part20_length {l : List UInt8} (h : l.length = 20) {k : Nat} (hk : k ≤ 20) : (part20 l k).length = 20 := by simp [part20]; omega
theorem part20_all {l : List UInt8} (h : l.length = 20) : part20 l 20 = l := by simp [part20, ← h]
theorem part20_next {l : List UInt8} (h : l.length = 20) {k : Nat} (hk : k < 20) {c : UInt8} (hc : l[k]? = some c) :
    (Lib.byteCells (part20 l k)).toArray.setIfInBounds k (.int .u8 (c.toNat : Int)) = (Lib.byteCells (part20 l (k + 1))).toArray := by
  apply Array.ext'
  simp only [Array.toList_setIfInBounds]
  have e : 20 - k = (20 - (k + 1)) + 1 := by omega
  have hl : (Lib.byteCells (l.take k)).length = k := by rw [Lib.byteCells_length, List.length_take]; omega
  unfold part20
  rw [e, List.replicate_succ, List.take_add_one, hc, Lib.byteCells_append, List.append_assoc, Lib.byteCells_append]
  rw [List.set_append_right _ _ (by omega), hl, Nat.sub_self]
  rfl

set_option maxRecDepth 100000 in
set_option maxHeartbeats 1000000 in
theorem ref_Id (s : ByteArray) (w : World) (hs : s.size ≤ 1099511627776) :
    Calls Tryd.prog 27 #[.string s] w (IdPost s w) := by
  go_enter Tryd.func27, Tryd.ntmps27
  go_wp2_with (go_at_call 39; refine (ref_Unhex s _ hs).mono ?_)
  rintro e w1 ⟨hb1, ⟨l, v, hl, rfl, hown⟩ | ⟨hl, rfl⟩⟩
  · have hblk := (hb1.block w.heap.size (by simp)).trans (heap_alloc_new _ _)
    have hbw := ((Below.refl w.heap.size w).alloc (Nat.le_refl _) _).trans (hb1.mono (by simp))
    have hsz := (Array.getElem?_eq_some_iff.1 hblk).1
    clear hb1
    by_cases h20 : l.length = 20
    · obtain ⟨g, cap, rfl, hBg, hg, hcap, _, hr⟩ := owns_at hown (by omega)
      have HL := Lib.hid hl
      have H20 := Lib.hid h20
      rw [h20]
      simp at hBg
      clear hl hown hs h20 hcap
      go_wp2
      go_loopw [7] (fun i wr => ∃ k : Nat, k ≤ 20 ∧ i = .int .i64 k ∧ wr.heap[w1.heap.size]? = some (.cells (Lib.byteCells (part20 l k)).toArray 26 (0, 0)) ∧ Below w1.heap.size w1 wr) (fun i _ => 20 - (intOf i).toNat)
      case atStart =>
        refine ⟨0, by omega, rfl, ?_, ?_⟩
        · exact heap_alloc_new w1 _
        · exact (Below.refl _ w1).alloc (Nat.le_refl _) _
      case round =>
        obtain ⟨k, hk, rfl, hout, hb⟩ := hrel
        by_cases hlt : k < 20
        · obtain ⟨c, hc⟩ : ∃ c, l[k]? = some c := ⟨_, List.getElem?_eq_getElem (by rw [H20.out]; exact hlt)⟩
          have hnx := part20_next H20.out hlt hc
          have hcell : wr.cell? ⟨g, k, none⟩ = some (.int .u8 (c.toNat : Int)) := by
            have := range_below hb hr hg k (.int .u8 (c.toNat : Int)) (by simp [Lib.byteCells, hc])
            simpa using this
          have hold : ∃ o, wr.cell? ⟨w1.heap.size, k, none⟩ = some o := by
            rw [cell_of_row wr _ k _ _ (0, 0) hout]
            exact ⟨_, Array.getElem?_eq_getElem (by simp [Lib.byteCells_length, part20_length H20.out (Nat.le_of_lt hlt)]; exact hlt)⟩
          obtain ⟨o, hold⟩ := hold
          have hfz := frozen_of_row wr w1.heap.size k _ _ hout
          have hout' := heap_setCell_same wr w1.heap.size k _ _ (.int .u8 (c.toNat : Int)) hout
          rw [hnx] at hout'
          have hb' : Below w1.heap.size w1 (wr.setCell ⟨w1.heap.size, k, none⟩ (.int .u8 (c.toNat : Int))) := hb.setCell (p := ⟨w1.heap.size, k, none⟩) (Nat.le_refl _) _
          clear hnx hc hout hb
          go_wp2
          go_roundw
          case rel => exact ⟨k + 1, by omega, by go_num, hout', hb'⟩
          case measure => simp [intOf]; omega
        · have hk20 : k = 20 := by omega
          subst hk20
          rw [part20_all H20.out] at hout
          have hblk2 := (hb.block w.heap.size hsz).trans hblk
          have hro := range_row hout
          simp only at hro
          clear hout
          go_wp2_with (first | refine wpList_load_mid rfl 26 (.tmp 6) rfl w1.heap.size 0 rfl (Lib.byteCells l) _ hro Tryd.underlying26 rfl (infoId' H20.out) ?_ | refine wpList_store_row rfl 26 (.tmp 2) (.tmp 31) rfl w.heap.size (Lib.byteCells l).toArray rfl rfl 26 _ hblk2 (infoId'' H20.out) (by simp [Lib.byteCells_length, H20.out]) (one_bytes l) ?_)
          refine bodyPost_ret (results_cell_tmp_mid Tryd.results27 _ _ w.heap.size 0 (Lib.byteCells l) _ rfl (range_setRow hblk2 _) Tryd.underlying26 rfl (infoId' H20.out)) rfl ?_
          exact ⟨below_setRow (hbw.trans (hb.mono (by omega))) (Nat.le_refl _) _, .inl ⟨l, HL.out, H20.out, rfl⟩⟩
    · obtain ⟨-, p, cap, rfl, -, -, -⟩ := rd_of_owns hown
      have h20' : ((l.length : Int) != 20) = true := by rw [bne_iff_ne]; omega
      have HL : Hid (∀ l', Pure.unhex s.data.toList = some l' → l'.length ≠ 20) := by intro l' h'; rw [hl] at h'; cases h'; exact h20
      clear hl hown hs h20
      go_wp2_with (first | refine wpList_store_row rfl 26 (.tmp 2) (.tmp 20) rfl w.heap.size (Lib.byteCells zeros20).toArray rfl rfl 26 _ hblk (infoId'' rfl) rfl (one_bytes _) ?_)
      refine bodyPost_ret (results_cell_tmp_mid Tryd.results27 _ _ w.heap.size 0 (Lib.byteCells zeros20) _ rfl (range_setRow hblk _) Tryd.underlying26 rfl (infoId' rfl)) rfl ?_
      exact ⟨below_setRow hbw (Nat.le_refl _) _, .inr ⟨HL.out, rfl⟩⟩
  · have hblk := (hb1.block w.heap.size (by simp)).trans (heap_alloc_new _ _)
    have hbw := ((Below.refl w.heap.size w).alloc (Nat.le_refl _) _).trans (hb1.mono (by simp))
    have HL : Hid (∀ l', Pure.unhex s.data.toList = some l' → l'.length ≠ 20) := by intro l' h'; rw [hl] at h'; cases h'
    clear hb1 hl
    go_wp2_with (first | refine wpList_store_row rfl 26 (.tmp 2) (.tmp 20) rfl w.heap.size (Lib.byteCells zeros20).toArray rfl rfl 26 _ hblk (infoId'' rfl) rfl (one_bytes _) ?_)
    refine bodyPost_ret (results_cell_tmp_mid Tryd.results27 _ _ w.heap.size 0 (Lib.byteCells zeros20) _ rfl (range_setRow hblk _) Tryd.underlying26 rfl (infoId' rfl)) rfl ?_
    exact ⟨below_setRow hbw (Nat.le_refl _) _, .inr ⟨HL.out, rfl⟩⟩

end Go.Proofs.YtgjnnoamhmmcnaaDoor

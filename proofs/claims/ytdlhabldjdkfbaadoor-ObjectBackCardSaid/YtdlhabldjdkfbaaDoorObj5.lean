/- object.Id and the reference's Id: an object's sum, or none. Conditions: the library's table of powers of ten is laid; the body has at most 2^31 bytes. -/
import Derived.Test.YtdlhabldjdkfbaaDoorObj4
import Derived.Test.YtdlhabldjdkfbaaDoorSha6
namespace Go.Proofs.YtdlhabldjdkfbaaDoor
set_option linter.unusedVariables false
set_option linter.unusedSimpArgs false
open Go.RowKit

def idO (k : Int) (l : List UInt8) : List UInt8 := if Pure.wordO k = [] ∨ 65536 < l.length then zeros20 else Pure.sumS (Pure.bytesO k l)
theorem idO_len (k : Int) (l : List UInt8) : (idO k l).length = 20 := by
  unfold idO
  split
  · rfl
  · exact Pure.sumS_len _
theorem bytesO_len (k : Int) (l : List UInt8) (h : l.length ≤ 65536) : (Pure.bytesO k l).length ≤ 70000 := by
  have h1 : (Pure.wordO k).length ≤ 6 := by unfold Pure.wordO; split; decide; split; decide; split <;> decide
  have h2 := Lib.itoa_length_le (l.length : Int) (by omega) (by omega)
  unfold Pure.bytesO
  simp only [List.length_append, List.length_cons, List.length_nil]
  have h3 : (Lib.itoa (l.length : Int)).length ≤ 21 := h2
  omega

theorem rdp_one (W : World) (q : Option Addr) (l : List UInt8) (d : Nat) (hr : Rd W q l) (hd : l.length ≤ d) (t : TypeId) : RdP (W.alloc (.cells #[.slice q l.length d] t)) (some ⟨W.heap.size, 0, none⟩) [l] := by
  have hb := heap_alloc_new W (.cells #[.slice q l.length d] t)
  refine ⟨_, 0, rfl, (Array.getElem?_eq_some_iff.1 hb).1, fun i m hi => ?_⟩
  have hi0 : i = 0 := by
    have := (List.getElem?_eq_some_iff.1 hi).1
    simp at this; exact this
  subst hi0
  simp only [List.getElem?_cons_zero, Option.some.injEq] at hi
  subst hi
  exact ⟨q, d, by rw [cell_of_row _ _ _ _ _ (0, 0) hb]; rfl, hr.below ((Below.refl _ _).alloc (Nat.le_refl _) _) (Nat.le_refl _), hd⟩

set_option maxRecDepth 100000 in
set_option maxHeartbeats 1000000 in
theorem object_Id (k : Int) (p : Option Addr) (l : List UInt8) (cap : Nat) (w : World) (hl : l.length ≤ 2147483648) (hr : Rd w p l) (hT : TabOk w) :
    Calls Tryd.prog 9 #[.agg #[.int .i64 k, .slice p l.length cap]] w fun e w' => e = .returned (idV (idO k l)) ∧ Grew w w' := by
  obtain ⟨W0, hW0, gw0, g0, hq⟩ := boxed w #[.int .i64 k, .slice p l.length cap] 27
  obtain ⟨W1, hW1, g01, g1, -⟩ := boxed W0 (Lib.byteCells zeros20).toArray 30
  have hz0 := heap_alloc_new W0 (.cells (Lib.byteCells zeros20).toArray 30)
  rw [hW1] at hz0
  rw [show (Lib.byteCells zeros20).toArray = #[.int .u8 0, .int .u8 0, .int .u8 0, .int .u8 0, .int .u8 0, .int .u8 0, .int .u8 0, .int .u8 0, .int .u8 0, .int .u8 0, .int .u8 0, .int .u8 0, .int .u8 0, .int .u8 0, .int .u8 0, .int .u8 0, .int .u8 0, .int .u8 0, .int .u8 0, .int .u8 0] from rfl] at hW1
  have q0 := fun W g => hq W g 0 _ rfl
  have q1 := fun W g => hq W g 1 _ rfl
  have gw1 := gw0.trans' g01
  have hs := gw0.size
  have cP := object_Print k p l cap W1 (by omega) (hr.below gw1 (Nat.le_refl _)) (hT.grew gw1)
  clear hq
  go_enter Tryd.func9, Tryd.ntmps9
  go_wp2_with fail
  go_fit cP
  rintro e3 W3 ⟨g3, ⟨hw, rfl⟩ | ⟨_, hbig, rfl⟩ | ⟨hw, hsm, v3, rfl, hown⟩⟩
  · have hblk := (g3.block W0.heap.size (Array.getElem?_eq_some_iff.1 hz0).1).trans hz0
    have hid : idO k l = zeros20 := if_pos (.inl hw)
    have HI := Lib.hid hid
    clear cP hz0 hid
    go_wp2_with (first | refine wpList_store_row rfl 30 _ _ rfl W0.heap.size (Lib.byteCells zeros20).toArray rfl rfl 30 _ hblk (infoId'' rfl) rfl (one_bytes _) ?_)
    refine bodyPost_ret (results_cell_mid Tryd.results9 _ _ W0.heap.size 0 (Lib.byteCells zeros20) _ rfl (range_setRow hblk _) Tryd.underlying30 rfl (infoId' rfl)) rfl ?_
    exact ⟨by rw [HI.out]; rfl, below_setRow (gw1.trans' g3) hs _⟩
  · have hblk := (g3.block W0.heap.size (Array.getElem?_eq_some_iff.1 hz0).1).trans hz0
    have hid : idO k l = zeros20 := if_pos (.inr hbig)
    have HI := Lib.hid hid
    clear cP hz0 hid
    go_wp2_with (first | refine wpList_store_row rfl 30 _ _ rfl W0.heap.size (Lib.byteCells zeros20).toArray rfl rfl 30 _ hblk (infoId'' rfl) rfl (one_bytes _) ?_)
    refine bodyPost_ret (results_cell_mid Tryd.results9 _ _ W0.heap.size 0 (Lib.byteCells zeros20) _ rfl (range_setRow hblk _) Tryd.underlying30 rfl (infoId' rfl)) rfl ?_
    exact ⟨by rw [HI.out]; rfl, below_setRow (gw1.trans' g3) hs _⟩
  · have hid : idO k l = Pure.sumS (Pure.bytesO k l) := if_neg (by rintro (h | h); exact hw h; omega)
    obtain ⟨BL, hBL⟩ : ∃ BL, Pure.bytesO k l = BL := ⟨_, rfl⟩
    have hbl : BL.length ≤ 70000 := by rw [← hBL]; exact bytesO_len k l hsm
    rw [hBL] at hown hid
    obtain ⟨q3, d3, rfl, hr3, hd3, -⟩ := hown.val
    have g34 := (Below.refl W3.heap.size W3).alloc (Nat.le_refl _) (.cells #[.slice q3 BL.length d3] 22)
    have hrp := rdp_one W3 q3 BL d3 hr3 hd3 22
    have cS := sha_Sum _ [BL] 1 _ hrp (by simp) (by simp; omega)
    rw [show ([BL] : List (List UInt8)).length = 1 from rfl, show ([BL] : List (List UInt8)).flatten = BL by simp] at cS
    obtain ⟨SB, hSB⟩ : ∃ SB, Pure.sumS BL = SB := ⟨_, rfl⟩
    have h20 : SB.length = 20 := by rw [← hSB]; exact Pure.sumS_len _
    rw [hSB] at cS hid
    have HI := Lib.hid hid
    have gw3 := gw1.trans' g3
    have hlt0 := (Array.getElem?_eq_some_iff.1 hz0).1
    clear cP hid hSB hBL hown hr3 hrp
    go_wp2_with fail
    go_fit cS
    rintro e5 W5 ⟨rfl, g5⟩
    have g35 := Below.trans g34 (g5.mono (by simp))
    have hblk := (Grew.trans' g3 g35).block W0.heap.size hlt0 |>.trans hz0
    have hgw : Grew w W5 := gw3.trans' g35
    clear cS hz0
    go_wp2_with (first | refine wpList_store_row rfl 30 _ _ rfl W0.heap.size (Lib.byteCells SB).toArray rfl rfl 30 _ hblk (infoId'' h20) (by rw [List.size_toArray, List.size_toArray, Lib.byteCells_length, Lib.byteCells_length, h20]; rfl) (one_bytes _) ?_)
    refine bodyPost_ret (results_cell_mid Tryd.results9 _ _ W0.heap.size 0 (Lib.byteCells SB) _ rfl (range_setRow hblk _) Tryd.underlying30 rfl (infoId' h20)) rfl ?_
    exact ⟨by rw [HI.out]; rfl, below_setRow hgw hs _⟩

set_option maxRecDepth 100000 in
set_option maxHeartbeats 1000000 in
theorem ref07_Id (k : Int) (p : Option Addr) (l : List UInt8) (cap : Nat) (w : World) (hl : l.length ≤ 2147483648) (hr : Rd w p l) :
    Calls Tryd.prog 17 #[.agg #[.int .i64 k, .slice p l.length cap]] w fun e w' => e = .returned (idV (idO k l)) ∧ Grew w w' := by
  obtain ⟨W0, hW0, gw0, g0, hq⟩ := boxed w #[.int .i64 k, .slice p l.length cap] 27
  obtain ⟨W1, hW1, g01, g1, -⟩ := boxed W0 (Lib.byteCells zeros20).toArray 30
  have hz0 := heap_alloc_new W0 (.cells (Lib.byteCells zeros20).toArray 30)
  rw [hW1] at hz0
  rw [show (Lib.byteCells zeros20).toArray = #[.int .u8 0, .int .u8 0, .int .u8 0, .int .u8 0, .int .u8 0, .int .u8 0, .int .u8 0, .int .u8 0, .int .u8 0, .int .u8 0, .int .u8 0, .int .u8 0, .int .u8 0, .int .u8 0, .int .u8 0, .int .u8 0, .int .u8 0, .int .u8 0, .int .u8 0, .int .u8 0] from rfl] at hW1
  have q0 := fun W g => hq W g 0 _ rfl
  have q1 := fun W g => hq W g 1 _ rfl
  have gw1 := gw0.trans' g01
  have hs := gw0.size
  have cP := ref07_Print k p l cap W1 (by omega) (hr.below gw1 (Nat.le_refl _))
  clear hq
  go_enter Tryd.func17, Tryd.ntmps17
  go_wp2_with fail
  go_fit cP
  rintro e3 W3 ⟨g3, ⟨hw, rfl⟩ | ⟨_, hbig, rfl⟩ | ⟨hw, hsm, v3, rfl, hown⟩⟩
  · have hblk := (g3.block W0.heap.size (Array.getElem?_eq_some_iff.1 hz0).1).trans hz0
    have hid : idO k l = zeros20 := if_pos (.inl hw)
    have HI := Lib.hid hid
    clear cP hz0 hid
    go_wp2_with (first | refine wpList_store_row rfl 30 _ _ rfl W0.heap.size (Lib.byteCells zeros20).toArray rfl rfl 30 _ hblk (infoId'' rfl) rfl (one_bytes _) ?_)
    refine bodyPost_ret (results_cell_mid Tryd.results17 _ _ W0.heap.size 0 (Lib.byteCells zeros20) _ rfl (range_setRow hblk _) Tryd.underlying30 rfl (infoId' rfl)) rfl ?_
    exact ⟨by rw [HI.out]; rfl, below_setRow (gw1.trans' g3) hs _⟩
  · have hblk := (g3.block W0.heap.size (Array.getElem?_eq_some_iff.1 hz0).1).trans hz0
    have hid : idO k l = zeros20 := if_pos (.inr hbig)
    have HI := Lib.hid hid
    clear cP hz0 hid
    go_wp2_with (first | refine wpList_store_row rfl 30 _ _ rfl W0.heap.size (Lib.byteCells zeros20).toArray rfl rfl 30 _ hblk (infoId'' rfl) rfl (one_bytes _) ?_)
    refine bodyPost_ret (results_cell_mid Tryd.results17 _ _ W0.heap.size 0 (Lib.byteCells zeros20) _ rfl (range_setRow hblk _) Tryd.underlying30 rfl (infoId' rfl)) rfl ?_
    exact ⟨by rw [HI.out]; rfl, below_setRow (gw1.trans' g3) hs _⟩
  · have hid : idO k l = Pure.sumS (Pure.bytesO k l) := if_neg (by rintro (h | h); exact hw h; omega)
    obtain ⟨BL, hBL⟩ : ∃ BL, Pure.bytesO k l = BL := ⟨_, rfl⟩
    have hbl : BL.length ≤ 70000 := by rw [← hBL]; exact bytesO_len k l hsm
    rw [hBL] at hown hid
    obtain ⟨q3, d3, rfl, hr3, hd3, -⟩ := hown.val
    have cS := ref02_Sum q3 BL d3 W3 hr3 (by omega)
    obtain ⟨SB, hSB⟩ : ∃ SB, Pure.sumS BL = SB := ⟨_, rfl⟩
    have h20 : SB.length = 20 := by rw [← hSB]; exact Pure.sumS_len _
    rw [hSB] at cS hid
    have HI := Lib.hid hid
    have gw3 := gw1.trans' g3
    have hlt0 := (Array.getElem?_eq_some_iff.1 hz0).1
    clear cP hid hSB hBL hown hr3
    go_wp2_with fail
    go_fit cS
    rintro e5 W5 ⟨rfl, g35⟩
    have hblk := (Grew.trans' g3 g35).block W0.heap.size hlt0 |>.trans hz0
    have hgw : Grew w W5 := gw3.trans' g35
    clear cS hz0
    go_wp2_with (first | refine wpList_store_row rfl 30 _ _ rfl W0.heap.size (Lib.byteCells SB).toArray rfl rfl 30 _ hblk (infoId'' h20) (by rw [List.size_toArray, List.size_toArray, Lib.byteCells_length, Lib.byteCells_length, h20]; rfl) (one_bytes _) ?_)
    refine bodyPost_ret (results_cell_mid Tryd.results17 _ _ W0.heap.size 0 (Lib.byteCells SB) _ rfl (range_setRow hblk _) Tryd.underlying30 rfl (infoId' h20)) rfl ?_
    exact ⟨by rw [HI.out]; rfl, below_setRow hgw hs _⟩

end Go.Proofs.YtdlhabldjdkfbaaDoor

/- The law CommitPrints of layer 9, walked. Conditions: the library's tables are laid. -/
import Derived.Test.YtemojhcbhljemaaGreatDoorLaw09c
import Derived.Test.YtemojhcbhljemaaGreatDoorComR2
import Derived.Test.YtemojhcbhljemaaGreatDoorComR3
namespace Go.Proofs.YtemojhcbhljemaaGreatDoor
set_option linter.unusedVariables false
set_option linter.unusedSimpArgs false
open Go.RowKit

/-- What either Print answers. -/
def printRI (r : Rec) : List UInt8 × Int := if rightR r = true then (printR r, 0) else ([], 4)
theorem print_viewR {r : Rec} {w w' : World} {e : Ending} (h : PrintPostR r w e w') : Grew w w' ∧ ∃ p c, e = .returned (.tuple #[.slice p (printRI r).1.length c, .int .i64 (printRI r).2]) ∧ Rd w' p (printRI r).1 := by
  obtain ⟨g, ⟨hR, rfl⟩ | ⟨hR, v, rfl, ho⟩⟩ := h
  · unfold printRI; rw [hR]; exact ⟨g, none, 0, rfl, .inl rfl⟩
  · obtain ⟨p, c, rfl, hr, -, -⟩ := ho.val
    unfold printRI; rw [hR]
    exact ⟨g, p, c, rfl, hr⟩
/-- What both Parses answer. -/
theorem parse_two {b : List UInt8} {w1 w1' w2 w2' : World} {e1 e2 : Ending} (h1 : ParsePostR b w1 e1 w1') (h2 : ParsePostR b w2 e2 w2') : ∃ (r : Rec) (k : Int) (p1 p2 : Option Addr) (c1 c2 : Nat), FineR r ∧
    e1 = .returned (.tuple #[.agg (r.cells (.slice p1 r.par.length c1)).toArray, .int .i64 k]) ∧ RdG kId w1' p1 r.par ∧ e2 = .returned (.tuple #[.agg (r.cells (.slice p2 r.par.length c2)).toArray, .int .i64 k]) ∧ RdG kId w2' p2 r.par := by
  obtain ⟨-, r1, p1, c1, k1, rfl, hf1, hr1, -, hw1⟩ := parse_ways h1
  obtain ⟨-, r2, p2, c2, k2, rfl, hf2, hr2, -, hw2⟩ := parse_ways h2
  rcases hw1 with ⟨rfl, hg1⟩ | ⟨rfl, rfl, hn1⟩
  · rcases hw2 with ⟨rfl, hg2⟩ | ⟨-, -, hn2⟩
    · obtain rfl := good_uniq hg1 hg2
      exact ⟨r1, 0, p1, p2, c1, c2, hf1, rfl, hr1, rfl, hr2⟩
    · exact absurd hg1 (hn2 r1)
  · rcases hw2 with ⟨-, hg2⟩ | ⟨rfl, rfl, -⟩
    · exact absurd hg2 (hn1 r2)
    · exact ⟨zeroR, 4, p1, p2, c1, c2, hf1, rfl, hr1, rfl, hr2⟩
def f71 : List UInt8 := 71 :: List.replicate 19 0

set_option maxRecDepth 100000 in
set_option maxHeartbeats 8000000 in
theorem law_CommitPrints (a0 : Option Addr) (r : Rec) (cap0 : Nat) (a1 : Option Addr) (b : List UInt8) (cap1 : Nat) (w : World) (hr0 : RdG kId w a0 r.par) (hc0 : r.par.length ≤ cap0) (hl0 : r.par.length ≤ 9223372036854775807) (ht0 : r.tree.length = 20) (hp0 : ∀ x ∈ r.par, x.length = 20)
    (hx0 : r.au.name.size ≤ 9223372036854775807 ∧ r.au.email.size ≤ 9223372036854775807 ∧ r.co.name.size ≤ 9223372036854775807 ∧ r.co.email.size ≤ 9223372036854775807 ∧ r.text.size ≤ 9223372036854775807)
    (hr1 : Rd w a1 b) (hl1 : b.length ≤ 9223372036854775807) (hn1 : a1 = none → cap1 = 0) (hc1 : b.length ≤ cap1) (hu : U8Ok w) (hm : MaxOk w) (ht : TabOk w) (he : ErrOk w) :
    Calls Tryz.prog 3 #[.agg (r.cells (.slice a0 r.par.length cap0)).toArray, .slice a1 b.length cap1] w fun e w' => e = .returned (.bool true) ∧ Grew w w' := by
  obtain ⟨V, hV, gV, gVV, rV⟩ := boxedR w (.slice a0 r.par.length cap0) r
  have cF := few_run a0 cap0 r V ht0
  have cA := fun W (g : Grew V W) => awake09 W (u8_grew hu (gV.trans' g)) (hm.grew (gV.trans' g)) (ht.grew (gV.trans' g))
  have nfR := infoRec (.slice a0 r.par.length cap0) r ht0
  have oneR := rec_one r (.slice a0 r.par.length cap0) rfl
  have lenR := Rec.len (.slice a0 r.par.length cap0) r ht0
  have rP : ∀ W, Grew V W → W.cell? ⟨w.heap.size, 20, none⟩ = some (.slice a0 r.par.length cap0) := fun W g => by have := (rec_range (rV W g) ht0).2.1; rwa [Nat.zero_add] at this
  obtain ⟨RC, hRC⟩ : ∃ RC, r.cells (.slice a0 r.par.length cap0) = RC := ⟨_, rfl⟩
  simp only [hRC] at hV rV cF nfR oneR lenR ⊢
  have rR0 := rV V gVV
  have HRC := Lib.hid hRC
  clear hRC
  go_enter Tryz.func3, Tryz.ntmps3
  go_wp2_with (first | (refine wpList_load_mid rfl 28 _ rfl w.heap.size 0 rfl RC _ rR0 Tryz.underlying28 rfl nfR ?_) | (go_at_call 4; with_reducible refine cF.mono ?_))
  rintro ea Wa ⟨⟨B, rfl, hB⟩, ga⟩
  cases B with
  | false =>
    clear hB
    go_wp2_with (first | (go_at_call 5; with_reducible refine (cA _ (by assumption)).mono ?_; rintro e1 W1 ⟨rfl, g1⟩; replace g1 := Grew.trans' (a := V) (by assumption) g1))
    go_ret
    exact ⟨rfl, gV.trans' (by assumption)⟩
  | true =>
    obtain ⟨h40, h2000⟩ := hB rfl
    clear hB
    by_cases hl : 4000 < b.length
    · have f1 : decide (4000 < (b.length : Int)) = true := decide_eq_true (by omega)
      go_wp2_with (first | (go_at_call 5; with_reducible refine (cA _ (by assumption)).mono ?_; rintro e1 W1 ⟨rfl, g1⟩; replace g1 := Grew.trans' (a := V) (by assumption) g1))
      go_ret
      exact ⟨rfl, gV.trans' (by assumption)⟩
    · have f1 : decide (4000 < (b.length : Int)) = false := decide_eq_false (by omega)
      have hfine : FineR r := ⟨ht0, hp0, by omega, hx0.1, hx0.2.1, hx0.2.2.1, hx0.2.2.2.1, by omega⟩
      have rRa := rV Wa ga
      have rPa := fun W (g : Grew Wa W) => rP W (ga.trans' g)
      have kb := build_by 71
      clear cF
      go_wp2_with (first | (refine wpList_load_mid rfl 28 _ rfl w.heap.size 0 rfl RC _ rRa Tryz.underlying28 rfl nfR ?_) | (refine wpList_store_newH rfl 28 _ _ rfl Wa _ rfl RC rfl rfl lenR.symm nfR oneR ?_))
      intro Ub gUb sUb bUb
      have gVb := ga.trans' gUb
      have cO := own_Id a0 r.par cap0 f71 Ub (by omega) hp0 rfl (hr0.grew (gV.trans' gVb))
      change Calls _ _ #[.slice a0 r.par.length cap0, .agg #[.int .u8 71, .int .u8 0, .int .u8 0, .int .u8 0, .int .u8 0, .int .u8 0, .int .u8 0, .int .u8 0, .int .u8 0, .int .u8 0, .int .u8 0, .int .u8 0, .int .u8 0, .int .u8 0, .int .u8 0, .int .u8 0, .int .u8 0, .int .u8 0, .int .u8 0, .int .u8 0]] _ _ at cO
      have rPb := rPa Ub gUb
      obtain ⟨T5, hT5⟩ : ∃ T, Wa.heap.size = T := ⟨_, rfl⟩
      rw [hT5] at bUb
      try rw [hT5]
      clear sUb
      go_wp2_with (go_at_call 6; with_reducible refine cO.mono ?_)
      rintro e1 Wb ⟨gi, hgi, rfl, bgi, gb⟩
      have hT5b : T5 < Ub.heap.size := (Array.getElem?_eq_some_iff.1 bUb).1
      have bWb : Wb.heap[T5]? = some (.cells RC.toArray 28 (0, 0)) := (gb.block T5 hT5b).trans bUb
      obtain ⟨Y, hY⟩ : ∃ Y, Wb.setCell ⟨T5, 20, none⟩ (.slice (some ⟨gi, 0, none⟩) r.par.length (r.par.length + 3)) = Y := ⟨_, rfl⟩
      have hfz : Wb.frozen? ⟨T5, 20, none⟩ = false := by simp [World.frozen?, bWb]
      have hc20 : Wb.cell? ⟨T5, 20, none⟩ = some (.slice a0 r.par.length cap0) := by rw [cell_of_row Wb T5 20 _ _ (0, 0) bWb, ← HRC.out]; exact rec_at _ _ ht0
      have bY : Y.heap[T5]? = some (.cells (r.cells (.slice (some ⟨gi, 0, none⟩) r.par.length (r.par.length + 3))).toArray 28 (0, 0)) := by
        rw [← hY]
        have := set_cell_any Wb T5 20 _ _ _ (.slice (some ⟨gi, 0, none⟩) r.par.length (r.par.length + 3)) bWb
        rw [← HRC.out, rec_set _ _ _ ht0] at this
        exact this
      have bgY : Y.heap[gi]? = some (.cells (kId.row (r.par ++ [f71, f71, f71])).toArray 23 (0, 0)) := by
        rw [← hY]
        exact (heap_setCell_other _ ⟨T5, 20, none⟩ _ _ (by show gi ≠ T5; omega)).trans bgi
      have hVT : V.heap.size ≤ T5 := by rw [← hT5]; exact ga.size
      have gVY : Grew V Y := by rw [← hY]; exact (gVb.trans' gb).setCell (p := ⟨T5, 20, none⟩) hVT _
      have gY := gV.trans' gVY
      have hf20 : ∀ x ∈ r.par ++ [f71, f71, f71], x.length = 20 := by
        intro x hx
        rw [List.mem_append] at hx
        rcases hx with hx | hx
        · exact hp0 x hx
        · simp at hx; subst hx; rfl
      have rdI : RdG kId Y (some ⟨gi, 0, none⟩) (r.par ++ [f71, f71, f71]) := rdG_block kId bgY hf20 (fun i v hv => by simpa using hv)
      have cOb := own_bytes a1 b cap1 71 Y (by omega) (hr1.below gY (Nat.le_refl _))
      have rT5 : ∀ W, Grew Y W → W.rangeAt T5 0 (r.cells (.slice (some ⟨gi, 0, none⟩) r.par.length (r.par.length + 3))) := fun W g => by have := range_row ((g.block T5 (Array.getElem?_eq_some_iff.1 bY).1).trans bY); simpa using this
      have rV2 : ∀ W, Grew Y W → W.rangeAt w.heap.size 0 RC := fun W g => rV W (gVY.trans' g)
      have rP2 : ∀ W, Grew Y W → W.cell? ⟨w.heap.size, 20, none⟩ = some (.slice a0 r.par.length cap0) := fun W g => rP W (gVY.trans' g)
      have rQ2 : ∀ W, Grew Y W → W.cell? ⟨T5, 20, none⟩ = some (.slice (some ⟨gi, 0, none⟩) r.par.length (r.par.length + 3)) := fun W g => by have := (rec_range (rT5 W g) ht0).2.1; rwa [Nat.zero_add] at this
      have nfI := infoRec (.slice (some ⟨gi, 0, none⟩) r.par.length (r.par.length + 3)) r ht0
      have cP1 := fun W (g : Grew Y W) => commit_Print (some ⟨gi, 0, none⟩) (r.par.length + 3) r W hfine (by omega) (rdI.pre.grew g) (u8_grew hu (gY.trans' g)) (hm.grew (gY.trans' g)) (ht.grew (gY.trans' g))
      have cR1 := fun W (g : Grew Y W) => commit_Right (some ⟨gi, 0, none⟩) (r.par.length + 3) r W hfine (by omega) (rdI.pre.grew g) (u8_grew hu (gY.trans' g)) (hm.grew (gY.trans' g))
      unfold Rec.vcells at cR1
      have cP2 := fun W (g : Grew Y W) => ref_PrintR a0 cap0 r W hfine hc0 (hr0.grew (gY.trans' g)) (u8_grew hu (gY.trans' g)) (hm.grew (gY.trans' g)) (ht.grew (gY.trans' g))
      have cR2 := fun W (g : Grew Y W) => ref_RightR a0 cap0 r W hfine hc0 (hr0.grew (gY.trans' g)) (u8_grew hu (gY.trans' g)) (hm.grew (gY.trans' g))
      have cK1 := fun W (g : Grew Y W) => kept_Id (some ⟨gi, 0, none⟩) a0 r.par cap0 f71 W (by omega) hp0 rfl (rdI.grew g) (hr0.grew (gY.trans' g))
      have hf71 : (kId.cells f71).toArray = #[.int .u8 71, .int .u8 0, .int .u8 0, .int .u8 0, .int .u8 0, .int .u8 0, .int .u8 0, .int .u8 0, .int .u8 0, .int .u8 0, .int .u8 0, .int .u8 0, .int .u8 0, .int .u8 0, .int .u8 0, .int .u8 0, .int .u8 0, .int .u8 0, .int .u8 0, .int .u8 0] := rfl
      simp only [hf71] at cK1
      simp only [HRC.out] at cP2 cR2
      obtain ⟨RI, hRI⟩ : ∃ RI, r.cells (.slice (some ⟨gi, 0, none⟩) r.par.length (r.par.length + 3)) = RI := ⟨_, rfl⟩
      simp only [hRI] at rT5 nfI cP1 cR1
      have HB1 := Lib.hid hr1
      have cA2 := fun W (g : Grew Y W) => cA W (gVY.trans' g)
      clear hf71 hRI hf20 bgY bY bgi cO rPb rPa rRa rR0 hVT bWb hT5b gb cA
      go_wp2_with (go_at_call 7; with_reducible refine cOb.mono ?_)
      rintro e2 X2 ⟨rfl, bgb, g2⟩
      obtain ⟨gk, hgk⟩ : ∃ gk, Y.heap.size = gk := ⟨_, rfl⟩
      rw [hgk] at bgb ⊢
      have hrb : Rd X2 (some ⟨gk, 0, none⟩) b := .inr ⟨gk, 0, rfl, (Array.getElem?_eq_some_iff.1 bgb).1, fun i hi => by
        rw [cell_of_row X2 gk _ _ _ (0, 0) bgb]
        simp only [List.getElem?_toArray, Nat.zero_add]
        rw [List.getElem?_append_left (by rw [Lib.byteCells_length]; exact hi), byteCells_getElem?, List.getD_eq_getElem?_getD, List.getElem?_eq_getElem hi]; rfl⟩
      have HBG := Lib.hid bgb
      have HRB := Lib.hid hrb
      have rT5a := rT5 X2 g2
      have cPa := cP1 X2 g2
      clear cOb bgb hrb hgk
      go_wp2_with (first | (refine wpList_load_mid rfl 28 _ rfl T5 0 rfl RI _ rT5a Tryz.underlying28 rfl nfI ?_) | (go_at_call 8; with_reducible refine cPa.mono ?_))
      intro e3 X3 h3
      obtain ⟨g23, px, cx, rfl, hrx⟩ := print_viewR h3
      have g3 := g2.trans' g23
      have rRb := rV2 X3 g3
      have cPb := cP2 X3 g3
      clear h3 cPa cP1 rT5a
      go_wp2_with (first | (refine wpList_load_mid rfl 28 _ rfl w.heap.size 0 rfl RC _ rRb Tryz.underlying28 rfl nfR ?_) | (go_at_call 9; with_reducible refine cPb.mono ?_))
      intro e4 X4 h4
      obtain ⟨g34, py, cy, rfl, hry⟩ := print_viewR h4
      have g4 := g3.trans' g34
      have g24 := g23.trans' g34
      have cQ1 := commit_Parse (some ⟨gk, 0, none⟩) (b.length + 3) b X4 (HRB.out.below g24 (Nat.le_refl _)) (by omega) (by omega) (hm.grew (gY.trans' g4)) (u8_grew hu (gY.trans' g4)) (ht.grew (gY.trans' g4)) (he.grew (gY.trans' g4))
      clear h4 cPb cP2 rRb
      go_wp2_with (go_at_call 10; with_reducible refine cQ1.mono ?_)
      intro e5 X5 h5
      obtain ⟨g45, r1, p1, c1, k1, rfl, hf1, hq1, -, hw1⟩ := parse_ways h5
      have g5 := g4.trans' g45
      have nf1 := infoRec (.slice p1 r1.par.length c1) r1 hf1.1
      have one1 := rec_one r1 (.slice p1 r1.par.length c1) rfl
      have len1 := Rec.len (.slice p1 r1.par.length c1) r1 hf1.1
      obtain ⟨RU, hRU⟩ : ∃ RU, r1.cells (.slice p1 r1.par.length c1) = RU := ⟨_, rfl⟩
      rw [hRU] at nf1 one1 len1 ⊢
      have HRU := Lib.hid hRU
      clear h5 cQ1 hRU
      go_wp2_with (refine wpList_store_newH rfl 28 _ _ rfl X5 _ rfl RU rfl rfl len1.symm nf1 one1 ?_)
      intro U5 gU5 sU5 bU5
      obtain ⟨B1, hB1⟩ : ∃ B, X5.heap.size = B := ⟨_, rfl⟩
      rw [hB1] at bU5
      try rw [hB1]
      have g5u := g5.trans' gU5
      have cQ2 := ref_ParseR a1 cap1 b U5 (HB1.out.below (gY.trans' g5u) (Nat.le_refl _)) (by omega) (u8_grew hu (gY.trans' g5u)) (hm.grew (gY.trans' g5u))
      clear sU5 hB1
      go_wp2_with (go_at_call 11; with_reducible refine cQ2.mono ?_)
      intro e6 X6 h6
      obtain ⟨g56, r2, p2, c2, k2, rfl, hf2, hq2, -, hw2⟩ := parse_ways h6
      obtain ⟨rfl, rfl⟩ : r2 = r1 ∧ k2 = k1 := by
        rcases hw1 with ⟨rfl, hg1⟩ | ⟨rfl, rfl, hn1⟩
        · rcases hw2 with ⟨rfl, hg2⟩ | ⟨-, -, hn2⟩
          · exact ⟨good_uniq hg2 hg1, rfl⟩
          · exact absurd hg1 (hn2 _)
        · rcases hw2 with ⟨-, hg2⟩ | ⟨rfl, rfl, -⟩
          · exact absurd hg2 (hn1 _)
          · exact ⟨rfl, rfl⟩
      have g6 := g5u.trans' g56
      have nf2 := infoRec (.slice p2 r2.par.length c2) r2 hf2.1
      have one2 := rec_one r2 (.slice p2 r2.par.length c2) rfl
      have len2 := Rec.len (.slice p2 r2.par.length c2) r2 hf2.1
      have cRe := fun W (g1 : Grew X5 W) (g2 : Grew X6 W) => help_Record p1 p2 c1 c2 r2 W hf2.1 hf2.2.1 hf2.2.2.1 (hq1.grew g1) (hq2.grew g2)
      obtain ⟨RW, hRW⟩ : ∃ RW, r2.cells (.slice p2 r2.par.length c2) = RW := ⟨_, rfl⟩
      rw [hRW] at nf2 one2 len2 ⊢
      simp only [HRU.out, hRW] at cRe
      clear h6 cQ2 hRW hw1 hw2
      go_wp2_with (refine wpList_store_newH rfl 28 _ _ rfl X6 _ rfl RW rfl rfl len2.symm nf2 one2 ?_)
      intro U6 gU6 sU6 bU6
      obtain ⟨B2, hB2⟩ : ∃ B, X6.heap.size = B := ⟨_, rfl⟩
      rw [hB2] at bU6
      try rw [hB2]
      have g66 : Grew U6 U6 := Below.refl _ _
      have gYU := g6.trans' gU6
      have g2U := ((g24.trans' g45).trans' (gU5.trans' g56)).trans' gU6
      have g5U := (gU5.trans' g56).trans' gU6
      have bU5b := ((g56.trans' gU6).block B1 (Array.getElem?_eq_some_iff.1 bU5).1).trans bU5
      have q1 : ∀ W, Grew U6 W → W.rangeAt B1 0 RU := fun W g => range_grew (by have := range_row bU5b; simpa using this) g
      have q2 : ∀ W, Grew U6 W → W.rangeAt B2 0 RW := fun W g => range_grew (by have := range_row bU6; simpa using this) g
      have q3 : ∀ W, Grew U6 W → W.rangeAt T5 0 RI := fun W g => rT5 W (gYU.trans' g)
      have q4 : ∀ W, Grew U6 W → W.rangeAt w.heap.size 0 RC := fun W g => rV2 W (gYU.trans' g)
      have q5 : ∀ W, Grew U6 W → W.cell? ⟨w.heap.size, 20, none⟩ = some (.slice a0 r.par.length cap0) := fun W g => rP2 W (gYU.trans' g)
      have q6 : ∀ W, Grew U6 W → W.cell? ⟨T5, 20, none⟩ = some (.slice (some ⟨gi, 0, none⟩) r.par.length (r.par.length + 3)) := fun W g => rQ2 W (gYU.trans' g)
      have cA3 := fun W (g : Grew U6 W) => cA2 W (gYU.trans' g)
      have cR1u := fun W (g : Grew U6 W) => cR1 W (gYU.trans' g)
      have cR2u := fun W (g : Grew U6 W) => cR2 W (gYU.trans' g)
      have cB := fun W (g : Grew U6 W) => help_Bytes px py (printRI r).1 (printRI r).1 cx cy W (hrx.below ((g34.trans' (g45.trans' g5U)).trans' g) (Nat.le_refl _)) (hry.below ((g45.trans' g5U).trans' g) (Nat.le_refl _))
      have cRec := fun W (g : Grew U6 W) => cRe W (g5U.trans' g) (gU6.trans' g)
      have cK1u := fun W (g : Grew U6 W) => cK1 W (gYU.trans' g)
      have cK2u := fun W (g : Grew U6 W) => kept_bytes gk a1 b cap1 71 W (by omega) (((g2U.trans' g).block gk (Array.getElem?_eq_some_iff.1 HBG.out).1).trans HBG.out) (HB1.out.below (gY.trans' (gYU.trans' g)) (Nat.le_refl _))
      generalize (printRI r).1 = LX at *
      generalize (printRI r).2 = KX at *
      generalize rightR r = R at *
      have hbb : (LX == LX) = true := by simp
      simp only [hbb] at cB
      have hRR : (R == R) = true := by simp
      have hKX : (KX == KX) = true := by simp
      have hk2 : (k2 == k2) = true := by simp
      clear cA2 cR1 cR2 cRe cK1 rT5 rV2 rP2 rQ2 rP bU5 bU6 bU5b sU6 hB2 hbb rV
      go_wp2_with fail
      refine wp_region_held_drew (S := fun w' => Grew U6 w') (by kernel_rfl) (by first | assumption | exact Below.drew (by assumption)) (fun hHeld => ?_)
      refine wpAnyH_ready (rs := [0]) (by kernel_rfl) (by simp) ?_
      refine AllReadyH.cons rfl (fun K hK => ?_) AllReadyH.nil
      go_simp
      (go_at_call 5; with_reducible refine (cA3 _ (by first | assumption | exact Below.drew (by assumption))).mono ?_; rintro e1 W1 ⟨rfl, g1⟩; replace g1 := Grew.trans' (a := U6) (by first | assumption | exact Below.drew (by assumption)) g1)
      go_wp2_with fail
      refine hK.out _ _ (by first | assumption | exact Below.drew (by assumption)) (fun hHeld => ?_)
      clear hK K
      try simp only [Act.put, List.getElem_toArray, List.getElem_cons_succ, List.getElem_cons_zero, List.setIfInBounds_toArray, List.set_cons_zero, List.set_cons_succ]
      first
        | (refine wpAnyH_take (i := 1) (v := ?_) rfl (by kernel_rfl) (by kernel_rfl) (by kernel_rfl) (fun _ _ _ h => h) (Or.inl ⟨by rfl, ?_⟩) (by assumption) ?_; rotate_left 1; focus (intro w hSw; (try dsimp only at hSw); go_simp; (try with_reducible rfl)))
        | fail
      try simp only [Act.put, List.getElem_toArray, List.getElem_cons_succ, List.getElem_cons_zero, List.setIfInBounds_toArray, List.set_cons_zero, List.set_cons_succ]
      first
        | (refine' wpAnyH_take (i := 2) (v := _) rfl (by kernel_rfl) (by kernel_rfl) (by kernel_rfl) (fun _ _ _ h => h) (yieldsIf_load_mid (by rfl) _ _ rfl _ _ rfl _ _ (fun w hSw => (by (first | exact q1 _ hSw | exact q2 _ hSw | exact q3 _ hSw | exact q4 _ hSw))) Tryz.underlying28 rfl (by first | assumption | kernel_rfl)) (by assumption) ?_)
        | (refine wpAnyH_take (i := 2) (v := undef) rfl (by kernel_rfl) (by kernel_rfl) (by kernel_rfl) (fun _ _ _ h => h) (Or.inr ⟨by rfl, rfl⟩) (by assumption) ?_)
        | fail
      try simp only [Act.put, List.getElem_toArray, List.getElem_cons_succ, List.getElem_cons_zero, List.setIfInBounds_toArray, List.set_cons_zero, List.set_cons_succ]
      first
        | (refine' wpAnyH_take (i := 4) (v := _) rfl (by kernel_rfl) (by kernel_rfl) (by kernel_rfl) (fun _ _ _ h => h) (yieldsIf_load_mid (by rfl) _ _ rfl _ _ rfl _ _ (fun w hSw => (by (first | exact q1 _ hSw | exact q2 _ hSw | exact q3 _ hSw | exact q4 _ hSw))) Tryz.underlying28 rfl (by first | assumption | kernel_rfl)) (by assumption) ?_)
        | (refine wpAnyH_take (i := 4) (v := undef) rfl (by kernel_rfl) (by kernel_rfl) (by kernel_rfl) (fun _ _ _ h => h) (Or.inr ⟨by rfl, rfl⟩) (by assumption) ?_)
        | fail
      try simp only [Act.put, List.getElem_toArray, List.getElem_cons_succ, List.getElem_cons_zero, List.setIfInBounds_toArray, List.set_cons_zero, List.set_cons_succ]
      first
        | (refine wpAnyH_take (i := 3) (v := undef) rfl (by kernel_rfl) (by kernel_rfl) (by kernel_rfl) (fun _ _ _ h => h) (Or.inr ⟨by rfl, rfl⟩) (by assumption) ?_; try simp only [Act.put, List.getElem_toArray, List.getElem_cons_succ, List.getElem_cons_zero, List.setIfInBounds_toArray, List.set_cons_zero, List.set_cons_succ])
        | (refine wpAnyH_ready (rs := [3]) (by kernel_rfl) (by simp) ?_; refine AllReadyH.cons rfl (fun K hK => ?_) AllReadyH.nil; go_simp; ((go_at_call 12; with_reducible refine (cR1u _ (by first | assumption | exact Below.drew (by assumption))).mono ?_; rintro e1 W1 ⟨rfl, g1⟩; replace g1 := Grew.trans' (a := U6) (by first | assumption | exact Below.drew (by assumption)) g1)); go_wp2_with fail; refine hK.out _ _ (by first | assumption | exact Below.drew (by assumption)) (fun hHeld => ?_); clear hK K; (try simp only [Act.put, List.getElem_toArray, List.getElem_cons_succ, List.getElem_cons_zero, List.setIfInBounds_toArray, List.set_cons_zero, List.set_cons_succ]))
        | fail
      first
        | (refine wpAnyH_take (i := 5) (v := undef) rfl (by kernel_rfl) (by kernel_rfl) (by kernel_rfl) (fun _ _ _ h => h) (Or.inr ⟨by rfl, rfl⟩) (by assumption) ?_; try simp only [Act.put, List.getElem_toArray, List.getElem_cons_succ, List.getElem_cons_zero, List.setIfInBounds_toArray, List.set_cons_zero, List.set_cons_succ])
        | (refine wpAnyH_ready (rs := [5]) (by kernel_rfl) (by simp) ?_; refine AllReadyH.cons rfl (fun K hK => ?_) AllReadyH.nil; go_simp; ((go_at_call 13; with_reducible refine (cR2u _ (by first | assumption | exact Below.drew (by assumption))).mono ?_; rintro e1 W1 ⟨rfl, g1⟩; replace g1 := Grew.trans' (a := U6) (by first | assumption | exact Below.drew (by assumption)) g1)); go_wp2_with fail; refine hK.out _ _ (by first | assumption | exact Below.drew (by assumption)) (fun hHeld => ?_); clear hK K; (try simp only [Act.put, List.getElem_toArray, List.getElem_cons_succ, List.getElem_cons_zero, List.setIfInBounds_toArray, List.set_cons_zero, List.set_cons_succ]))
        | fail
      first
        | (refine wpAnyH_take (i := 6) (v := ?_) rfl (by kernel_rfl) (by kernel_rfl) (by kernel_rfl) (fun _ _ _ h => h) (Or.inl ⟨by rfl, ?_⟩) (by assumption) ?_; rotate_left 1; focus (intro w hSw; (try dsimp only at hSw); go_simp; (try with_reducible rfl)))
        | (refine wpAnyH_take (i := 6) (v := undef) rfl (by kernel_rfl) (by kernel_rfl) (by kernel_rfl) (fun _ _ _ h => h) (Or.inr ⟨by rfl, rfl⟩) (by assumption) ?_)
        | fail
      try simp only [Act.put, List.getElem_toArray, List.getElem_cons_succ, List.getElem_cons_zero, List.setIfInBounds_toArray, List.set_cons_zero, List.set_cons_succ]
      first
        | (refine wpAnyH_take (i := 7) (v := ?_) rfl (by kernel_rfl) (by kernel_rfl) (by kernel_rfl) (fun _ _ _ h => h) (Or.inl ⟨by rfl, ?_⟩) (by assumption) ?_; rotate_left 1; focus (intro w hSw; (try dsimp only at hSw); go_simp; (try with_reducible rfl)))
        | fail
      try simp only [Act.put, List.getElem_toArray, List.getElem_cons_succ, List.getElem_cons_zero, List.setIfInBounds_toArray, List.set_cons_zero, List.set_cons_succ]
      first
        | (refine wpAnyH_take (i := 8) (v := ?_) rfl (by kernel_rfl) (by kernel_rfl) (by kernel_rfl) (fun _ _ _ h => h) (Or.inl ⟨by rfl, ?_⟩) (by assumption) ?_; rotate_left 1; focus (intro w hSw; (try dsimp only at hSw); go_simp; (try with_reducible rfl)))
        | fail
      try simp only [Act.put, List.getElem_toArray, List.getElem_cons_succ, List.getElem_cons_zero, List.setIfInBounds_toArray, List.set_cons_zero, List.set_cons_succ]
      first
        | (refine wpAnyH_take (i := 9) (v := ?_) rfl (by kernel_rfl) (by kernel_rfl) (by kernel_rfl) (fun _ _ _ h => h) (Or.inl ⟨by rfl, ?_⟩) (by assumption) ?_; rotate_left 1; focus (intro w hSw; (try dsimp only at hSw); go_simp; (try with_reducible rfl)))
        | (refine wpAnyH_take (i := 9) (v := undef) rfl (by kernel_rfl) (by kernel_rfl) (by kernel_rfl) (fun _ _ _ h => h) (Or.inr ⟨by rfl, rfl⟩) (by assumption) ?_)
        | fail
      try simp only [Act.put, List.getElem_toArray, List.getElem_cons_succ, List.getElem_cons_zero, List.setIfInBounds_toArray, List.set_cons_zero, List.set_cons_succ]
      first
        | (refine wpAnyH_take (i := 10) (v := ?_) rfl (by kernel_rfl) (by kernel_rfl) (by kernel_rfl) (fun _ _ _ h => h) (Or.inl ⟨by rfl, ?_⟩) (by assumption) ?_; rotate_left 1; focus (intro w hSw; (try dsimp only at hSw); go_simp; (try with_reducible rfl)))
        | (refine wpAnyH_take (i := 10) (v := undef) rfl (by kernel_rfl) (by kernel_rfl) (by kernel_rfl) (fun _ _ _ h => h) (Or.inr ⟨by rfl, rfl⟩) (by assumption) ?_)
        | fail
      try simp only [Act.put, List.getElem_toArray, List.getElem_cons_succ, List.getElem_cons_zero, List.setIfInBounds_toArray, List.set_cons_zero, List.set_cons_succ]
      first
        | (refine wpAnyH_take (i := 11) (v := undef) rfl (by kernel_rfl) (by kernel_rfl) (by kernel_rfl) (fun _ _ _ h => h) (Or.inr ⟨by rfl, rfl⟩) (by assumption) ?_; try simp only [Act.put, List.getElem_toArray, List.getElem_cons_succ, List.getElem_cons_zero, List.setIfInBounds_toArray, List.set_cons_zero, List.set_cons_succ])
        | (refine wpAnyH_ready (rs := [11]) (by kernel_rfl) (by simp) ?_; refine AllReadyH.cons rfl (fun K hK => ?_) AllReadyH.nil; go_simp; ((go_at_call 14; with_reducible refine (cB _ (by first | assumption | exact Below.drew (by assumption))).mono ?_; rintro e9 W9 ⟨rfl, h9⟩; subst W9)); go_wp2_with fail; refine hK.out _ _ (by first | assumption | exact Below.drew (by assumption)) (fun hHeld => ?_); clear hK K; (try simp only [Act.put, List.getElem_toArray, List.getElem_cons_succ, List.getElem_cons_zero, List.setIfInBounds_toArray, List.set_cons_zero, List.set_cons_succ]))
        | fail
      first
        | (refine wpAnyH_take (i := 12) (v := ?_) rfl (by kernel_rfl) (by kernel_rfl) (by kernel_rfl) (fun _ _ _ h => h) (Or.inl ⟨by rfl, ?_⟩) (by assumption) ?_; rotate_left 1; focus (intro w hSw; (try dsimp only at hSw); go_simp; (try with_reducible rfl)))
        | fail
      try simp only [Act.put, List.getElem_toArray, List.getElem_cons_succ, List.getElem_cons_zero, List.setIfInBounds_toArray, List.set_cons_zero, List.set_cons_succ]
      first
        | (refine wpAnyH_take (i := 13) (v := ?_) rfl (by kernel_rfl) (by kernel_rfl) (by kernel_rfl) (fun _ _ _ h => h) (Or.inl ⟨by rfl, ?_⟩) (by assumption) ?_; rotate_left 1; focus (intro w hSw; (try dsimp only at hSw); go_simp; (try with_reducible rfl)))
        | fail
      try simp only [Act.put, List.getElem_toArray, List.getElem_cons_succ, List.getElem_cons_zero, List.setIfInBounds_toArray, List.set_cons_zero, List.set_cons_succ]
      first
        | (refine wpAnyH_take (i := 14) (v := ?_) rfl (by kernel_rfl) (by kernel_rfl) (by kernel_rfl) (fun _ _ _ h => h) (Or.inl ⟨by rfl, ?_⟩) (by assumption) ?_; rotate_left 1; focus (intro w hSw; (try dsimp only at hSw); go_simp; (try with_reducible rfl)))
        | (refine wpAnyH_take (i := 14) (v := undef) rfl (by kernel_rfl) (by kernel_rfl) (by kernel_rfl) (fun _ _ _ h => h) (Or.inr ⟨by rfl, rfl⟩) (by assumption) ?_)
        | fail
      try simp only [Act.put, List.getElem_toArray, List.getElem_cons_succ, List.getElem_cons_zero, List.setIfInBounds_toArray, List.set_cons_zero, List.set_cons_succ]
      first
        | (refine wpAnyH_take (i := 15) (v := ?_) rfl (by kernel_rfl) (by kernel_rfl) (by kernel_rfl) (fun _ _ _ h => h) (Or.inl ⟨by rfl, ?_⟩) (by assumption) ?_; rotate_left 1; focus (intro w hSw; (try dsimp only at hSw); go_simp; (try with_reducible rfl)))
        | (refine wpAnyH_take (i := 15) (v := undef) rfl (by kernel_rfl) (by kernel_rfl) (by kernel_rfl) (fun _ _ _ h => h) (Or.inr ⟨by rfl, rfl⟩) (by assumption) ?_)
        | fail
      try simp only [Act.put, List.getElem_toArray, List.getElem_cons_succ, List.getElem_cons_zero, List.setIfInBounds_toArray, List.set_cons_zero, List.set_cons_succ]
      first
        | (refine wpAnyH_take (i := 16) (v := ?_) rfl (by kernel_rfl) (by kernel_rfl) (by kernel_rfl) (fun _ _ _ h => h) (Or.inl ⟨by rfl, ?_⟩) (by assumption) ?_; rotate_left 1; focus (intro w hSw; (try dsimp only at hSw); go_simp; (try with_reducible rfl)))
        | (refine wpAnyH_take (i := 16) (v := undef) rfl (by kernel_rfl) (by kernel_rfl) (by kernel_rfl) (fun _ _ _ h => h) (Or.inr ⟨by rfl, rfl⟩) (by assumption) ?_)
        | fail
      try simp only [Act.put, List.getElem_toArray, List.getElem_cons_succ, List.getElem_cons_zero, List.setIfInBounds_toArray, List.set_cons_zero, List.set_cons_succ]
      first
        | (refine wpAnyH_take (i := 17) (v := ?_) rfl (by kernel_rfl) (by kernel_rfl) (by kernel_rfl) (fun _ _ _ h => h) (Or.inl ⟨by rfl, ?_⟩) (by assumption) ?_; rotate_left 1; focus (intro w hSw; (try dsimp only at hSw); go_simp; (try with_reducible rfl)))
        | fail
      try simp only [Act.put, List.getElem_toArray, List.getElem_cons_succ, List.getElem_cons_zero, List.setIfInBounds_toArray, List.set_cons_zero, List.set_cons_succ]
      first
        | (refine wpAnyH_take (i := 18) (v := ?_) rfl (by kernel_rfl) (by kernel_rfl) (by kernel_rfl) (fun _ _ _ h => h) (Or.inl ⟨by rfl, ?_⟩) (by assumption) ?_; rotate_left 1; focus (intro w hSw; (try dsimp only at hSw); go_simp; (try with_reducible rfl)))
        | fail
      try simp only [Act.put, List.getElem_toArray, List.getElem_cons_succ, List.getElem_cons_zero, List.setIfInBounds_toArray, List.set_cons_zero, List.set_cons_succ]
      first
        | (refine' wpAnyH_take (i := 19) (v := _) rfl (by kernel_rfl) (by kernel_rfl) (by kernel_rfl) (fun _ _ _ h => h) (yieldsIf_load_mid (by rfl) _ _ rfl _ _ rfl _ _ (fun w hSw => (by (first | exact q1 _ hSw | exact q2 _ hSw | exact q3 _ hSw | exact q4 _ hSw))) Tryz.underlying28 rfl (by first | assumption | kernel_rfl)) (by assumption) ?_)
        | (refine wpAnyH_take (i := 19) (v := undef) rfl (by kernel_rfl) (by kernel_rfl) (by kernel_rfl) (fun _ _ _ h => h) (Or.inr ⟨by rfl, rfl⟩) (by assumption) ?_)
        | fail
      try simp only [Act.put, List.getElem_toArray, List.getElem_cons_succ, List.getElem_cons_zero, List.setIfInBounds_toArray, List.set_cons_zero, List.set_cons_succ]
      first
        | (refine' wpAnyH_take (i := 20) (v := _) rfl (by kernel_rfl) (by kernel_rfl) (by kernel_rfl) (fun _ _ _ h => h) (yieldsIf_load_mid (by rfl) _ _ rfl _ _ rfl _ _ (fun w hSw => (by (first | exact q1 _ hSw | exact q2 _ hSw | exact q3 _ hSw | exact q4 _ hSw))) Tryz.underlying28 rfl (by first | assumption | kernel_rfl)) (by assumption) ?_)
        | (refine wpAnyH_take (i := 20) (v := undef) rfl (by kernel_rfl) (by kernel_rfl) (by kernel_rfl) (fun _ _ _ h => h) (Or.inr ⟨by rfl, rfl⟩) (by assumption) ?_)
        | fail
      try simp only [Act.put, List.getElem_toArray, List.getElem_cons_succ, List.getElem_cons_zero, List.setIfInBounds_toArray, List.set_cons_zero, List.set_cons_succ]
      first
        | (refine wpAnyH_take (i := 21) (v := undef) rfl (by kernel_rfl) (by kernel_rfl) (by kernel_rfl) (fun _ _ _ h => h) (Or.inr ⟨by rfl, rfl⟩) (by assumption) ?_; try simp only [Act.put, List.getElem_toArray, List.getElem_cons_succ, List.getElem_cons_zero, List.setIfInBounds_toArray, List.set_cons_zero, List.set_cons_succ])
        | (refine wpAnyH_ready (rs := [21]) (by kernel_rfl) (by simp) ?_; refine AllReadyH.cons rfl (fun K hK => ?_) AllReadyH.nil; go_simp; ((go_at_call 15; with_reducible refine (cRec _ (by first | assumption | exact Below.drew (by assumption))).mono ?_; rintro e1 W1 ⟨rfl, g1⟩; replace g1 := Grew.trans' (a := U6) (by first | assumption | exact Below.drew (by assumption)) g1)); go_wp2_with fail; refine hK.out _ _ (by first | assumption | exact Below.drew (by assumption)) (fun hHeld => ?_); clear hK K; (try simp only [Act.put, List.getElem_toArray, List.getElem_cons_succ, List.getElem_cons_zero, List.setIfInBounds_toArray, List.set_cons_zero, List.set_cons_succ]))
        | fail
      first
        | (refine wpAnyH_take (i := 22) (v := ?_) rfl (by kernel_rfl) (by kernel_rfl) (by kernel_rfl) (fun _ _ _ h => h) (Or.inl ⟨by rfl, ?_⟩) (by assumption) ?_; rotate_left 1; focus (intro w hSw; (try dsimp only at hSw); go_simp; (try with_reducible rfl)))
        | fail
      try simp only [Act.put, List.getElem_toArray, List.getElem_cons_succ, List.getElem_cons_zero, List.setIfInBounds_toArray, List.set_cons_zero, List.set_cons_succ]
      first
        | (refine wpAnyH_take (i := 23) (v := ?_) rfl (by kernel_rfl) (by kernel_rfl) (by kernel_rfl) (fun _ _ _ h => h) (Or.inl ⟨by rfl, ?_⟩) (by assumption) ?_; rotate_left 1; focus (intro w hSw; (try dsimp only at hSw); go_simp; (try with_reducible rfl)))
        | fail
      try simp only [Act.put, List.getElem_toArray, List.getElem_cons_succ, List.getElem_cons_zero, List.setIfInBounds_toArray, List.set_cons_zero, List.set_cons_succ]
      first
        | (refine wpAnyH_take (i := 24) (v := ?_) rfl (by kernel_rfl) (by kernel_rfl) (by kernel_rfl) (fun _ _ _ h => h) (Or.inl ⟨by rfl, ?_⟩) (by assumption) ?_; rotate_left 1; focus (intro w hSw; (try dsimp only at hSw); go_simp; (try with_reducible rfl)))
        | (refine wpAnyH_take (i := 24) (v := undef) rfl (by kernel_rfl) (by kernel_rfl) (by kernel_rfl) (fun _ _ _ h => h) (Or.inr ⟨by rfl, rfl⟩) (by assumption) ?_)
        | fail
      try simp only [Act.put, List.getElem_toArray, List.getElem_cons_succ, List.getElem_cons_zero, List.setIfInBounds_toArray, List.set_cons_zero, List.set_cons_succ]
      first
        | (refine wpAnyH_take (i := 25) (v := ?_) rfl (by kernel_rfl) (by kernel_rfl) (by kernel_rfl) (fun _ _ _ h => h) (Or.inl ⟨by rfl, ?_⟩) (by assumption) ?_; rotate_left 1; focus (intro w hSw; (try dsimp only at hSw); go_simp; (try with_reducible rfl)))
        | (refine wpAnyH_take (i := 25) (v := undef) rfl (by kernel_rfl) (by kernel_rfl) (by kernel_rfl) (fun _ _ _ h => h) (Or.inr ⟨by rfl, rfl⟩) (by assumption) ?_)
        | fail
      try simp only [Act.put, List.getElem_toArray, List.getElem_cons_succ, List.getElem_cons_zero, List.setIfInBounds_toArray, List.set_cons_zero, List.set_cons_succ]
      first
        | (refine wpAnyH_take (i := 26) (v := ?_) rfl (by kernel_rfl) (by kernel_rfl) (by kernel_rfl) (fun _ _ _ h => h) (Or.inl ⟨by rfl, ?_⟩) (by assumption) ?_; rotate_left 1; focus (intro w hSw; (try dsimp only at hSw); go_simp; (try with_reducible rfl)))
        | (refine wpAnyH_take (i := 26) (v := undef) rfl (by kernel_rfl) (by kernel_rfl) (by kernel_rfl) (fun _ _ _ h => h) (Or.inr ⟨by rfl, rfl⟩) (by assumption) ?_)
        | fail
      try simp only [Act.put, List.getElem_toArray, List.getElem_cons_succ, List.getElem_cons_zero, List.setIfInBounds_toArray, List.set_cons_zero, List.set_cons_succ]
      first
        | (refine wpAnyH_take (i := 27) (v := ?_) rfl (by kernel_rfl) (by kernel_rfl) (by kernel_rfl) (fun _ _ _ h => h) (Or.inl ⟨by rfl, ?_⟩) (by assumption) ?_; rotate_left 1; focus (intro w hSw; (try dsimp only at hSw); go_simp; (try with_reducible rfl)))
        | fail
      try simp only [Act.put, List.getElem_toArray, List.getElem_cons_succ, List.getElem_cons_zero, List.setIfInBounds_toArray, List.set_cons_zero, List.set_cons_succ]
      first
        | (refine wpAnyH_take (i := 28) (v := ?_) rfl (by kernel_rfl) (by kernel_rfl) (by kernel_rfl) (fun _ _ _ h => h) (Or.inl ⟨by rfl, ?_⟩) (by assumption) ?_; rotate_left 1; focus (intro w hSw; (try dsimp only at hSw); go_simp; (try with_reducible rfl)))
        | fail
      try simp only [Act.put, List.getElem_toArray, List.getElem_cons_succ, List.getElem_cons_zero, List.setIfInBounds_toArray, List.set_cons_zero, List.set_cons_succ]
      first
        | (refine wpAnyH_take (i := 29) (v := ?_) rfl (by kernel_rfl) (by kernel_rfl) (by kernel_rfl) (fun _ _ _ h => h) (Or.inl ⟨by rfl, ?_⟩) (by assumption) ?_; rotate_left 1; focus (intro w hSw; (try dsimp only at hSw); go_simp; (try with_reducible rfl)))
        | (refine wpAnyH_take (i := 29) (v := undef) rfl (by kernel_rfl) (by kernel_rfl) (by kernel_rfl) (fun _ _ _ h => h) (Or.inr ⟨by rfl, rfl⟩) (by assumption) ?_)
        | fail
      try simp only [Act.put, List.getElem_toArray, List.getElem_cons_succ, List.getElem_cons_zero, List.setIfInBounds_toArray, List.set_cons_zero, List.set_cons_succ]
      first
        | (refine wpAnyH_take (i := 30) (v := ?_) rfl (by kernel_rfl) (by kernel_rfl) (by kernel_rfl) (fun _ _ _ h => h) (Or.inl ⟨by rfl, ?_⟩) (by assumption) ?_; rotate_left 1; focus (intro w hSw; (try dsimp only at hSw); go_simp; (try with_reducible rfl)))
        | (refine wpAnyH_take (i := 30) (v := undef) rfl (by kernel_rfl) (by kernel_rfl) (by kernel_rfl) (fun _ _ _ h => h) (Or.inr ⟨by rfl, rfl⟩) (by assumption) ?_)
        | fail
      try simp only [Act.put, List.getElem_toArray, List.getElem_cons_succ, List.getElem_cons_zero, List.setIfInBounds_toArray, List.set_cons_zero, List.set_cons_succ]
      first
        | (refine wpAnyH_take (i := 31) (v := ?_) rfl (by kernel_rfl) (by kernel_rfl) (by kernel_rfl) (fun _ _ _ h => h) (Or.inl ⟨by rfl, ?_⟩) (by assumption) ?_; rotate_left 1; focus (intro w hSw; (try dsimp only at hSw); go_simp; (try with_reducible rfl)))
        | (refine wpAnyH_take (i := 31) (v := undef) rfl (by kernel_rfl) (by kernel_rfl) (by kernel_rfl) (fun _ _ _ h => h) (Or.inr ⟨by rfl, rfl⟩) (by assumption) ?_)
        | fail
      try simp only [Act.put, List.getElem_toArray, List.getElem_cons_succ, List.getElem_cons_zero, List.setIfInBounds_toArray, List.set_cons_zero, List.set_cons_succ]
      first
        | (refine wpAnyH_take (i := 32) (v := ?_) rfl (by kernel_rfl) (by kernel_rfl) (by kernel_rfl) (fun _ _ _ h => h) (Or.inl ⟨by rfl, ?_⟩) (by assumption) ?_; rotate_left 1; focus (intro w hSw; (try dsimp only at hSw); go_simp; (try with_reducible rfl)))
        | (refine wpAnyH_take (i := 32) (v := undef) rfl (by kernel_rfl) (by kernel_rfl) (by kernel_rfl) (fun _ _ _ h => h) (Or.inr ⟨by rfl, rfl⟩) (by assumption) ?_)
        | fail
      try simp only [Act.put, List.getElem_toArray, List.getElem_cons_succ, List.getElem_cons_zero, List.setIfInBounds_toArray, List.set_cons_zero, List.set_cons_succ]
      first
        | (refine wpAnyH_take (i := 33) (v := ?_) rfl (by kernel_rfl) (by kernel_rfl) (by kernel_rfl) (fun _ _ _ h => h) (Or.inl ⟨by rfl, ?_⟩) (by assumption) ?_; rotate_left 1; focus (intro w hSw; (try dsimp only at hSw); go_simp; (try with_reducible rfl)))
        | (refine wpAnyH_take (i := 33) (v := undef) rfl (by kernel_rfl) (by kernel_rfl) (by kernel_rfl) (fun _ _ _ h => h) (Or.inr ⟨by rfl, rfl⟩) (by assumption) ?_)
        | fail
      try simp only [Act.put, List.getElem_toArray, List.getElem_cons_succ, List.getElem_cons_zero, List.setIfInBounds_toArray, List.set_cons_zero, List.set_cons_succ]
      first
        | (refine wpAnyH_take (i := 34) (v := undef) rfl (by kernel_rfl) (by kernel_rfl) (by kernel_rfl) (fun _ _ _ h => h) (Or.inr ⟨by rfl, rfl⟩) (by assumption) ?_; try simp only [Act.put, List.getElem_toArray, List.getElem_cons_succ, List.getElem_cons_zero, List.setIfInBounds_toArray, List.set_cons_zero, List.set_cons_succ])
        | (refine wpAnyH_ready (rs := [34]) (by kernel_rfl) (by simp) ?_; refine AllReadyH.cons rfl (fun K hK => ?_) AllReadyH.nil; go_simp; ((go_at_call 16; with_reducible refine (cK1u _ (by first | assumption | exact Below.drew (by assumption))).mono ?_; rintro e1 W1 ⟨rfl, g1⟩; replace g1 := Grew.trans' (a := U6) (by first | assumption | exact Below.drew (by assumption)) g1)); go_wp2_with fail; refine hK.out _ _ (by first | assumption | exact Below.drew (by assumption)) (fun hHeld => ?_); clear hK K; (try simp only [Act.put, List.getElem_toArray, List.getElem_cons_succ, List.getElem_cons_zero, List.setIfInBounds_toArray, List.set_cons_zero, List.set_cons_succ]))
        | fail
      first
        | (refine wpAnyH_take (i := 35) (v := ?_) rfl (by kernel_rfl) (by kernel_rfl) (by kernel_rfl) (fun _ _ _ h => h) (Or.inl ⟨by rfl, ?_⟩) (by assumption) ?_; rotate_left 1; focus (intro w hSw; (try dsimp only at hSw); go_simp; (try with_reducible rfl)))
        | fail
      try simp only [Act.put, List.getElem_toArray, List.getElem_cons_succ, List.getElem_cons_zero, List.setIfInBounds_toArray, List.set_cons_zero, List.set_cons_succ]
      first
        | (refine wpAnyH_take (i := 36) (v := ?_) rfl (by kernel_rfl) (by kernel_rfl) (by kernel_rfl) (fun _ _ _ h => h) (Or.inl ⟨by rfl, ?_⟩) (by assumption) ?_; rotate_left 1; focus (intro w hSw; (try dsimp only at hSw); go_simp; (try with_reducible rfl)))
        | fail
      try simp only [Act.put, List.getElem_toArray, List.getElem_cons_succ, List.getElem_cons_zero, List.setIfInBounds_toArray, List.set_cons_zero, List.set_cons_succ]
      first
        | (refine wpAnyH_take (i := 37) (v := ?_) rfl (by kernel_rfl) (by kernel_rfl) (by kernel_rfl) (fun _ _ _ h => h) (Or.inl ⟨by rfl, ?_⟩) (by assumption) ?_; rotate_left 1; focus (intro w hSw; (try dsimp only at hSw); go_simp; (try with_reducible rfl)))
        | (refine wpAnyH_take (i := 37) (v := undef) rfl (by kernel_rfl) (by kernel_rfl) (by kernel_rfl) (fun _ _ _ h => h) (Or.inr ⟨by rfl, rfl⟩) (by assumption) ?_)
        | fail
      try simp only [Act.put, List.getElem_toArray, List.getElem_cons_succ, List.getElem_cons_zero, List.setIfInBounds_toArray, List.set_cons_zero, List.set_cons_succ]
      first
        | (refine wpAnyH_take (i := 38) (v := ?_) rfl (by kernel_rfl) (by kernel_rfl) (by kernel_rfl) (fun _ _ _ h => h) (Or.inl ⟨by rfl, ?_⟩) (by assumption) ?_; rotate_left 1; focus (intro w hSw; (try dsimp only at hSw); go_simp; (try with_reducible rfl)))
        | (refine wpAnyH_take (i := 38) (v := undef) rfl (by kernel_rfl) (by kernel_rfl) (by kernel_rfl) (fun _ _ _ h => h) (Or.inr ⟨by rfl, rfl⟩) (by assumption) ?_)
        | fail
      try simp only [Act.put, List.getElem_toArray, List.getElem_cons_succ, List.getElem_cons_zero, List.setIfInBounds_toArray, List.set_cons_zero, List.set_cons_succ]
      first
        | (refine wpAnyH_take (i := 39) (v := undef) rfl (by kernel_rfl) (by kernel_rfl) (by kernel_rfl) (fun _ _ _ h => h) (Or.inr ⟨by rfl, rfl⟩) (by assumption) ?_; try simp only [Act.put, List.getElem_toArray, List.getElem_cons_succ, List.getElem_cons_zero, List.setIfInBounds_toArray, List.set_cons_zero, List.set_cons_succ])
        | (refine wpAnyH_ready (rs := [39]) (by kernel_rfl) (by simp) ?_; refine AllReadyH.cons rfl (fun K hK => ?_) AllReadyH.nil; go_simp; ((go_at_call 17; with_reducible refine (cK2u _ (by first | assumption | exact Below.drew (by assumption))).mono ?_; rintro e1 W1 ⟨rfl, g1⟩; replace g1 := Grew.trans' (a := U6) (by first | assumption | exact Below.drew (by assumption)) g1)); go_wp2_with fail; refine hK.out _ _ (by first | assumption | exact Below.drew (by assumption)) (fun hHeld => ?_); clear hK K; (try simp only [Act.put, List.getElem_toArray, List.getElem_cons_succ, List.getElem_cons_zero, List.setIfInBounds_toArray, List.set_cons_zero, List.set_cons_succ]))
        | fail
      first
        | (refine wpAnyH_take (i := 40) (v := ?_) rfl (by kernel_rfl) (by kernel_rfl) (by kernel_rfl) (fun _ _ _ h => h) (Or.inl ⟨by rfl, ?_⟩) (by assumption) ?_; rotate_left 1; focus (intro w hSw; (try dsimp only at hSw); go_simp; (try with_reducible rfl)))
        | fail
      try simp only [Act.put, List.getElem_toArray, List.getElem_cons_succ, List.getElem_cons_zero, List.setIfInBounds_toArray, List.set_cons_zero, List.set_cons_succ]
      first
        | (refine wpAnyH_take (i := 41) (v := ?_) rfl (by kernel_rfl) (by kernel_rfl) (by kernel_rfl) (fun _ _ _ h => h) (Or.inl ⟨by rfl, ?_⟩) (by assumption) ?_; rotate_left 1; focus (intro w hSw; (try dsimp only at hSw); go_simp; (try with_reducible rfl)))
        | fail
      try simp only [Act.put, List.getElem_toArray, List.getElem_cons_succ, List.getElem_cons_zero, List.setIfInBounds_toArray, List.set_cons_zero, List.set_cons_succ]
      refine wpAnyH_done (by kernel_rfl) ?_ _
      go_wp2
      go_ret
      exact ⟨rfl, gY.trans' (gYU.trans' (by assumption))⟩

end Go.Proofs.YtemojhcbhljemaaGreatDoor

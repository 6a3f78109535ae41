/- The reference's Parse of a record. Conditions: at most 2^30 bytes; the library's tables are laid. -/
import Derived.Test.YtemojhcbhljemaaGreatDoorCom7
import Derived.Test.YtemojhcbhljemaaGreatDoorComR1
import Derived.Test.YtemojhcbhljemaaGreatDoorCom8
import Derived.Test.YtemojhcbhljemaaGreatDoorM4
import Derived.Test.YtemojhcbhljemaaGreatDoorIdent13
import Derived.Test.YtemojhcbhljemaaGreatDoorPure09f
import Derived.Test.YtemojhcbhljemaaGreatDoorStep
import Derived.Deep.RegionHeldLaw
import Derived.BigQuiet
namespace Go.Proofs.YtemojhcbhljemaaGreatDoor
set_option linter.unusedVariables false
set_option linter.unusedSimpArgs false
open Go.RowKit

/-- Where the reference's own blocks lie: the result's box, the record. -/
structure RefAt (w W : World) (Z : Array Value) (rc : Rec) (v : Value) : Prop where
  grew : Grew w W
  res : W.heap[w.heap.size]? = some (.cells Z 28 (0, 0))
  box : W.heap[w.heap.size + 1]? = some (.cells (rc.cells v).toArray 28 (0, 0))
  own : OwnG kId W (w.heap.size + 2) v rc.par
theorem RefAt.below {w W X : World} {Z r v} (h : RefAt w W Z r v) (k : Grew W X) : RefAt w X Z r v :=
  ⟨h.grew.trans' k, (k.block _ (Array.getElem?_eq_some_iff.1 h.res).1).trans h.res, (k.block _ (Array.getElem?_eq_some_iff.1 h.box).1).trans h.box, h.own.below k⟩
theorem RefAt.set {w W : World} {Z r v} (h : RefAt w W Z r v) {cs : Array Value} (r' : Rec) (v' : Value) (e : cs = (r'.cells v').toArray) (ho : OwnG kId W (w.heap.size + 2) v' r'.par) : RefAt w (W.setRow (w.heap.size + 1) cs) Z r' v' := by
  refine ⟨below_setRow h.grew (by omega) _, (setRow_other _ _ _ _ (by omega)).trans h.res, ?_, ho.kept (grownBy_setRow W _ _) ?_⟩
  · rw [← e]; exact setRow_heap W _ _ cs _ _ h.box
  · rcases hv : v'.ownBlock with _ | g
    · exact .inl rfl
    · exact .inr (fun e => by simp only [Option.some.injEq] at e; subst e; have := (ho.lt _ hv).1; omega)
theorem RefAt.cell {w W : World} {Z r v} (h : RefAt w W Z r v) (h20 : r.tree.length = 20) : W.cell? ⟨w.heap.size + 1, 20, none⟩ = some v := by
  rw [cell_of_row W (w.heap.size + 1) 20 _ _ (0, 0) h.box]; exact rec_at _ _ h20
theorem RefAt.froz {w W : World} {Z r v} (h : RefAt w W Z r v) (j : Nat) : W.frozen? ⟨w.heap.size + 1, j, none⟩ = false := by
  have hb : W.heap[w.heap.size + 1]? = _ := h.box
  simp [World.frozen?, hb]
/-- A parent more. -/
theorem RefAt.append {w V W5 : World} {Z r v} (h : RefAt w V Z r v) (h20 : r.tree.length = 20) (hb : Below (w.heap.size + 2) V W5) {v5 : Value} {x : List UInt8} (ho : OwnG kId W5 (w.heap.size + 2) v5 (r.par ++ [x])) :
    RefAt w (W5.setCell ⟨w.heap.size + 1, 20, none⟩ v5) Z ⟨r.tree, r.par ++ [x], r.au, r.co, r.text⟩ v5 ∧ W5.frozen? ⟨w.heap.size + 1, 20, none⟩ = false ∧ W5.cell? ⟨w.heap.size + 1, 20, none⟩ = some v := by
  have hbx : W5.heap[w.heap.size + 1]? = some (.cells (r.cells v).toArray 28 (0, 0)) := (hb.block _ (by omega)).trans h.box
  have g5 : Grew w W5 := h.grew.trans (hb.mono (by omega))
  refine ⟨⟨g5.setCell (p := ⟨w.heap.size + 1, 20, none⟩) (by show w.heap.size ≤ w.heap.size + 1; omega) _, ?_, ?_, ho.set ⟨w.heap.size + 1, 20, none⟩ v5 (fun e => by have := (ho.lt _ e).1; simp at this; try omega)⟩, by simp [World.frozen?, hbx], by rw [cell_of_row W5 (w.heap.size + 1) 20 _ _ (0, 0) hbx]; exact rec_at _ _ h20⟩
  · exact (heap_setCell_other _ ⟨w.heap.size + 1, 20, none⟩ _ _ (by first | (show _ ≠ _; simp; done) | (show _ ≠ _; simp; omega))).trans ((hb.block _ (by omega)).trans h.res)
  · have := set_cell_any W5 (w.heap.size + 1) 20 _ _ _ v5 hbx
    rw [rec_set _ _ _ h20] at this
    exact this
/-- The text. -/
theorem RefAt.text' {w W : World} {Z r v} (h : RefAt w W Z r v) (h20 : r.tree.length = 20) (x : ByteArray) :
    RefAt w (W.setCell ⟨w.heap.size + 1, 29, none⟩ (.string x)) Z ⟨r.tree, r.par, r.au, r.co, x⟩ v := by
  have hbx : W.heap[w.heap.size + 1]? = some (.cells (r.cells v).toArray 28 (0, 0)) := h.box
  refine ⟨h.grew.setCell (p := ⟨w.heap.size + 1, 29, none⟩) (by show w.heap.size ≤ w.heap.size + 1; omega) _, ?_, ?_, h.own.set ⟨w.heap.size + 1, 29, none⟩ _ (fun e => by have := (h.own.lt _ e).1; simp at this; try omega)⟩
  · exact (heap_setCell_other _ ⟨w.heap.size + 1, 29, none⟩ _ _ (by first | (show _ ≠ _; simp; done) | (show _ ≠ _; simp; omega))).trans h.res
  · have := set_cell_any W (w.heap.size + 1) 29 _ _ _ (.string x) hbx
    rw [rec_text _ _ h20] at this
    exact this
/-- Another block of the call's own is turned. -/
theorem RefAt.far {w W : World} {Z r v} (h : RefAt w W Z r v) {k : Nat} (hk : w.heap.size + 2 ≤ k) (hne : v.ownBlock ≠ some k) (cs : Array Value) : RefAt w (W.setRow k cs) Z r v :=
  ⟨below_setRow h.grew (by omega) _, (setRow_other _ _ _ _ (by omega)).trans h.res, (setRow_other _ _ _ _ (by omega)).trans h.box, h.own.kept (grownBy_setRow W k cs) (.inr hne)⟩
/-- What stands at Parse's end, the result's box being turned. -/
theorem RefAt.done {w W W2 : World} {Z r v} (h : RefAt w W Z r v) (g : Grew W W2) (cs : Array Value) : W2.heap[w.heap.size]? = some (.cells Z 28 (0, 0)) ∧ Grew w (W2.setRow w.heap.size cs) ∧ OwnG kId (W2.setRow w.heap.size cs) w.heap.size v r.par := by
  have k := h.below g
  refine ⟨k.res, below_setRow k.grew (Nat.le_refl _) _, (k.own.base (by omega)).kept (grownBy_setRow _ _ _) ?_⟩
  rcases hv : v.ownBlock with _ | b
  · exact .inl rfl
  · exact .inr (fun e => by simp only [Option.some.injEq] at e; subst e; have := (k.own.lt _ hv).1; omega)
theorem RefAt.below1 {w W : World} {Z r v} (h : RefAt w W Z r v) : w.heap.size + 2 ≤ W.heap.size := (Array.getElem?_eq_some_iff.1 h.box).1
def strN : Value → Nat | .string s => s.size | _ => 0


set_option maxRecDepth 100000 in
set_option maxHeartbeats 8000000 in
theorem ref_ParseR (p : Option Addr) (cap : Nat) (b : List UInt8) (w : World) (hr : Rd w p b) (hs : b.length ≤ 1073741824) (hu : U8Ok w) (hm : MaxOk w) :
    Calls Tryz.prog 11 #[.slice p b.length cap] w (ParsePostR b w) := by
  have kconv : ∀ W, Grew w W → (convert 29 9 (.slice p b.length cap)).run Tryz.prog W = .ok (.string ⟨b.toArray⟩) W := fun W g => conv_string cap (hr.below g (Nat.le_refl _))
  have hz : (zeroR.cells (.slice none 0 0)).toArray = #[.int .u8 0, .int .u8 0, .int .u8 0, .int .u8 0, .int .u8 0, .int .u8 0, .int .u8 0, .int .u8 0, .int .u8 0, .int .u8 0, .int .u8 0, .int .u8 0, .int .u8 0, .int .u8 0, .int .u8 0, .int .u8 0, .int .u8 0, .int .u8 0, .int .u8 0, .int .u8 0, .slice none 0 0, .string ⟨#[]⟩, .string ⟨#[]⟩, .int .i64 0, .int .i64 0, .string ⟨#[]⟩, .string ⟨#[]⟩, .int .i64 0, .int .i64 0, .string ⟨#[]⟩] := rfl
  obtain ⟨Z, hZ⟩ : ∃ Z, (zeroR.cells (.slice none 0 0)).toArray = Z := ⟨_, rfl⟩
  have hZs : Z.size = 30 := by rw [← hZ, List.size_toArray]; rfl
  have hnz : (Tryz.prog.info? 28).map (·.size) = some (zeroR.cells (.slice none 0 0)).toArray.size := by rw [List.size_toArray]; exact infoRec _ _ rfl
  have HNZ := Lib.hid hnz
  have HNZL := Lib.hid (infoRec (.slice none 0 0) zeroR rfl)
  have HZS := Lib.hid (show Z.size = (zeroR.cells (.slice none 0 0)).toArray.size by rw [hZs, List.size_toArray]; rfl)
  have HOZ := Lib.hid (all_oneCell_toArray (rec_one zeroR (.slice none 0 0) rfl))
  obtain ⟨V, hV⟩ : ∃ V, (w.alloc (.cells Z 28)).alloc (.cells Z 28) = V := ⟨_, rfl⟩
  have gV : Grew w V := by rw [← hV]; exact ((Below.refl _ _).alloc (Nat.le_refl _) _).alloc (by simp) _
  have hA : RefAt w V Z zeroR (.slice none 0 0) := by
    refine ⟨gV, ?_, ?_, OwnG.nil _ _ _⟩
    · rw [← hV]; exact (heap_alloc_old _ _ (by simp)).trans (heap_alloc_new _ _)
    · rw [← hV, hZ, show w.heap.size + 1 = (w.alloc (.cells Z 28)).heap.size by simp]; exact heap_alloc_new _ _
  have k0 := kconv V gV
  have cT := ref_line ⟨#[116, 114, 101, 101, 32]⟩ ⟨b.toArray⟩ V (by show b.toArray.size ≤ _; simp; omega)
  rw [← hV, ← hZ, hz] at cT k0
  clear hZs hnz
  go_enter Tryz.func11, Tryz.ntmps11
  go_wp2_with (go_at_call 28; with_reducible refine cT.mono ?_)
  rw [← hz, hZ, hV]
  rintro e1 Wa ⟨ga, ⟨hn, rfl⟩ | ⟨v1, q1, hn, hq1, rfl⟩⟩
  · have hA1 := hA.below ga
    have hno : ∀ r, ¬ GoodR b r := fun r hr => by have := (inA_start (b := b) (t := zeros20) (is := false) (bad := false) (q := b) (.inl ⟨rfl, hn, rfl, rfl⟩)).1 r hr; cases this
    have cI := ref_Id ⟨#[]⟩ Wa (by decide)
    clear cT k0
    go_wp2_with (go_at_call 29; with_reducible refine cI.mono ?_)
    rintro e2 Wb ⟨gb, hid⟩
    obtain ⟨l, k, h20, rfl⟩ : ∃ (l : List UInt8) (k : Int), l.length = 20 ∧ e2 = .returned (.tuple #[idV l, .int .i64 k]) := by
      rcases hid with ⟨l, -, h, e⟩ | ⟨-, e⟩
      · exact ⟨l, 0, h, e⟩
      · exact ⟨zeros20, 4, rfl, e⟩
    have hA2 := hA1.below gb
    have nfx : (Tryz.prog.info? 23).map (·.size) = some (Lib.byteCells l).length := infoId' h20
    have one1 := one_bytes' l
    have h22 : (Lib.byteCells l).length = 20 := by rw [Lib.byteCells_length]; exact h20
    clear cI hid
    go_wp2_with (refine wpList_store_newH rfl 23 _ _ rfl Wb _ rfl (Lib.byteCells l) rfl rfl h22.symm nfx one1 ?_)
    intro Ub gUb sUb bUb
    have hA3 := hA2.below gUb
    have hres := hA3.res
    clear sUb bUb
    go_wp2_with (refine wpList_store_row rfl 28 _ _ rfl w.heap.size (zeroR.cells (.slice none 0 0)).toArray rfl rfl 28 _ hres HNZ.out HZS.out HOZ.out ?_)
    refine bodyPost_ret (results_cell_tmp_mid Tryz.results11 _ _ w.heap.size 0 (zeroR.cells (.slice none 0 0)) _ rfl (range_setRow hres _) Tryz.underlying28 rfl HNZL.out) rfl ?_
    exact ⟨(hA3.done (Below.refl _ _) _).2.1, .inr ⟨hno, rfl⟩⟩
  · have hA1 := hA.below ga
    have hv1 : v1.size ≤ 1099511627776 := by have : (⟨b.toArray⟩ : ByteArray).size = b.length := by show b.toArray.size = _; simp
                                             omega
    have hq1b : q1.size ≤ b.length := by have : (⟨b.toArray⟩ : ByteArray).size = b.length := by show b.toArray.size = _; simp
                                         omega
    have cI := ref_Id v1 Wa hv1
    clear cT k0
    go_wp2_with (go_at_call 29; with_reducible refine cI.mono ?_)
    rintro e2 Wb ⟨gb, ⟨l, hid, h20, rfl⟩ | ⟨hid, rfl⟩⟩
    rotate_left 1
    · have hA2 := hA1.below gb
      have hno := no_of_a (inA_start (b := b) (t := zeros20) (is := true) (bad := true) (q := q1.data.toList) (.inr ⟨_, rfl, hn, .inr ⟨hid, rfl⟩⟩)).2
      have nfx : (Tryz.prog.info? 23).map (·.size) = some (Lib.byteCells zeros20).length := infoId' rfl
      have one1 := one_bytes' zeros20
      have h22 : (Lib.byteCells zeros20).length = 20 := by rw [Lib.byteCells_length]; rfl
      clear cI
      go_wp2_with (refine wpList_store_newH rfl 23 _ _ rfl Wb _ rfl (Lib.byteCells zeros20) rfl rfl h22.symm nfx one1 ?_)
      intro Ub gUb sUb bUb
      have hA3 := hA2.below gUb
      have hres := hA3.res
      clear sUb bUb
      go_wp2_with (refine wpList_store_row rfl 28 _ _ rfl w.heap.size (zeroR.cells (.slice none 0 0)).toArray rfl rfl 28 _ hres HNZ.out HZS.out HOZ.out ?_)
      refine bodyPost_ret (results_cell_tmp_mid Tryz.results11 _ _ w.heap.size 0 (zeroR.cells (.slice none 0 0)) _ rfl (range_setRow hres _) Tryz.underlying28 rfl HNZL.out) rfl ?_
      exact ⟨(hA3.done (Below.refl _ _) _).2.1, .inr ⟨hno, rfl⟩⟩
    · have hA2 := hA1.below gb
      have hInA := (inA_start (b := b) (t := l) (is := true) (bad := false) (q := q1.data.toList) (.inr ⟨_, rfl, hn, .inl ⟨hid, rfl⟩⟩)).2
      have hsnd : b = HeadR l [] ++ q1.data.toList := sound_tree (b := b) hn hid
      obtain ⟨t, ht⟩ : ∃ t, l = t := ⟨_, rfl⟩
      rw [ht] at hInA hsnd h20 ⊢
      have HSND := Lib.hid hsnd
      have HINA := Lib.hid hInA
      clear ht hid hn cI hsnd hInA
      have h202t : t.length = 20 := h20
      have nfx : (Tryz.prog.info? 23).map (·.size) = some (Lib.byteCells t).length := infoId' h20
      have one1 := one_bytes' t
      have h22 : (Lib.byteCells t).length = 20 := by rw [Lib.byteCells_length]; exact h20
      go_wp2_with (refine wpList_store_newH rfl 23 _ _ rfl Wb _ rfl (Lib.byteCells t) rfl rfl h22.symm nfx one1 ?_)
      intro Ub gUb sUb bUb
      have hA3 := hA2.below gUb
      have hP0 : w.heap.size + 2 ≤ Wb.heap.size := hA2.below1
      have rUb : Ub.rangeAt Wb.heap.size 0 (Lib.byteCells t) := by have := range_row bUb; simpa using this
      have hbx : Ub.heap[w.heap.size + 1]? = some (.cells (zeroR.cells (.slice none 0 0)).toArray 28 (0, 0)) := hA3.box
      obtain ⟨zc, hzc⟩ : ∃ zc, zeroR.cells (.slice none 0 0) = zc := ⟨_, rfl⟩
      have hzl : zc.length = 30 := by rw [← hzc]; rfl
      have hset := hA3.set (cs := (Lib.byteCells t ++ List.drop 20 zc).toArray) ⟨t, [], zeroN, zeroN, ⟨#[]⟩⟩ (.slice none 0 0) (by rw [← hzc]; rfl) (OwnG.nil _ _ _)
      rw [hzc] at hbx
      have hfit : 0 + (Lib.byteCells t).length ≤ zc.toArray.size := by rw [h22, List.size_toArray, hzl]; decide
      obtain ⟨V3, hV3⟩ : ∃ V3, Ub.setRow (w.heap.size + 1) (Lib.byteCells t ++ List.drop 20 zc).toArray = V3 := ⟨_, rfl⟩
      rw [hV3] at hset
      have bV3 : V3.heap[Wb.heap.size]? = some (.cells (Lib.byteCells t).toArray 23 (0, 0)) := by rw [← hV3]; exact (setRow_other _ _ _ _ (by omega)).trans bUb
      obtain ⟨P0, hP0e⟩ : ∃ P0, Wb.heap.size = P0 := ⟨_, rfl⟩
      rw [hP0e] at hP0 bV3
      clear hA hA1 hA2 hA3 sUb hz hzl hZ
      go_wp2_with (first | (refine wpList_load_mid rfl 23 (.tmp 8) rfl _ 0 rfl (Lib.byteCells t) _ rUb Tryz.underlying23 rfl nfx ?_) | (refine wpList_store_G rfl 23 _ _ rfl _ 0 28 _ (Lib.byteCells t) rfl rfl hbx hfit nfx one1 ?_))
      simp only [List.take_zero, List.nil_append, Nat.zero_add, h22, hV3]
      dsimp only [Act.put]
      try rw [hP0e]
      clear hbx rUb bUb hfit one1 nfx h22 hzc
      go_loopw [5, 6, 7, 9] (fun s5 s6 s7 s9 wr => ∃ (l : List (List UInt8)) (v : Value) (q : ByteArray) (x : List UInt8) (X5 : ByteArray) (b7 : Bool) (k9 : Int), .string X5 = s5 ∧ .string q = s6 ∧ .bool b7 = s7 ∧ .int .i64 k9 = s9 ∧ x.length = 20 ∧ RefAt w wr Z ⟨t, l, zeroN, zeroN, ⟨#[]⟩⟩ v ∧ v.ownBlock ≠ some P0 ∧ wr.heap[P0]? = some (.cells (Lib.byteCells x).toArray 23 (0, 0)) ∧ l.length ≤ 16 ∧ q.size ≤ b.length ∧ Hid (InA b t l false q.data.toList) ∧ Hid (b = HeadR t l ++ q.data.toList)) (fun _ s6 _ _ _ => strN s6)
      case atStart => exact ⟨[], _, q1, t, v1, true, 0, rfl, rfl, rfl, rfl, h20, hset, by simp [Value.ownBlock], bV3, by simp, hq1b, HINA, HSND⟩
      case round =>
        obtain ⟨l, v, q, x, X5, b7, k9, rfl, rfl, rfl, rfl, hx20, hA, hvP, hPb, hl16, hqb, hia, hsd⟩ := hrel
        clear hset bV3 hq1b HINA HSND hq1 hv1 ga gb
        have cL := ref_line ⟨#[112, 97, 114, 101, 110, 116, 32]⟩ q wr (by omega)
        go_wp2_with (go_at_call 28; with_reducible refine cL.mono ?_)
        rintro e1 Wa ⟨ga, ⟨hn, rfl⟩ | ⟨v2, q2, hn, hq2, rfl⟩⟩
        rotate_left 1
        · have hA1 := hA.below ga
          have hP1 : Wa.heap[P0]? = some (.cells (Lib.byteCells x).toArray 23 (0, 0)) := (ga.block P0 (Array.getElem?_eq_some_iff.1 hPb).1).trans hPb
          have cI := ref_Id v2 Wa (by omega)
          clear cL
          go_wp2_with (go_at_call 29; with_reducible refine cI.mono ?_)
          rintro e2 Wb ⟨gb, ⟨y, hid, hy20, rfl⟩ | ⟨hid, rfl⟩⟩
          rotate_left 1
          · have hA2 := hA1.below gb
            have hP2 : Wb.heap[P0]? = some (.cells (Lib.byteCells x).toArray 23 (0, 0)) := (gb.block P0 (Array.getElem?_eq_some_iff.1 hP1).1).trans hP1
            have hno := no_of_l (inL_of (p := zeros20) (has := true) (bad' := true) (q := q2.data.toList) hia.out (.inr ⟨_, rfl, hn, .inr ⟨hid, rfl⟩⟩))
            have nf7 : (Tryz.prog.info? 23).map (·.size) = some (Lib.byteCells zeros20).toArray.size := infoId'' rfl
            have hs7 : (Lib.byteCells x).toArray.size = (Lib.byteCells zeros20).toArray.size := by rw [List.size_toArray, List.size_toArray, Lib.byteCells_length, Lib.byteCells_length]; exact hx20
            have hA3 := hA2.far hP0 hvP (Lib.byteCells zeros20).toArray
            have hres := hA3.res
            clear cI
            go_wp2_with (first | (refine wpList_store_row rfl 23 _ _ rfl P0 (Lib.byteCells zeros20).toArray rfl rfl 23 _ hP2 nf7 hs7 (one_bytes _) ?_) | (refine wpList_store_row rfl 28 _ _ rfl w.heap.size (zeroR.cells (.slice none 0 0)).toArray rfl rfl 28 _ hres HNZ.out HZS.out HOZ.out ?_))
            refine bodyPost_ret (results_cell_tmp_mid Tryz.results11 _ _ w.heap.size 0 (zeroR.cells (.slice none 0 0)) _ rfl (range_setRow hres _) Tryz.underlying28 rfl HNZL.out) rfl ?_
            exact ⟨(hA3.done (Below.refl _ _) _).2.1, .inr ⟨hno, rfl⟩⟩
          · have hA2 := hA1.below gb
            have hP2 : Wb.heap[P0]? = some (.cells (Lib.byteCells x).toArray 23 (0, 0)) := (gb.block P0 (Array.getElem?_eq_some_iff.1 hP1).1).trans hP1
            have hil := inL_of (p := y) (has := true) (bad' := false) (q := q2.data.toList) hia.out (.inr ⟨_, rfl, hn, .inl ⟨hid, rfl⟩⟩)
            have HSN := Lib.hid (sound_par hsd.out hn hid)
            have nf7 : (Tryz.prog.info? 23).map (·.size) = some (Lib.byteCells y).toArray.size := infoId'' hy20
            have hs7 : (Lib.byteCells x).toArray.size = (Lib.byteCells y).toArray.size := by rw [List.size_toArray, List.size_toArray, Lib.byteCells_length, Lib.byteCells_length, hx20, hy20]
            have hA3 := hA2.far hP0 hvP (Lib.byteCells y).toArray
            have bU := setRow_heap Wb P0 _ (Lib.byteCells y).toArray _ _ hP2
            obtain ⟨U, hU⟩ : ∃ U, Wb.setRow P0 (Lib.byteCells y).toArray = U := ⟨_, rfl⟩
            rw [hU] at hA3 bU
            have hx0 := hA3.cell h202t
            obtain ⟨pp, cc, hv, -⟩ := hA3.own.val
            have hv' : v = .slice pp l.length cc := hv
            subst hv'
            by_cases h16 : 16 ≤ l.length
            · have hno := no_of_many hil h16
              have f16 : decide ((16 : Int) ≤ (l.length : Int)) = true := decide_eq_true (by omega)
              have hres := hA3.res
              clear cI hid hil
              go_wp2_with (first | (refine wpList_store_row rfl 23 _ _ rfl P0 (Lib.byteCells y).toArray rfl rfl 23 _ hP2 nf7 hs7 (one_bytes _) ?_) | (refine wpList_store_row rfl 28 _ _ rfl w.heap.size (zeroR.cells (.slice none 0 0)).toArray rfl rfl 28 _ hres HNZ.out HZS.out HOZ.out ?_))
              refine bodyPost_ret (results_cell_tmp_mid Tryz.results11 _ _ w.heap.size 0 (zeroR.cells (.slice none 0 0)) _ rfl (range_setRow hres _) Tryz.underlying28 rfl HNZL.out) rfl ?_
              exact ⟨(hA3.done (Below.refl _ _) _).2.1, .inr ⟨hno, rfl⟩⟩
            · have f16 : decide ((16 : Int) ≤ (l.length : Int)) = false := decide_eq_false (by omega)
              have nfx : (Tryz.prog.info? 23).map (·.size) = some (Lib.byteCells y).length := infoId' hy20
              have hPlt : P0 < U.heap.size := (Array.getElem?_eq_some_iff.1 bU).1
              have rx : U.rangeAt P0 0 (Lib.byteCells y) := by have := range_row bU; simpa using this
              have ks : ∀ W, (Instr.buildSlice 24 1 #[(0, .agg (Lib.byteCells y).toArray)]).run Tryz.prog W = .ok (.slice (some ⟨W.heap.size, 0, none⟩) 1 1) (W.alloc (.cells (Lib.byteCells y).toArray 23)) := fun W => run_slice_G kId y hy20 W
              obtain ⟨V, hV, gV, gVV, rV⟩ := boxedG kId U y
              have hAV := hA3.below gV
              have hPV : V.heap[P0]? = some (.cells (Lib.byteCells y).toArray 23 (0, 0)) := (gV.block P0 hPlt).trans bU
              have hbV : w.heap.size + 2 ≤ V.heap.size := hAV.below1
              have rVV := rV V gVV
              have hoV := hAV.own
              have HAV := Lib.hid hAV
              change U.alloc (.cells (Lib.byteCells y).toArray 23) = V at hV
              have hPVlt : P0 < V.heap.size := Nat.lt_of_lt_of_le hPlt gV.size
              have HPV := Lib.hid hPV
              have HOV := Lib.hid hoV
              have HRV := Lib.hid rVV
              rw [← hV] at HAV HPV HOV HRV hbV hPVlt
              have HIL := Lib.hid hil
              clear hAV hoV rVV hPV rV gVV hV cI hid hil
              go_wp2_with (first | (refine wpList_store_row rfl 23 _ _ rfl P0 (Lib.byteCells y).toArray rfl rfl 23 _ hP2 nf7 hs7 (one_bytes _) ?_) | (refine wpList_load_mid rfl 23 (.tmp 8) rfl P0 0 rfl (Lib.byteCells y) _ rx Tryz.underlying23 rfl nfx ?_; refine wpListExec rfl _ _ (execBuildSlice 24 1 [(0, .tmp 56)] rfl _ (ks _)) ?_; refine wpList_append_Gat kId rfl _ _ rfl (w.heap.size + 2) (.slice pp l.length cc) l y U.heap.size rfl rfl HOV.out hy20 HRV.out hbV (by omega) ?_))
              intro v5 W5 hown5 hb5 hg5 hat5
              have hP5 : W5.heap[P0]? = some (.cells (Lib.byteCells y).toArray 23 (0, 0)) := (hg5.block P0 hPVlt (fun e => hvP e.symm)).trans HPV.out
              obtain ⟨hA6, hfz, hc5⟩ := HAV.out.append h202t hb5 hown5
              obtain ⟨p5, c5, hv5, -⟩ := hown5.val
              obtain ⟨n5, hn5⟩ : ∃ n, (l ++ [y]).length = n := ⟨_, rfl⟩
              rw [hn5] at hv5
              subst hv5
              have hP6 : (W5.setCell ⟨w.heap.size + 1, 20, none⟩ (.slice p5 n5 c5)).heap[P0]? = some (.cells (Lib.byteCells y).toArray 23 (0, 0)) := (heap_setCell_other _ ⟨w.heap.size + 1, 20, none⟩ _ _ (by show P0 ≠ w.heap.size + 1; omega)).trans hP5
              have hvP6 : (Value.slice p5 n5 c5).ownBlock ≠ some P0 := fun e => by
                rcases hat5 with h | h
                · rw [h] at e; exact hvP e
                · rw [h] at e; simp only [Option.some.injEq] at e; omega
              go_wp2
              go_roundw
              case rel => exact ⟨l ++ [y], _, q2, y, v2, true, 0, rfl, rfl, rfl, rfl, hy20, hA6, hvP6, hP6, by simp; omega, by omega, Lib.hid (inL_next HIL.out), HSN⟩
              case measure => simp only [strN]; omega
        · have hA1 := hA.below ga
          have hin := inA_none (p := zeros20) hia.out hn
          have HSD := Lib.hid hsd.out
          have cL2 := ref_line ⟨#[97, 117, 116, 104, 111, 114, 32]⟩ q Wa (by omega)
          clear cL hia hsd hn
          go_wp2_with (go_at_call 28; with_reducible refine cL2.mono ?_)
          rintro e2 Wb ⟨gb, ⟨hn2, rfl⟩ | ⟨va, q2, hn2, hq2, rfl⟩⟩
          · have hA2 := hA1.below gb
            have hno := no_of_w1 (inW1 (i := zeroN) (bad' := true) (q := q.data.toList) hin (.inl ⟨hn2, rfl⟩))
            have cI := ref06_Parse ⟨#[]⟩ Wb (by decide) (u8_grew hu hA2.grew)
            clear cL2 hin
            go_wp2_with (go_at_call 30; with_reducible refine cI.mono ?_)
            rintro e3 Wc ⟨gc, hpn⟩
            obtain ⟨i, k, rfl⟩ : ∃ (i : Idn) (k : Int), e3 = .returned (.tuple #[.agg i.cells.toArray, .int .i64 k]) := by
              rcases hpn with ⟨i, -, -, e⟩ | ⟨-, e⟩
              · exact ⟨i, 0, e⟩
              · exact ⟨zeroN, 4, e⟩
            have hA3 := hA2.below gc
            clear cI hpn
            go_wp2_with (refine wpList_store_newH rfl 26 _ _ rfl Wc _ rfl i.cells rfl rfl rfl (infoIdn i) i.one ?_)
            intro Uc gUc sUc bUc
            have hA4 := hA3.below gUc
            have hres := hA4.res
            clear sUc bUc
            go_wp2_with (refine wpList_store_row rfl 28 _ _ rfl w.heap.size (zeroR.cells (.slice none 0 0)).toArray rfl rfl 28 _ hres HNZ.out HZS.out HOZ.out ?_)
            refine bodyPost_ret (results_cell_tmp_mid Tryz.results11 _ _ w.heap.size 0 (zeroR.cells (.slice none 0 0)) _ rfl (range_setRow hres _) Tryz.underlying28 rfl HNZL.out) rfl ?_
            exact ⟨(hA4.done (Below.refl _ _) _).2.1, .inr ⟨hno, rfl⟩⟩
          · have hA2 := hA1.below gb
            have cI := ref06_Parse va Wb (by omega) (u8_grew hu hA2.grew)
            clear cL2
            go_wp2_with (go_at_call 30; with_reducible refine cI.mono ?_)
            rintro e3 Wc ⟨gc, ⟨i, hi, hpi, rfl⟩ | ⟨hu3, rfl⟩⟩
            rotate_left 1
            · have hA3 := hA2.below gc
              have hno := no_of_w1 (inW1 (i := zeroN) (bad' := true) (q := q2.data.toList) hin (.inr ⟨_, hn2, .inr ⟨hu3, rfl⟩⟩))
              clear cI
              go_wp2_with (refine wpList_store_newH rfl 26 _ _ rfl Wc _ rfl zeroN.cells rfl rfl rfl (infoIdn zeroN) zeroN.one ?_)
              intro Uc gUc sUc bUc
              have hA4 := hA3.below gUc
              have hres := hA4.res
              clear sUc bUc
              go_wp2_with (refine wpList_store_row rfl 28 _ _ rfl w.heap.size (zeroR.cells (.slice none 0 0)).toArray rfl rfl 28 _ hres HNZ.out HZS.out HOZ.out ?_)
              refine bodyPost_ret (results_cell_tmp_mid Tryz.results11 _ _ w.heap.size 0 (zeroR.cells (.slice none 0 0)) _ rfl (range_setRow hres _) Tryz.underlying28 rfl HNZL.out) rfl ?_
              exact ⟨(hA4.done (Below.refl _ _) _).2.1, .inr ⟨hno, rfl⟩⟩
            · have hA3 := hA2.below gc
              have hw1 := inW1 (i := i) (bad' := false) (q := q2.data.toList) hin (.inr ⟨_, hn2, .inl ⟨hi, hpi, rfl⟩⟩)
              have HW1 := Lib.hid hw1
              have HN2 := Lib.hid hn2
              have HPI := Lib.hid hpi
              have hic4 : i.cells.length = 4 := rfl
              have nfi := infoIdn i
              have onei := i.one
              have hau := rec_au ⟨t, l, zeroN, zeroN, ⟨#[]⟩⟩ v h202t i
              have hl30 := Rec.len v ⟨t, l, zeroN, zeroN, ⟨#[]⟩⟩ h202t
              obtain ⟨c5, hc5⟩ : ∃ c, ((⟨t, l, zeroN, zeroN, ⟨#[]⟩⟩ : Rec).cells v) = c := ⟨_, rfl⟩
              obtain ⟨ic, hic⟩ : ∃ ic, i.cells = ic := ⟨_, rfl⟩
              rw [hc5] at hau hl30
              rw [hic] at hau hic4 nfi onei
              rw [hic]
              have hz4 : zeroN.cells.toArray.size = ic.length := by rw [hic4]; rfl
              clear cI hw1 hn2 hpi hic hin
              go_wp2_with (refine wpList_store_newH rfl 26 _ _ rfl Wc _ rfl ic rfl rfl hz4 nfi onei ?_)
              intro Uc gUc sUc bUc
              have hA4 := hA3.below gUc
              have hP1 : w.heap.size + 2 ≤ Wc.heap.size := hA3.below1
              have rI : Uc.rangeAt Wc.heap.size 0 ic := by have := range_row bUc; simpa using this
              have hbx : Uc.heap[w.heap.size + 1]? = some (.cells ((⟨t, l, zeroN, zeroN, ⟨#[]⟩⟩ : Rec).cells v).toArray 28 (0, 0)) := hA4.box
              rw [hc5] at hbx
              have hfit : 21 + ic.length ≤ c5.toArray.size := by rw [List.size_toArray, hl30, hic4]; decide
              have hau2 := hau
              rw [List.append_assoc] at hau2
              have hA5 := hA4.set (cs := (List.take 21 c5 ++ (ic ++ List.drop (21 + ic.length) c5)).toArray) ⟨t, l, i, zeroN, ⟨#[]⟩⟩ v (by rw [hau2]) hA4.own
              obtain ⟨V5, hV5⟩ : ∃ V5, Uc.setRow (w.heap.size + 1) (List.take 21 c5 ++ (ic ++ List.drop (21 + ic.length) c5)).toArray = V5 := ⟨_, rfl⟩
              rw [hV5] at hA5
              obtain ⟨P1, hP1e⟩ : ∃ P1, Wc.heap.size = P1 := ⟨_, rfl⟩
              have bV5 : V5.heap[P1]? = some (.cells ic.toArray 26 (0, 0)) := by rw [← hV5, ← hP1e]; exact (setRow_other _ _ _ _ (by omega)).trans bUc
              have hvP1 : v.ownBlock ≠ some P1 := fun e => by have := (hA3.own.lt _ e).2; omega
              rw [hP1e] at hP1
              have HI4 := Lib.hid hic4
              clear hic4 hau hau2 hl30 hc5 sUc bUc hA hA1 hA2 hA3 hA4
              have cL3 := ref_line ⟨#[99, 111, 109, 109, 105, 116, 116, 101, 114, 32]⟩ q2 V5 (by omega)
              go_wp2_with (first | (refine wpList_load_mid rfl 26 (.tmp 10) rfl _ 0 rfl ic _ rI Tryz.underlying26 rfl nfi ?_) | (refine wpList_store_G rfl 26 _ _ rfl _ 21 28 _ ic rfl rfl hbx hfit nfi onei ?_) | (go_at_call 28; with_reducible refine cL3.mono ?_))
              try rw [hP1e]
              rintro e4 Wd ⟨gd, ⟨hn3, rfl⟩ | ⟨vc, q3, hn3, hq3, rfl⟩⟩
              · have hA6 := hA5.below gd
                have bWd : Wd.heap[P1]? = some (.cells ic.toArray 26 (0, 0)) := (gd.block P1 (Array.getElem?_eq_some_iff.1 bV5).1).trans bV5
                have hno := no_of_w2 (inW2 (j := zeroN) (bad' := true) (q := q2.data.toList) HW1.out (.inl ⟨hn3, rfl⟩))
                have cI := ref06_Parse ⟨#[]⟩ Wd (by decide) (u8_grew hu hA6.grew)
                clear cL3 hbx rI hfit hV5
                go_wp2_with (go_at_call 30; with_reducible refine cI.mono ?_)
                rintro e5 We ⟨ge, hpn⟩
                obtain ⟨j, k, rfl⟩ : ∃ (i : Idn) (k : Int), e5 = .returned (.tuple #[.agg i.cells.toArray, .int .i64 k]) := by
                  rcases hpn with ⟨i, -, -, e⟩ | ⟨-, e⟩
                  · exact ⟨i, 0, e⟩
                  · exact ⟨zeroN, 4, e⟩
                have hA7 := hA6.below ge
                have bWe : We.heap[P1]? = some (.cells ic.toArray 26 (0, 0)) := (ge.block P1 (Array.getElem?_eq_some_iff.1 bWd).1).trans bWd
                have hA8 := hA7.far hP1 hvP1 j.cells.toArray
                have hres := hA8.res
                have nfj : (Tryz.prog.info? 26).map (·.size) = some j.cells.toArray.size := infoIdn' j
                have szj : ic.toArray.size = j.cells.toArray.size := by rw [List.size_toArray, HI4.out]; rfl
                clear cI hpn
                go_wp2_with (first | (refine wpList_store_row rfl 26 _ _ rfl P1 j.cells.toArray rfl rfl 26 _ bWe nfj szj (all_oneCell_toArray j.one) ?_) | (refine wpList_store_row rfl 28 _ _ rfl w.heap.size (zeroR.cells (.slice none 0 0)).toArray rfl rfl 28 _ hres HNZ.out HZS.out HOZ.out ?_))
                refine bodyPost_ret (results_cell_tmp_mid Tryz.results11 _ _ w.heap.size 0 (zeroR.cells (.slice none 0 0)) _ rfl (range_setRow hres _) Tryz.underlying28 rfl HNZL.out) rfl ?_
                exact ⟨(hA8.done (Below.refl _ _) _).2.1, .inr ⟨hno, rfl⟩⟩
              · have hA6 := hA5.below gd
                have bWd : Wd.heap[P1]? = some (.cells ic.toArray 26 (0, 0)) := (gd.block P1 (Array.getElem?_eq_some_iff.1 bV5).1).trans bV5
                have cI := ref06_Parse vc Wd (by omega) (u8_grew hu hA6.grew)
                clear cL3 hbx rI hfit hV5
                go_wp2_with (go_at_call 30; with_reducible refine cI.mono ?_)
                rintro e5 We ⟨ge, ⟨j, hj, hpj, rfl⟩ | ⟨hu5, rfl⟩⟩
                rotate_left 1
                · have hA7 := hA6.below ge
                  have bWe : We.heap[P1]? = some (.cells ic.toArray 26 (0, 0)) := (ge.block P1 (Array.getElem?_eq_some_iff.1 bWd).1).trans bWd
                  have hno := no_of_w2 (inW2 (j := zeroN) (bad' := true) (q := q3.data.toList) HW1.out (.inr ⟨_, hn3, .inr ⟨hu5, rfl⟩⟩))
                  have hA8 := hA7.far hP1 hvP1 zeroN.cells.toArray
                  have hres := hA8.res
                  have nfj : (Tryz.prog.info? 26).map (·.size) = some zeroN.cells.toArray.size := infoIdn' zeroN
                  have szj : ic.toArray.size = zeroN.cells.toArray.size := by rw [List.size_toArray, HI4.out]; rfl
                  clear cI
                  go_wp2_with (first | (refine wpList_store_row rfl 26 _ _ rfl P1 zeroN.cells.toArray rfl rfl 26 _ bWe nfj szj (all_oneCell_toArray zeroN.one) ?_) | (refine wpList_store_row rfl 28 _ _ rfl w.heap.size (zeroR.cells (.slice none 0 0)).toArray rfl rfl 28 _ hres HNZ.out HZS.out HOZ.out ?_))
                  refine bodyPost_ret (results_cell_tmp_mid Tryz.results11 _ _ w.heap.size 0 (zeroR.cells (.slice none 0 0)) _ rfl (range_setRow hres _) Tryz.underlying28 rfl HNZL.out) rfl ?_
                  exact ⟨(hA8.done (Below.refl _ _) _).2.1, .inr ⟨hno, rfl⟩⟩
                · have hA7 := hA6.below ge
                  have bWe : We.heap[P1]? = some (.cells ic.toArray 26 (0, 0)) := (ge.block P1 (Array.getElem?_eq_some_iff.1 bWd).1).trans bWd
                  have hw2 := inW2 (j := j) (bad' := false) (q := q3.data.toList) HW1.out (.inr ⟨_, hn3, .inl ⟨hj, hpj, rfl⟩⟩)
                  have HW2 := Lib.hid hw2
                  have HN3 := Lib.hid hn3
                  have HPJ := Lib.hid hpj
                  have nfj : (Tryz.prog.info? 26).map (·.size) = some j.cells.toArray.size := infoIdn' j
                  have szj : ic.toArray.size = j.cells.toArray.size := by rw [List.size_toArray, HI4.out]; rfl
                  have hA8 := hA7.far hP1 hvP1 j.cells.toArray
                  have bU := setRow_heap We P1 _ j.cells.toArray _ _ bWe
                  have cBg := fun W => help_Begins q3 ⟨#[10]⟩ W
                  rw [show (⟨#[10]⟩ : ByteArray).data.toList = [10] from rfl] at cBg
                  obtain ⟨hp, hhp⟩ : ∃ hp, Lib.hasPrefix q3.data.toList [10] = hp := ⟨_, rfl⟩
                  simp only [hhp] at cBg
                  have HHP := Lib.hid hhp
                  have onej := j.one
                  have hj4 : j.cells.length = 4 := rfl
                  have nfj2 := infoIdn j
                  have hco := rec_co ⟨t, l, i, zeroN, ⟨#[]⟩⟩ v h202t j
                  have hl30 := Rec.len v ⟨t, l, i, zeroN, ⟨#[]⟩⟩ h202t
                  obtain ⟨jc, hjc⟩ : ∃ jc, j.cells = jc := ⟨_, rfl⟩
                  rw [hjc] at nfj szj hA8 bU onej hj4 nfj2 hco
                  rw [hjc]
                  clear cI hw2 hn3 hpj hhp hjc
                  cases hp with
                  | false =>
                    have hno : ∀ r, ¬ GoodR b r := fun r hr => by
                      obtain ⟨-, -, -, -, -, h6⟩ := HW2.out r hr
                      have := HHP.out
                      rw [h6, hasP_10] at this
                      cases this
                    have hres := hA8.res
                    go_wp2_with (first | (refine wpList_store_row rfl 26 _ _ rfl P1 jc.toArray rfl rfl 26 _ bWe nfj szj (all_oneCell_toArray onej) ?_) | (go_at_call 31; with_reducible refine (cBg _).mono ?_; rintro e1 W1 ⟨rfl, h1⟩; subst W1) | (refine wpList_store_row rfl 28 _ _ rfl w.heap.size (zeroR.cells (.slice none 0 0)).toArray rfl rfl 28 _ hres HNZ.out HZS.out HOZ.out ?_))
                    refine bodyPost_ret (results_cell_tmp_mid Tryz.results11 _ _ w.heap.size 0 (zeroR.cells (.slice none 0 0)) _ rfl (range_setRow hres _) Tryz.underlying28 rfl HNZL.out) rfl ?_
                    exact ⟨(hA8.done (Below.refl _ _) _).2.1, .inr ⟨hno, rfl⟩⟩
                  | true =>
                    obtain ⟨U, hU⟩ : ∃ U, We.setRow P1 jc.toArray = U := ⟨_, rfl⟩
                    rw [hU] at hA8 bU
                    have gdr : Grew U U.drew := Below.drew (Below.refl _ _)
                    have hA8d := hA8.below gdr
                    have bUd : U.drew.heap[P1]? = some (.cells jc.toArray 26 (0, 0)) := bU
                    have hbx8 : U.drew.heap[w.heap.size + 1]? = some (.cells ((⟨t, l, i, zeroN, ⟨#[]⟩⟩ : Rec).cells v).toArray 28 (0, 0)) := hA8d.box
                    obtain ⟨c7, hc7⟩ : ∃ c, ((⟨t, l, i, zeroN, ⟨#[]⟩⟩ : Rec).cells v) = c := ⟨_, rfl⟩
                    rw [hc7] at hbx8 hco hl30
                    have hfit8 : 25 + jc.length ≤ c7.toArray.size := by rw [List.size_toArray, hl30, hj4]; decide
                    have hA9 := hA8d.set (cs := (c7.toArray.toList.take 25 ++ jc ++ c7.toArray.toList.drop (25 + jc.length)).toArray) ⟨t, l, i, j, ⟨#[]⟩⟩ v (by show (List.take 25 c7 ++ jc ++ List.drop (25 + jc.length) c7).toArray = _; rw [hco]) hA8d.own
                    obtain ⟨V9, hV9⟩ : ∃ V9, U.drew.setRow (w.heap.size + 1) (c7.toArray.toList.take 25 ++ jc ++ c7.toArray.toList.drop (25 + jc.length)).toArray = V9 := ⟨_, rfl⟩
                    have bV9 : V9.heap[P1]? = some (.cells jc.toArray 26 (0, 0)) := by rw [← hV9]; exact (setRow_other _ _ _ _ (by omega)).trans bUd
                    rw [hV9] at hA9
                    have hq3p := HHP.out
                    have hq3e : ∃ y, q3.data.toList = 10 :: y := ⟨Lib.trimPrefix q3.data.toList [10], by have := hasP_some hq3p; simpa using this⟩
                    obtain ⟨y, hy⟩ := hq3e
                    have hq3s : q3.data.toList.length = q3.size := Array.length_toList
                    have hq31 : (1 : Int) ≤ (q3.size : Int) := by rw [← hq3s, hy, List.length_cons]; omega
                    obtain ⟨X, hX⟩ : ∃ X, q3.extract 1 q3.size = X := ⟨_, rfl⟩
                    have hXl : q3.data.toList = 10 :: X.data.toList := by
                      rw [← hX, extract_list, ← hq3s, hy]
                      simp
                    have hXs : X.size ≤ b.length := by rw [← hX, ByteArray.size_extract]; omega
                    have hA10 := hA9.text' h202t X
                    have hfz9 := hA9.froz 29
                    have hc29 : V9.cell? ⟨w.heap.size + 1, 29, none⟩ = some (.string ⟨#[]⟩) := by
                      rw [cell_of_row V9 (w.heap.size + 1) 29 _ _ (0, 0) hA9.box]
                      have hl : (Lib.byteCells t ++ (v :: (i.cells ++ j.cells))).length = 29 := by rw [List.length_append, Lib.byteCells_length, h202t]; rfl
                      rw [List.getElem?_toArray, show (⟨t, l, i, j, ⟨#[]⟩⟩ : Rec).cells v = (Lib.byteCells t ++ (v :: (i.cells ++ j.cells))) ++ [.string ⟨#[]⟩] by unfold Rec.cells; simp, List.getElem?_append_right (by rw [hl]; exact Nat.le_refl _), hl]
                      rfl
                    have bT : (V9.setCell ⟨w.heap.size + 1, 29, none⟩ (.string X)).heap[P1]? = some (.cells jc.toArray 26 (0, 0)) := (heap_setCell_other _ ⟨w.heap.size + 1, 29, none⟩ _ _ (by show P1 ≠ w.heap.size + 1; omega)).trans bV9
                    have HXL := Lib.hid hXl
                    clear hXl hy hq3s hq3p hc7 hco hl30 hA8d hA8 hA7 hA6 hA5
                    go_wp2_with (first | (refine wpList_store_row rfl 26 _ _ rfl P1 jc.toArray rfl rfl 26 _ bWe nfj szj (all_oneCell_toArray onej) ?_) | (go_at_call 31; with_reducible refine (cBg _).mono ?_; rintro e1 W1 ⟨rfl, h1⟩; subst W1))
                    refine wp_region_held_drew (S := fun w' => w'.heap[P1]? = some (.cells jc.toArray 26 (0, 0))) (by kernel_rfl) (by assumption) (fun hHeld => ?_)
                    first
                      | (refine' wpAnyH_take (i := 0) (v := _) rfl (by kernel_rfl) (by kernel_rfl) (by kernel_rfl) (fun _ _ _ h => h) (yieldsIf_load_mid (by rfl) _ _ rfl _ _ rfl _ _ (fun w hSw => (by (have := range_row hSw; simpa using this))) Tryz.underlying26 rfl (by first | assumption | kernel_rfl)) (by assumption) ?_)
                      | fail
                    try simp only [Act.put, List.getElem_toArray, List.getElem_cons_succ, List.getElem_cons_zero, List.setIfInBounds_toArray, List.set_cons_zero, List.set_cons_succ]
                    first
                      | (refine wpAnyH_take (i := 1) (v := ?_) rfl (by kernel_rfl) (by kernel_rfl) (by kernel_rfl) (fun _ _ _ h => h) (Or.inl ⟨by rfl, ?_⟩) (by assumption) ?_; rotate_left 1; focus (intro w hSw; (try dsimp only at hSw); go_simp; (try with_reducible rfl)))
                      | fail
                    try simp only [Act.put, List.getElem_toArray, List.getElem_cons_succ, List.getElem_cons_zero, List.setIfInBounds_toArray, List.set_cons_zero, List.set_cons_succ]
                    first
                      | (refine wpAnyH_take (i := 2) (v := ?_) rfl (by kernel_rfl) (by kernel_rfl) (by kernel_rfl) (fun _ _ _ h => h) (Or.inl ⟨by rfl, ?_⟩) (by assumption) ?_; rotate_left 1; focus (intro w hSw; (try dsimp only at hSw); go_simp; (try with_reducible rfl)))
                      | fail
                    try simp only [Act.put, List.getElem_toArray, List.getElem_cons_succ, List.getElem_cons_zero, List.setIfInBounds_toArray, List.set_cons_zero, List.set_cons_succ]
                    first
                      | (refine wpAnyH_take (i := 3) (v := ?_) rfl (by kernel_rfl) (by kernel_rfl) (by kernel_rfl) (fun _ _ _ h => h) (Or.inl ⟨by rfl, ?_⟩) (by assumption) ?_; rotate_left 1; focus (intro w hSw; (try dsimp only at hSw); go_simp; (try with_reducible rfl)))
                      | fail
                    try simp only [Act.put, List.getElem_toArray, List.getElem_cons_succ, List.getElem_cons_zero, List.setIfInBounds_toArray, List.set_cons_zero, List.set_cons_succ]
                    refine wpAnyH_ready (rs := [4]) (by kernel_rfl) (by simp) ?_
                    refine AllReadyH.cons rfl (fun K hK => ?_) AllReadyH.nil
                    (refine stepStoreG rfl 26 _ _ rfl (w.heap.size + 1) 25 28 c7.toArray jc rfl rfl hbx8 hfit8 nfj2 onej ?_; rw [hV9])
                    refine hK.out _ _ (by assumption) (fun hHeld => ?_)
                    clear hK K
                    try simp only [Act.put, List.getElem_toArray, List.getElem_cons_succ, List.getElem_cons_zero, List.setIfInBounds_toArray, List.set_cons_zero, List.set_cons_succ]
                    first
                      | (refine wpAnyH_take (i := 5) (v := ?_) rfl (by kernel_rfl) (by kernel_rfl) (by kernel_rfl) (fun _ _ _ h => h) (Or.inl ⟨by rfl, ?_⟩) (by assumption) ?_; rotate_left 1; focus (intro w hSw; (try dsimp only at hSw); go_simp; (try with_reducible rfl)))
                      | fail
                    try simp only [Act.put, List.getElem_toArray, List.getElem_cons_succ, List.getElem_cons_zero, List.setIfInBounds_toArray, List.set_cons_zero, List.set_cons_succ]
                    refine wpAnyH_ready (rs := [6]) (by kernel_rfl) (by simp) ?_
                    refine AllReadyH.cons rfl (fun K hK => ?_) AllReadyH.nil
                    go_simp
                    skip
                    go_wp2_with fail
                    refine hK.out _ _ (by assumption) (fun hHeld => ?_)
                    clear hK K
                    try simp only [Act.put, List.getElem_toArray, List.getElem_cons_succ, List.getElem_cons_zero, List.setIfInBounds_toArray, List.set_cons_zero, List.set_cons_succ]
                    refine wpAnyH_done (by kernel_rfl) ?_ _
                    obtain ⟨W10, hW10⟩ : ∃ W10, V9.setCell ⟨w.heap.size + 1, 29, none⟩ (.string X) = W10 := ⟨_, rfl⟩
                    rw [hW10] at hA10 ⊢
                    have hok := hA10.own.1
                    obtain ⟨si1, si2⟩ := right_short (.inl hi)
                    obtain ⟨sj1, sj2⟩ := right_short (.inl hj)
                    have hfine : FineR ⟨t, l, i, j, X⟩ := ⟨h202t, hok, by show l.length ≤ _; omega, by show i.name.size ≤ _; omega, by show i.email.size ≤ _; omega, by show j.name.size ≤ _; omega, by show j.email.size ≤ _; omega, by show X.size ≤ _; omega⟩
                    obtain ⟨pp, cp, hv, hrd, hlc, -, -⟩ := hA10.own.val
                    have hv' : v = .slice pp l.length cp := hv
                    have cRr := ref_RightR pp cp ⟨t, l, i, j, X⟩ W10 hfine hlc hrd (u8_grew hu hA10.grew) (hm.grew hA10.grew)
                    change Calls _ _ #[.agg ((⟨t, l, i, j, X⟩ : Rec).cells (.slice pp l.length cp)).toArray] _ _ at cRr
                    rw [← hv'] at cRr
                    have rR : ∀ W, Grew W10 W → W.rangeAt (w.heap.size + 1) 0 ((⟨t, l, i, j, X⟩ : Rec).cells v) := fun W g => by have := range_row (show W.heap[w.heap.size + 1]? = _ from (hA10.below g).box); simpa using this
                    have nfR := infoRec v ⟨t, l, i, j, X⟩ h202t
                    have oneR := rec_one ⟨t, l, i, j, X⟩ v (by rw [hv']; rfl)
                    have hlR := Rec.len v ⟨t, l, i, j, X⟩ h202t
                    have hrR := rR W10 (Below.refl _ _)
                    obtain ⟨RC, hRC⟩ : ∃ RC, ((⟨t, l, i, j, X⟩ : Rec).cells v) = RC := ⟨_, rfl⟩
                    rw [hRC] at nfR hrR oneR hlR cRr
                    simp only [hRC] at rR
                    have HRC := Lib.hid hRC
                    have HOK := Lib.hid hok
                    obtain ⟨R, hR⟩ : ∃ R, rightR ⟨t, l, i, j, X⟩ = R := ⟨_, rfl⟩
                    simp only [hR] at cRr
                    have HRR := Lib.hid hR
                    clear hRC hv hrd hv' hok hfine hR hW10 bT bV9 hV9 hc29 hfz9 hU hHeld
                    go_wp2_with (first | (refine wpList_load_mid rfl 28 _ rfl (w.heap.size + 1) 0 rfl RC _ hrR Tryz.underlying28 rfl nfR ?_) | (go_at_call 13; with_reducible refine cRr.mono ?_))
                    intro e11 W11 he11 g11
                    subst he11
                    have hA11 := hA10.below g11
                    have hrR2 := rR W11 g11
                    have hres := hA11.res
                    cases R with
                    | false =>
                      have hno : ∀ r, ¬ GoodR b r := fun r hr => by
                        obtain ⟨-, e, -⟩ := inEnd (x := X) HW2.out (fun r h => ba_ext (by have := HXL.out; rw [h] at this; simpa using this)) r hr
                        have := hr.2.2.1
                        rw [e, HRR.out] at this
                        cases this
                      go_wp2_with (refine wpList_store_row rfl 28 _ _ rfl w.heap.size (zeroR.cells (.slice none 0 0)).toArray rfl rfl 28 _ hres HNZ.out HZS.out HOZ.out ?_)
                      refine bodyPost_ret (results_cell_tmp_mid Tryz.results11 _ _ w.heap.size 0 (zeroR.cells (.slice none 0 0)) _ rfl (range_setRow hres _) Tryz.underlying28 rfl HNZL.out) rfl ?_
                      exact ⟨(hA11.done (Below.refl _ _) _).2.1, .inr ⟨hno, rfl⟩⟩
                    | true =>
                      have hgood : GoodR b ⟨t, l, i, j, X⟩ := ⟨h202t, HOK.out, HRR.out, sound_end HSD.out HN2.out HPI.out (by have := HN3.out; rw [HXL.out] at this; exact this) HPJ.out rfl⟩
                      have hRC30 : Z.size = RC.toArray.size := by rw [HZS.out, List.size_toArray, List.size_toArray, hlR]; rfl
                      have nfR2 : (Tryz.prog.info? 28).map (·.size) = some RC.toArray.size := by rw [List.size_toArray]; exact nfR
                      go_wp2_with (first | (refine wpList_load_mid rfl 28 _ rfl (w.heap.size + 1) 0 rfl RC _ hrR2 Tryz.underlying28 rfl nfR ?_) | (refine wpList_store_row rfl 28 _ _ rfl w.heap.size RC.toArray rfl rfl 28 _ hres nfR2 hRC30 (all_oneCell_toArray oneR) ?_))
                      refine bodyPost_ret (results_cell_tmp_mid Tryz.results11 _ _ w.heap.size 0 RC _ rfl (range_setRow hres _) Tryz.underlying28 rfl nfR) rfl ?_
                      obtain ⟨-, k1, k2⟩ := hA11.done (Below.refl _ _) RC.toArray
                      exact ⟨k1, .inl ⟨_, v, hgood, by rw [HRC.out]; rfl, k2⟩⟩

end Go.Proofs.YtemojhcbhljemaaGreatDoor

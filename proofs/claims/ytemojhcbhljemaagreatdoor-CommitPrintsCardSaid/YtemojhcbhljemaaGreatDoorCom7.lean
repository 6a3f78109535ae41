/- commit.Parse. Conditions: at most 2^30 bytes; the library's tables are laid. -/
import Derived.Test.YtemojhcbhljemaaGreatDoorM5
import Derived.Test.YtemojhcbhljemaaGreatDoorLaw09b
import Derived.Test.YtemojhcbhljemaaGreatDoorStep
import Derived.Test.YtemojhcbhljemaaGreatDoorBytes
import Derived.Deep.RegionHeldLaw
import Derived.BigQuiet
namespace Go.Proofs.YtemojhcbhljemaaGreatDoor
set_option linter.unusedVariables false
set_option linter.unusedSimpArgs false
open Go.RowKit

abbrev zeroR : Rec := ⟨zeros20, [], zeroN, zeroN, ⟨#[]⟩⟩
/-- What Parse leaves. -/
def ParsePostR (b : List UInt8) (w : World) (e : Ending) (w' : World) : Prop := Grew w w' ∧
  ((∃ r v, GoodR b r ∧ e = .returned (.tuple #[.agg (r.cells v).toArray, .int .i64 0]) ∧ OwnG kId w' w.heap.size v r.par) ∨
   ((∀ r, ¬ GoodR b r) ∧ e = .returned (.tuple #[.agg (zeroR.cells (.slice none 0 0)).toArray, .int .i64 4])))

/-- Where Parse's own blocks lie: the result's box, the lines, the record. -/
structure ParseAt (w W : World) (Z : Array Value) (rest : ByteArray) (bad : Bool) (rc : Rec) (v : Value) : Prop where
  grew : Grew w W
  res : W.heap[w.heap.size]? = some (.cells Z 28 (0, 0))
  lines : LinesAt (w.heap.size + 1) W rest bad
  box : W.heap[w.heap.size + 2]? = some (.cells (rc.cells v).toArray 28 (0, 0))
  own : OwnG kId W (w.heap.size + 3) v rc.par
theorem ParseAt.below {w W X : World} {Z rest bad r v} (h : ParseAt w W Z rest bad r v) (k : Grew W X) : ParseAt w X Z rest bad r v :=
  ⟨h.grew.trans' k, (k.block _ (Array.getElem?_eq_some_iff.1 h.res).1).trans h.res, (k.block _ (Array.getElem?_eq_some_iff.1 h.lines).1).trans h.lines, (k.block _ (Array.getElem?_eq_some_iff.1 h.box).1).trans h.box, h.own.below k⟩
theorem ParseAt.lines' {w W X : World} {Z rest bad r v q b2} (h : ParseAt w W Z rest bad r v) (k : W.grownBy X (some (w.heap.size + 1))) (hl : LinesAt (w.heap.size + 1) X q b2) : ParseAt w X Z q b2 r v :=
  ⟨grew_of_grownBy h.grew k (by omega), (k.block _ (Array.getElem?_eq_some_iff.1 h.res).1 (fun e => by simp only [Option.some.injEq] at e; omega)).trans h.res, hl, (k.block _ (Array.getElem?_eq_some_iff.1 h.box).1 (fun e => by simp only [Option.some.injEq] at e; omega)).trans h.box, h.own.kept k (by
    rcases hv : v.ownBlock with _ | g
    · exact .inl rfl
    · exact .inr (fun e => by simp only [Option.some.injEq] at e; subst e; have := (h.own.lt _ hv).1; omega))⟩

theorem ParseAt.set {w W : World} {Z rest bad r v} (h : ParseAt w W Z rest bad r v) {cs : Array Value} (r' : Rec) (v' : Value) (e : cs = (r'.cells v').toArray) (ho : OwnG kId W (w.heap.size + 3) v' r'.par) : ParseAt w (W.setRow (w.heap.size + 1 + 1) cs) Z rest bad r' v' := by
  refine ⟨below_setRow h.grew (by omega) _, (setRow_other _ _ _ _ (by omega)).trans h.res, (setRow_other _ _ _ _ (by omega)).trans h.lines, ?_, ho.kept (grownBy_setRow W _ _) ?_⟩
  · rw [← e]; exact setRow_heap W _ _ cs _ _ h.box
  · rcases hv : v'.ownBlock with _ | g
    · exact .inl rfl
    · exact .inr (fun e => by simp only [Option.some.injEq] at e; subst e; have := (ho.lt _ hv).1; omega)
theorem rec_au (r : Rec) (v : Value) (h : r.tree.length = 20) (i : Idn) : ((r.cells v).take 21 ++ i.cells ++ (r.cells v).drop (21 + i.cells.length)) = (⟨r.tree, r.par, i, r.co, r.text⟩ : Rec).cells v := by
  have hl : (Lib.byteCells r.tree ++ [v]).length = 21 := by rw [List.length_append, Lib.byteCells_length, h]; rfl
  have e : r.cells v = (Lib.byteCells r.tree ++ [v]) ++ (r.au.cells ++ (r.co.cells ++ [.string r.text])) := by unfold Rec.cells; simp
  have e2 : (⟨r.tree, r.par, i, r.co, r.text⟩ : Rec).cells v = (Lib.byteCells r.tree ++ [v]) ++ (i.cells ++ (r.co.cells ++ [.string r.text])) := by unfold Rec.cells; simp
  rw [e, e2, List.take_left' hl, List.append_assoc, List.drop_append, List.drop_of_length_le (by rw [hl]; omega), hl, List.nil_append, show 21 + i.cells.length - 21 = r.au.cells.length by show 21 + 4 - 21 = 4; rfl, List.drop_left]
theorem rec_co (r : Rec) (v : Value) (h : r.tree.length = 20) (i : Idn) : ((r.cells v).take 25 ++ i.cells ++ (r.cells v).drop (25 + i.cells.length)) = (⟨r.tree, r.par, r.au, i, r.text⟩ : Rec).cells v := by
  have hl : (Lib.byteCells r.tree ++ (v :: r.au.cells)).length = 25 := by rw [List.length_append, Lib.byteCells_length, h]; rfl
  have e : r.cells v = (Lib.byteCells r.tree ++ (v :: r.au.cells)) ++ (r.co.cells ++ [.string r.text]) := by unfold Rec.cells; simp
  have e2 : (⟨r.tree, r.par, r.au, i, r.text⟩ : Rec).cells v = (Lib.byteCells r.tree ++ (v :: r.au.cells)) ++ (i.cells ++ [.string r.text]) := by unfold Rec.cells; simp
  rw [e, e2, List.take_left' hl, List.append_assoc, List.drop_append, List.drop_of_length_le (by rw [hl]; omega), hl, List.nil_append, show 25 + i.cells.length - 25 = r.co.cells.length by show 25 + 4 - 25 = 4; rfl, List.drop_left]
theorem rec_text (r : Rec) (v : Value) (h : r.tree.length = 20) (x : ByteArray) : (r.cells v).toArray.setIfInBounds 29 (.string x) = ((⟨r.tree, r.par, r.au, r.co, x⟩ : Rec).cells v).toArray := by
  have hl : (Lib.byteCells r.tree ++ (v :: (r.au.cells ++ r.co.cells))).length = 29 := by rw [List.length_append, Lib.byteCells_length, h]; rfl
  have e : r.cells v = (Lib.byteCells r.tree ++ (v :: (r.au.cells ++ r.co.cells))) ++ [.string r.text] := by unfold Rec.cells; simp
  have e2 : (⟨r.tree, r.par, r.au, r.co, x⟩ : Rec).cells v = (Lib.byteCells r.tree ++ (v :: (r.au.cells ++ r.co.cells))) ++ [.string x] := by unfold Rec.cells; simp
  apply Array.ext'
  rw [Array.toList_setIfInBounds]
  show (r.cells v).set 29 _ = _
  rw [e, e2, List.set_append_right _ _ (by rw [hl]; exact Nat.le_refl _), hl, Nat.sub_self, List.set_cons_zero]
theorem ParseAt.cell {w W : World} {Z rest bad r v} (h : ParseAt w W Z rest bad r v) (h20 : r.tree.length = 20) : W.cell? ⟨w.heap.size + 1 + 1, 20, none⟩ = some v := by
  rw [cell_of_row W (w.heap.size + 1 + 1) 20 _ _ (0, 0) h.box]; exact rec_at _ _ h20
theorem ParseAt.froz {w W : World} {Z rest bad r v} (h : ParseAt w W Z rest bad r v) (j : Nat) : W.frozen? ⟨w.heap.size + 1 + 1, j, none⟩ = false := by
  have hb : W.heap[w.heap.size + 1 + 1]? = _ := h.box
  simp [World.frozen?, hb]
/-- A parent more. -/
theorem ParseAt.append {w V W5 : World} {Z rest bad r v} (h : ParseAt w V Z rest bad r v) (h20 : r.tree.length = 20) (hb : Below (w.heap.size + 3) V W5) {v5 : Value} {x : List UInt8} (ho : OwnG kId W5 (w.heap.size + 3) v5 (r.par ++ [x])) :
    ParseAt w (W5.setCell ⟨w.heap.size + 1 + 1, 20, none⟩ v5) Z rest bad ⟨r.tree, r.par ++ [x], r.au, r.co, r.text⟩ v5 ∧ W5.frozen? ⟨w.heap.size + 1 + 1, 20, none⟩ = false ∧ W5.cell? ⟨w.heap.size + 1 + 1, 20, none⟩ = some v := by
  have hbx : W5.heap[w.heap.size + 1 + 1]? = some (.cells (r.cells v).toArray 28 (0, 0)) := (hb.block _ (by omega)).trans h.box
  have g5 : Grew w W5 := h.grew.trans (hb.mono (by omega))
  refine ⟨⟨g5.setCell (p := ⟨w.heap.size + 1 + 1, 20, none⟩) (by show w.heap.size ≤ w.heap.size + 1 + 1; omega) _, ?_, ?_, ?_, ho.set ⟨w.heap.size + 1 + 1, 20, none⟩ v5 (fun e => by have := (ho.lt _ e).1; simp at this; omega)⟩, by simp [World.frozen?, hbx], by rw [cell_of_row W5 (w.heap.size + 1 + 1) 20 _ _ (0, 0) hbx]; exact rec_at _ _ h20⟩
  · exact (heap_setCell_other _ ⟨w.heap.size + 1 + 1, 20, none⟩ _ _ (by first | (show _ ≠ _; simp; done) | (show _ ≠ _; simp; omega))).trans ((hb.block _ (by omega)).trans h.res)
  · exact (heap_setCell_other _ ⟨w.heap.size + 1 + 1, 20, none⟩ _ _ (by first | (show _ ≠ _; simp; done) | (show _ ≠ _; simp; omega))).trans ((hb.block _ (by omega)).trans h.lines)
  · have := set_cell_any W5 (w.heap.size + 1 + 1) 20 _ _ _ v5 hbx
    rw [rec_set _ _ _ h20] at this
    exact this
/-- The text. -/
theorem ParseAt.text' {w W : World} {Z rest bad r v} (h : ParseAt w W Z rest bad r v) (h20 : r.tree.length = 20) (x : ByteArray) :
    ParseAt w (W.setCell ⟨w.heap.size + 1 + 1, 29, none⟩ (.string x)) Z rest bad ⟨r.tree, r.par, r.au, r.co, x⟩ v := by
  have hbx : W.heap[w.heap.size + 1 + 1]? = some (.cells (r.cells v).toArray 28 (0, 0)) := h.box
  refine ⟨h.grew.setCell (p := ⟨w.heap.size + 1 + 1, 29, none⟩) (by show w.heap.size ≤ w.heap.size + 1 + 1; omega) _, ?_, ?_, ?_, h.own.set ⟨w.heap.size + 1 + 1, 29, none⟩ _ (fun e => by have := (h.own.lt _ e).1; simp at this; omega)⟩
  · exact (heap_setCell_other _ ⟨w.heap.size + 1 + 1, 29, none⟩ _ _ (by first | (show _ ≠ _; simp; done) | (show _ ≠ _; simp; omega))).trans h.res
  · exact (heap_setCell_other _ ⟨w.heap.size + 1 + 1, 29, none⟩ _ _ (by first | (show _ ≠ _; simp; done) | (show _ ≠ _; simp; omega))).trans h.lines
  · have := set_cell_any W (w.heap.size + 1 + 1) 29 _ _ _ (.string x) hbx
    rw [rec_text _ _ h20] at this
    exact this
/-- Another block of the call's own is turned. -/
theorem ParseAt.far {w W : World} {Z rest bad r v} (h : ParseAt w W Z rest bad r v) {k : Nat} (hk : w.heap.size + 3 ≤ k) (hne : v.ownBlock ≠ some k) (cs : Array Value) : ParseAt w (W.setRow k cs) Z rest bad r v :=
  ⟨below_setRow h.grew (by omega) _, (setRow_other _ _ _ _ (by omega)).trans h.res, (setRow_other _ _ _ _ (by omega)).trans h.lines, (setRow_other _ _ _ _ (by omega)).trans h.box, h.own.kept (grownBy_setRow W k cs) (.inr hne)⟩
/-- What stands at Parse's end, the result's box being turned. -/
theorem ParseAt.done {w W W2 : World} {Z rest bad r v} (h : ParseAt w W Z rest bad r v) (g : Grew W W2) (cs : Array Value) : W2.heap[w.heap.size]? = some (.cells Z 28 (0, 0)) ∧ Grew w (W2.setRow w.heap.size cs) ∧ OwnG kId (W2.setRow w.heap.size cs) w.heap.size v r.par := by
  have k := h.below g
  refine ⟨k.res, below_setRow k.grew (Nat.le_refl _) _, (k.own.base (by omega)).kept (grownBy_setRow _ _ _) ?_⟩
  rcases hv : v.ownBlock with _ | b
  · exact .inl rfl
  · exact .inr (fun e => by simp only [Option.some.injEq] at e; subst e; have := (k.own.lt _ hv).1; omega)
theorem trimP_10 (l : List UInt8) : Lib.trimPrefix (10 :: l) [10] = l := by simp [Lib.trimPrefix, Lib.hasPrefix]
theorem hasP_10 (l : List UInt8) : Lib.hasPrefix (10 :: l) [10] = true := by simp [Lib.hasPrefix]
theorem trimP_len (l p : List UInt8) : (Lib.trimPrefix l p).length ≤ l.length := by unfold Lib.trimPrefix; split <;> simp
/-- What is left to read. -/
def restLen (W : World) (g : Nat) : Nat := match W.cell? ⟨g, 0, none⟩ with | some (.string s) => s.size | _ => 0
theorem restLen_at {g : Nat} {W : World} {q : ByteArray} {bad : Bool} (h : LinesAt g W q bad) : restLen W g = q.size := by unfold restLen; rw [(lines_cells h).1]
def hasN : Value → Nat | .bool true => 1 | _ => 0

set_option maxRecDepth 100000 in
set_option maxHeartbeats 8000000 in
theorem commit_Parse (p : Option Addr) (cap : Nat) (b : List UInt8) (w : World) (hr : Rd w p b) (hs : b.length ≤ 1073741824) (hc : b.length ≤ cap) (hm : MaxOk w) (hu : U8Ok w) (ht : TabOk w) (he : ErrOk w) :
    Calls Tryz.prog 10 #[.slice p b.length cap] w (ParsePostR b w) := by
  have kconv : ∀ W, Grew w W → (convert 29 9 (.slice p b.length cap)).run Tryz.prog W = .ok (.string ⟨b.toArray⟩) W := fun W g => conv_string cap (hr.below g (Nat.le_refl _))
  have hz : (zeroR.cells (.slice none 0 0)).toArray = #[.int .u8 0, .int .u8 0, .int .u8 0, .int .u8 0, .int .u8 0, .int .u8 0, .int .u8 0, .int .u8 0, .int .u8 0, .int .u8 0, .int .u8 0, .int .u8 0, .int .u8 0, .int .u8 0, .int .u8 0, .int .u8 0, .int .u8 0, .int .u8 0, .int .u8 0, .int .u8 0, .slice none 0 0, .string ⟨#[]⟩, .string ⟨#[]⟩, .int .i64 0, .int .i64 0, .string ⟨#[]⟩, .string ⟨#[]⟩, .int .i64 0, .int .i64 0, .string ⟨#[]⟩] := rfl
  obtain ⟨Z, hZ⟩ : ∃ Z, (zeroR.cells (.slice none 0 0)).toArray = Z := ⟨_, rfl⟩
  obtain ⟨W0, hW0⟩ : ∃ W0, w.alloc (.cells Z 28) = W0 := ⟨_, rfl⟩
  have gw0 : Grew w W0 := by rw [← hW0]; exact (Below.refl w.heap.size w).alloc (Nat.le_refl _) _
  have k0 := kconv W0 gw0
  rw [← hW0, ← hZ, hz] at k0
  go_enter Tryz.func10, Tryz.ntmps10
  have hsz0 : W0.heap.size = w.heap.size + 1 := by rw [← hW0]; simp
  obtain ⟨V, hV⟩ : ∃ V, ((w.alloc (.cells Z 28)).alloc (.cells #[.string ⟨b.toArray⟩, .bool false] 56)).alloc (.cells Z 28) = V := ⟨_, rfl⟩
  have hlV : LinesAt (w.heap.size + 1) V ⟨b.toArray⟩ false := by
    rw [← hV, hW0, ← hsz0]
    exact (heap_alloc_old _ _ (by simp)).trans (heap_alloc_new _ _)
  have hA : ParseAt w V Z ⟨b.toArray⟩ false zeroR (.slice none 0 0) := by
    have gV : Grew W0 V := by rw [← hV, hW0]; exact ((Below.refl _ _).alloc (Nat.le_refl _) _).alloc (by simp) _
    refine ⟨gw0.trans' gV, (gV.block _ (by omega)).trans (by rw [← hW0]; exact heap_alloc_new _ _), hlV, ?_, OwnG.nil _ _ _⟩
    rw [← hV, hZ, show w.heap.size + 2 = ((w.alloc (.cells Z 28)).alloc (.cells #[.string ⟨b.toArray⟩, .bool false] 56)).heap.size by simp]
    exact heap_alloc_new _ _
  have cT := (lines_id (w.heap.size + 1) ⟨#[116, 114, 101, 101, 32]⟩ ⟨b.toArray⟩ false V hlV (by show b.toArray.size ≤ _; simp; omega) (hm.grew hA.grew)).mono (fun _ _ h => lineId1 h)
  rw [← hV, ← hZ, hz] at cT
  go_wp2_with (go_at_call 24; with_reducible refine cT.mono ?_)
  rw [← hz, hZ, hV]
  rintro e1 W1 ⟨g1, t, is, bad, q, h20, rfl, hl1, hq, hq2, hways⟩
  have hA1 := hA.lines' g1 hl1
  have nfx : (Tryz.prog.info? 23).map (·.size) = some (Lib.byteCells t).length := infoId' h20
  have one1 := one_bytes' t
  have h22 : (Lib.byteCells t).length = 20 := by rw [Lib.byteCells_length]; exact h20
  go_wp2_with (refine wpList_store_new rfl 23 _ _ rfl W1 _ rfl (Lib.byteCells t) rfl rfl h22.symm nfx one1 ?_)
  intro U gU gUU rU fU sU
  have hA2 := hA1.below gU
  have rU0 := rU U gUU
  have hbx : U.heap[w.heap.size + 1 + 1]? = _ := hA2.box
  go_wp2_with (first | (refine wpList_load_mid rfl 23 _ rfl _ _ rfl (Lib.byteCells t) _ rU0 Tryz.underlying23 rfl nfx ?_) | (refine wpList_store_G rfl 23 _ _ rfl _ 0 28 _ (Lib.byteCells t) rfl rfl hbx (by rw [h22]; decide +kernel) nfx one1 ?_))
  have hA3 := hA2.set (cs := (Lib.byteCells t ++ List.drop 20 (zeroR.cells (.slice none 0 0))).toArray) ⟨t, [], zeroN, zeroN, ⟨#[]⟩⟩ (.slice none 0 0) rfl (OwnG.nil _ _ _)
  obtain ⟨V3, hV3⟩ : ∃ V3, U.setRow (w.heap.size + 1 + 1) (Lib.byteCells t ++ List.drop 20 (zeroR.cells (.slice none 0 0))).toArray = V3 := ⟨_, rfl⟩
  rw [hV3] at hA3
  have hqb : q.size ≤ b.length := by have : (⟨b.toArray⟩ : ByteArray).size = b.length := by show b.toArray.size = _; simp
                                     omega
  have cP := (lines_id (w.heap.size + 1) ⟨#[112, 97, 114, 101, 110, 116, 32]⟩ q bad V3 hA3.lines (by omega) (hm.grew hA3.grew)).mono (fun _ _ h => lineId1 h)
  rw [hV3]
  go_wp2_with (go_at_call 24; with_reducible refine cP.mono ?_)
  rintro e2 W2 ⟨g2, t2, is2, bad2, q2, h202, rfl, hl2, hqq, hqq2, hways2⟩
  have hA4 := hA3.lines' g2 hl2
  have nfx2 : (Tryz.prog.info? 23).map (·.size) = some (Lib.byteCells t2).length := infoId' h202
  have one2 := one_bytes' t2
  have h222 : (Lib.byteCells t2).length = 20 := by rw [Lib.byteCells_length]; exact h202
  go_wp2_with (refine wpList_store_newH rfl 23 _ _ rfl W2 _ rfl (Lib.byteCells t2) rfl rfl h222.symm nfx2 one2 ?_)
  intro U2 gU2 sU2 bU2
  have hA5 := hA4.below gU2
  have hD1 : LineD treeT b false t is bad q.data.toList := lineD_of (word := ⟨#[116, 114, 101, 101, 32]⟩) (rest := ⟨b.toArray⟩) hways
  have hD2 : LineD parT q.data.toList bad t2 is2 bad2 q2.data.toList := lineD_of (word := ⟨#[112, 97, 114, 101, 110, 116, 32]⟩) hways2
  obtain ⟨his, hin0⟩ := inA_start hD1
  have hin := inL_of hin0 hD2
  have hP2 : w.heap.size + 3 ≤ W2.heap.size := (Array.getElem?_eq_some_iff.1 hA4.box).1
  obtain ⟨P0, hP0⟩ : ∃ P0, W2.heap.size = P0 := ⟨_, rfl⟩
  rw [hP0] at hP2 bU2
  try rw [hP0]
  have HIS := Lib.hid his
  have hlen2 : (if is2 = true then 1 else 0) + q2.size ≤ b.length := by
    cases is2
    · simp; omega
    · have := hqq2 rfl; simp; omega
  have h202t : t.length = 20 := h20
  clear his hin0 hD1 hD2 hways hways2 hA hA1 hA2 hA3 hA4 hlV g1 g2 gU gU2 hl1 hl2 cT cP hq hq2 hqq hqq2 hV3 hbx rU0 rU gUU fU sU sU2 hP0 one1 one2 h22 h222 nfx nfx2 k0 kconv hW0 gw0 hsz0 hV hz
  go_wp2_with fail
  go_loopw [8, 9] (fun pv hv wr => ∃ (P : Nat) (l : List (List UInt8)) (v : Value) (q : ByteArray) (bad has : Bool) (x : List UInt8), .pointer (some ⟨P, 0, none⟩) = pv ∧ .bool has = hv ∧ x.length = 20 ∧ ParseAt w wr Z q bad ⟨t, l, zeroN, zeroN, ⟨#[]⟩⟩ v ∧ w.heap.size + 3 ≤ P ∧ v.ownBlock ≠ some P ∧ wr.heap[P]? = some (.cells (Lib.byteCells x).toArray 23 (0, 0)) ∧ l.length + ((if has = true then 1 else 0) + q.size) ≤ b.length ∧ Hid (InL b t l x has bad q.data.toList)) (fun _ hv wr => 2 * restLen wr (w.heap.size + 1) + hasN hv)
  case atStart => exact ⟨P0, [], _, q2, bad2, is2, t2, rfl, rfl, h202, hA5, hP2, by simp [Value.ownBlock], bU2, by simpa using hlen2, Lib.hid hin⟩
  case round =>
    obtain ⟨P, l, v, q3, bad3, has, x, rfl, rfl, hx20, hA, hP3, hvP, hPb, hlen, hin3⟩ := hrel
    clear hA5 bU2 hlen2 hin hP2
    cases has with
    | true =>
      have nfx : (Tryz.prog.info? 23).map (·.size) = some (Lib.byteCells x).length := infoId' hx20
      have one1 := one_bytes' x
      have h22 : (Lib.byteCells x).length = 20 := by rw [Lib.byteCells_length]; exact hx20
      have H22 := Lib.hid h22
      have hx0 := hA.cell h202t
      have hPlt : P < wr.heap.size := (Array.getElem?_eq_some_iff.1 hPb).1
      have rx : wr.rangeAt P 0 (Lib.byteCells x) := by have := range_row hPb; simpa using this
      have ks : ∀ W, (Instr.buildSlice 24 1 #[(0, .agg (Lib.byteCells x).toArray)]).run Tryz.prog W = .ok (.slice (some ⟨W.heap.size, 0, none⟩) 1 1) (W.alloc (.cells (Lib.byteCells x).toArray 23)) := fun W => run_slice_G kId x hx20 W
      obtain ⟨V, hV, gV, gVV, rV⟩ := boxedG kId wr x
      have hAV := hA.below gV
      have hPV : V.heap[P]? = some (.cells (Lib.byteCells x).toArray 23 (0, 0)) := (gV.block P hPlt).trans hPb
      have hbV : w.heap.size + 3 ≤ V.heap.size := Nat.le_trans (Array.getElem?_eq_some_iff.1 hA.box).1 gV.size
      have rVV := rV V gVV
      have hoV := hAV.own
      have HAV := Lib.hid hAV
      change wr.alloc (.cells (Lib.byteCells x).toArray 23) = V at hV
      have hPVlt : P < V.heap.size := Nat.lt_of_lt_of_le hPlt gV.size
      have HPV := Lib.hid hPV
      have HOV := Lib.hid hoV
      have HRV := Lib.hid rVV
      rw [← hV] at HAV HPV HOV HRV hbV hPVlt
      clear h22 hAV hoV rVV hPV rV gVV hV
      go_wp2_with (refine wpList_load_mid rfl 23 (.tmp 8) rfl P 0 rfl (Lib.byteCells x) _ rx Tryz.underlying23 rfl nfx ?_; refine wpListExec rfl _ _ (execBuildSlice 24 1 [(0, .tmp 38)] rfl _ (ks _)) ?_; refine wpList_append_G kId rfl _ _ rfl (w.heap.size + 3) v l x wr.heap.size rfl rfl HOV.out hx20 HRV.out hbV (by omega) ?_)
      intro v5 W5 hown5 hb5 hg5
      have hP5 : W5.heap[P]? = some (.cells (Lib.byteCells x).toArray 23 (0, 0)) := (hg5.block P hPVlt (fun e => hvP e.symm)).trans HPV.out
      obtain ⟨hA6, hfz, hc5⟩ := HAV.out.append h202t hb5 hown5
      obtain ⟨p5, c5, hv5, -⟩ := hown5.val
      obtain ⟨n5, hn5⟩ : ∃ n, (l ++ [x]).length = n := ⟨_, rfl⟩
      rw [hn5] at hv5
      subst hv5
      have hP6 : (W5.setCell ⟨w.heap.size + 1 + 1, 20, none⟩ (.slice p5 n5 c5)).heap[P]? = some (.cells (Lib.byteCells x).toArray 23 (0, 0)) := (heap_setCell_other _ ⟨w.heap.size + 1 + 1, 20, none⟩ _ _ (by show P ≠ w.heap.size + 1 + 1; omega)).trans hP5
      have rx6 : (W5.setCell ⟨w.heap.size + 1 + 1, 20, none⟩ (.slice p5 n5 c5)).rangeAt P 0 (Lib.byteCells x) := by have := range_row hP6; simpa using this
      have hb6 : w.heap.size + 3 ≤ (W5.setCell ⟨w.heap.size + 1 + 1, 20, none⟩ (.slice p5 n5 c5)).heap.size := Nat.le_trans hbV (by have := hb5.size; simpa using this)
      have HA6 := Lib.hid hA6
      have HQ := Lib.hid hin3
      have HN5 := Lib.hid hn5
      have HAw := Lib.hid hA
      have HLEN := Lib.hid hlen
      clear HAV HPV HOV HRV hP5 hP6 hb5 hg5 hown5 hA6 hin3 hn5 hA hlen rx hx0 gV ks hPb hvP hPVlt hbV
      obtain ⟨W6, hW6⟩ : ∃ W6, W5.setCell ⟨w.heap.size + 1 + 1, 20, none⟩ (.slice p5 n5 c5) = W6 := ⟨_, rfl⟩
      have hs6 : W5.heap.size = W6.heap.size := by rw [← hW6]; simp
      have h22 : (Lib.byteCells x).length = 20 := H22.out
      rw [hW6] at HA6 hb6 rx6
      go_wp2_with (first | (refine wpList_load_mid rfl 23 (.tmp 8) rfl P 0 rfl (Lib.byteCells x) _ rx6 Tryz.underlying23 rfl nfx ?_) | (refine wpList_store_newH rfl 23 _ _ rfl W6 _ rfl (Lib.byteCells x) (by first | rfl | (rw [← hs6]; rfl)) rfl h22.symm nfx one1 ?_))
      intro U6 gU6 sU6 bU6
      try rw [hs6]
      have hAU := HA6.out.below gU6
      have hlen := HLEN.out
      simp only [if_true] at hlen
      have cP := (lines_id (w.heap.size + 1) ⟨#[112, 97, 114, 101, 110, 116, 32]⟩ q3 bad3 U6 hAU.lines (by omega) (hm.grew hAU.grew)).mono (fun _ _ h => lineId1 h)
      clear rx6
      go_wp2_with (go_at_call 24; with_reducible refine cP.mono ?_)
      rintro e7 W7 ⟨g7, t7, is7, bad7, q7, h207, rfl, hl7, hq7, hqq7, hways7⟩
      have hA7 := hAU.lines' g7 hl7
      have hD7 : LineD parT q3.data.toList bad3 t7 is7 bad7 q7.data.toList := lineD_of (word := ⟨#[112, 97, 114, 101, 110, 116, 32]⟩) hways7
      have hin7 := inL_of (inL_next HQ.out) hD7
      have hP7 : W7.heap[W6.heap.size]? = some (.cells (Lib.byteCells x).toArray 23 (0, 0)) := (g7.block _ (by omega) (fun e => by simp only [Option.some.injEq] at e; omega)).trans bU6
      have nf7 : (Tryz.prog.info? 23).map (·.size) = some (Lib.byteCells t7).toArray.size := infoId'' h207
      have hs7 : (Lib.byteCells x).toArray.size = (Lib.byteCells t7).toArray.size := by rw [List.size_toArray, List.size_toArray, H22.out, Lib.byteCells_length]; exact h207.symm
      clear cP hways7
      go_wp2_with (refine wpList_store_row rfl 23 _ _ rfl W6.heap.size (Lib.byteCells t7).toArray rfl rfl 23 _ hP7 nf7 hs7 (one_bytes _) ?_)
      have hno : (Value.slice p5 n5 c5).ownBlock ≠ some W6.heap.size := fun e => by have := (HA6.out.own.lt _ e).2; omega
      have hA8 := hA7.far hb6 hno (Lib.byteCells t7).toArray
      have hP8 := setRow_heap W7 W6.heap.size _ (Lib.byteCells t7).toArray _ _ hP7
      have hm1 := restLen_at hA8.lines
      have hm2 := restLen_at HAw.out.lines
      go_roundw
      case rel =>
        refine ⟨W6.heap.size, l ++ [x], _, q7, bad7, is7, t7, rfl, rfl, h207, hA8, hb6, hno, hP8, ?_, Lib.hid hin7⟩
        rw [List.length_append, List.length_singleton]
        cases is7
        · simp; omega
        · have := hqq7 rfl; simp; omega
      case measure =>
        rw [hm1, hm2]
        cases is7
        · simp only [hasN]; omega
        · have := hqq7 rfl; simp only [hasN]; omega
    | false =>
      have HQ := Lib.hid hin3
      have hlen' : l.length + q3.size ≤ b.length := by simpa using hlen
      clear hlen hPb hvP hP3 hin3 hx20
      have cA := (lines_who (w.heap.size + 1) ⟨#[97, 117, 116, 104, 111, 114, 32]⟩ q3 bad3 w wr hA.grew (by omega) hA.lines (by omega) hm hu ht he).mono (fun _ _ h => who1 h)
      go_wp2_with (go_at_call 25; with_reducible refine cA.mono ?_)
      rintro e5 W5 ⟨g5, i, bad5, q5, hi5, rfl, hl5, hq5, hd5⟩
      have hA5 := hA.lines' g5 hl5
      have hin5 := inW1 (b := b) (t := t) (l := l) HQ.out hd5
      have hic4 : i.cells.length = 4 := rfl
      have nfi := infoIdn i
      have onei := i.one
      have hau := rec_au ⟨t, l, zeroN, zeroN, ⟨#[]⟩⟩ v h202t i
      have hl30 := Rec.len v ⟨t, l, zeroN, zeroN, ⟨#[]⟩⟩ h202t
      have hbx5 : W5.heap[w.heap.size + 1 + 1]? = some (.cells ((⟨t, l, zeroN, zeroN, ⟨#[]⟩⟩ : Rec).cells v).toArray 28 (0, 0)) := hA5.box
      obtain ⟨c5, hc5⟩ : ∃ c, ((⟨t, l, zeroN, zeroN, ⟨#[]⟩⟩ : Rec).cells v) = c := ⟨_, rfl⟩
      obtain ⟨ic, hic⟩ : ∃ ic, i.cells = ic := ⟨_, rfl⟩
      rw [hc5] at hbx5 hau hl30
      rw [hic] at hau hic4 nfi onei
      rw [hic]
      have hfit : 21 + ic.length ≤ c5.toArray.size := by rw [List.size_toArray, hl30, hic4]; decide
      have HAU := Lib.hid hau
      have HA5 := Lib.hid hA5
      have HIC := Lib.hid hic4
      clear hc5 hic hic4 hau hl30 hA5 hA cA hl5 g5
      go_wp2_with (refine wpList_store_G rfl 26 _ _ rfl _ 21 28 _ ic rfl rfl hbx5 hfit nfi onei ?_)
      have hau2 := HAU.out
      rw [List.append_assoc] at hau2
      have hA6 := HA5.out.set (cs := (List.take 21 c5 ++ (ic ++ List.drop (21 + ic.length) c5)).toArray) ⟨t, l, i, zeroN, ⟨#[]⟩⟩ v (by rw [hau2]) HA5.out.own
      obtain ⟨W6, hW6⟩ : ∃ W6, W5.setRow (w.heap.size + 1 + 1) (List.take 21 c5 ++ (ic ++ List.drop (21 + ic.length) c5)).toArray = W6 := ⟨_, rfl⟩
      rw [hW6] at hA6 ⊢
      have HIN5 := Lib.hid hin5
      clear hau2 HAU HA5 hW6 hbx5 hfit nfi onei HIC hin5 hd5
      have cC := (lines_who (w.heap.size + 1) ⟨#[99, 111, 109, 109, 105, 116, 116, 101, 114, 32]⟩ q5 bad5 w W6 hA6.grew (by omega) hA6.lines (by omega) hm hu ht he).mono (fun _ _ h => who1 h)
      go_fit cC
      rintro e7 W7 ⟨g7, j, bad7, q7, hj7, rfl, hl7, hq7, hd7⟩
      have hA7 := hA6.lines' g7 hl7
      have hin7 := inW2 (b := b) HIN5.out hd7
      have hic4 : j.cells.length = 4 := rfl
      have nfi := infoIdn j
      have onei := j.one
      have hau := rec_co ⟨t, l, i, zeroN, ⟨#[]⟩⟩ v h202t j
      have hl30 := Rec.len v ⟨t, l, i, zeroN, ⟨#[]⟩⟩ h202t
      have hbx7 : W7.heap[w.heap.size + 1 + 1]? = some (.cells ((⟨t, l, i, zeroN, ⟨#[]⟩⟩ : Rec).cells v).toArray 28 (0, 0)) := hA7.box
      obtain ⟨c7, hc7⟩ : ∃ c, ((⟨t, l, i, zeroN, ⟨#[]⟩⟩ : Rec).cells v) = c := ⟨_, rfl⟩
      obtain ⟨jc, hjc⟩ : ∃ jc, j.cells = jc := ⟨_, rfl⟩
      rw [hc7] at hbx7 hau hl30
      rw [hjc] at hau hic4 nfi onei
      rw [hjc]
      have hfit : 25 + jc.length ≤ c7.toArray.size := by rw [List.size_toArray, hl30, hic4]; decide
      have hau2 := hau
      rw [List.append_assoc] at hau2
      have hA8 := hA7.set (cs := (List.take 25 c7 ++ (jc ++ List.drop (25 + jc.length) c7)).toArray) ⟨t, l, i, j, ⟨#[]⟩⟩ v (by rw [hau2]) hA7.own
      obtain ⟨W8, hW8⟩ : ∃ W8, W7.setRow (w.heap.size + 1 + 1) (List.take 25 c7 ++ (jc ++ List.drop (25 + jc.length) c7)).toArray = W8 := ⟨_, rfl⟩
      rw [hW8] at hA8
      have hln := (lines_cells hA8.lines).1
      have hlb := (lines_cells hA8.lines).2
      have hfz := hA8.froz 29
      obtain ⟨X, hX⟩ : ∃ X : ByteArray, (⟨(Lib.trimPrefix q7.data.toList [10]).toArray⟩ : ByteArray) = X := ⟨_, rfl⟩
      obtain ⟨hp, hhp⟩ : ∃ hp, Lib.hasPrefix q7.data.toList [10] = hp := ⟨_, rfl⟩
      have cX := Tryz.strings_CutPrefix q7 ⟨#[10]⟩ W8
      simp only [show (⟨#[10]⟩ : ByteArray).data.toList = [10] from rfl, hX, hhp] at cX
      have hA9 := hA8.text' h202t X
      have hc29 : W8.cell? ⟨w.heap.size + 1 + 1, 29, none⟩ = some (.string ⟨#[]⟩) := by
        rw [cell_of_row W8 (w.heap.size + 1 + 1) 29 _ _ (0, 0) hA8.box]
        have hl : (Lib.byteCells t ++ (v :: (i.cells ++ j.cells))).length = 29 := by rw [List.length_append, Lib.byteCells_length, h202t]; rfl
        rw [List.getElem?_toArray, show (⟨t, l, i, j, ⟨#[]⟩⟩ : Rec).cells v = (Lib.byteCells t ++ (v :: (i.cells ++ j.cells))) ++ [.string ⟨#[]⟩] by unfold Rec.cells; simp, List.getElem?_append_right (by rw [hl]; exact Nat.le_refl _), hl]
        rfl
      have HIN7 := Lib.hid hin7
      have HX := Lib.hid hX
      have HHP := Lib.hid hhp
      clear hc7 hjc hic4 hau hau2 hl30 hA7 hA6 cC hl7 g7 hin7 hd7 HIN5
      go_wp2_with (refine wpList_store_G rfl 26 _ _ rfl _ 25 28 _ jc rfl rfl hbx7 hfit nfi onei ?_)
      go_fit cX
      rintro e9 Wx ⟨rfl, rfl⟩
      obtain ⟨W9, hW9⟩ : ∃ W9, Wx.setCell ⟨w.heap.size + 1 + 1, 29, none⟩ (.string X) = W9 := ⟨_, rfl⟩
      rw [hW9] at hA9
      have hXs : X.size ≤ b.length := by
        rw [← HX.out]
        have h1 := trimP_len q7.data.toList [10]
        have h2 : q7.data.toList.length = q7.size := Array.length_toList
        show (Lib.trimPrefix q7.data.toList [10]).toArray.size ≤ _
        rw [List.size_toArray]
        omega
      have hend : ∀ r, GoodR b r → is = true ∧ hp = true ∧ bad7 = false ∧ r = ⟨t, l, i, j, X⟩ := by
        intro r hr
        obtain ⟨k1, k2, q, k3⟩ := inEnd (x := X) HIN7.out (fun r h => ba_ext (by rw [← HX.out, h, trimP_10])) r hr
        exact ⟨HIS.out r hr, by rw [← HHP.out, k3, hasP_10], k1, k2⟩
      have HEND := Lib.hid hend
      obtain ⟨si1, si2⟩ := right_short hi5
      obtain ⟨sj1, sj2⟩ := right_short hj7
      have hok := hA9.own.1
      have hfine : FineR ⟨t, l, i, j, X⟩ := ⟨h202t, hok, by show l.length ≤ _; omega, by show i.name.size ≤ _; omega, by show i.email.size ≤ _; omega, by show j.name.size ≤ _; omega, by show j.email.size ≤ _; omega, by show X.size ≤ _; omega⟩
      obtain ⟨pp, cp, hv, hrd, hlc, -, -⟩ := hA9.own.val
      have hv' : v = .slice pp l.length cp := hv
      have cPr := commit_Print pp cp ⟨t, l, i, j, X⟩ W9 hfine hlc hrd (u8_grew hu hA9.grew) (hm.grew hA9.grew) (ht.grew hA9.grew)
      have rR : ∀ W, Grew W9 W → W.rangeAt (w.heap.size + 1 + 1) 0 ((⟨t, l, i, j, X⟩ : Rec).cells v) := fun W g => by have := range_row (show W.heap[w.heap.size + 1 + 1]? = _ from (hA9.below g).box); simpa using this
      have nfR := infoRec v ⟨t, l, i, j, X⟩ h202t
      have oneR := rec_one ⟨t, l, i, j, X⟩ v (by rw [hv']; rfl)
      have hlR := Rec.len v ⟨t, l, i, j, X⟩ h202t
      change Calls _ _ #[.agg ((⟨t, l, i, j, X⟩ : Rec).cells (.slice pp l.length cp)).toArray] _ _ at cPr
      rw [← hv'] at cPr
      have hZs : Z.size = 30 := by rw [← hZ, List.size_toArray]; rfl
      have hnz : (Tryz.prog.info? 28).map (·.size) = some (zeroR.cells (.slice none 0 0)).toArray.size := by rw [List.size_toArray]; exact infoRec _ _ rfl
      have HNZ := Lib.hid hnz
      have HNZL := Lib.hid (infoRec (.slice none 0 0) zeroR rfl)
      have HZS := Lib.hid (show Z.size = (zeroR.cells (.slice none 0 0)).toArray.size by rw [hZs, List.size_toArray]; rfl)
      have HOZ := Lib.hid (all_oneCell_toArray (rec_one zeroR (.slice none 0 0) rfl))
      have HPR := Lib.hid hr
      have hrR := rR W9 (Below.refl _ _)
      obtain ⟨RC, hRC⟩ : ∃ RC, ((⟨t, l, i, j, X⟩ : Rec).cells v) = RC := ⟨_, rfl⟩
      rw [hRC] at nfR hrR oneR hlR cPr
      simp only [hRC] at rR
      have HRC := Lib.hid hRC
      have HOK := Lib.hid hok
      clear cX hln hlb HX HHP HIN7 hW8 hRC hv hrd hv' hnz hok hend hfine hXs si1 si2 sj1 sj2 hZ HIS HQ
      go_wp2_with (first | (refine wpList_load_mid rfl 28 _ rfl (w.heap.size + 1 + 1) 0 rfl RC _ hrR Tryz.underlying28 rfl nfR ?_) | (go_at_call 8; with_reducible refine cPr.mono ?_))
      rintro e10 W10 ⟨g10, hpr⟩
      have hres := (hA9.done g10 #[]).1
      rcases (by cases is <;> cases hp <;> cases bad7 <;> simp : is = false ∨ (is = true ∧ hp = false) ∨ (is = true ∧ hp = true ∧ bad7 = true) ∨ (is = true ∧ hp = true ∧ bad7 = false)) with rfl | ⟨rfl, rfl⟩ | ⟨rfl, rfl, rfl⟩ | ⟨rfl, rfl, rfl⟩
      · have hno : ∀ r, ¬ GoodR b r := fun r hr => by have := HEND.out r hr; simp at this
        obtain ⟨x, k, rfl⟩ : ∃ x k, e10 = .returned (.tuple #[x, .int .i64 k]) := by rcases hpr with ⟨-, h⟩ | ⟨-, v, h, -⟩ <;> exact ⟨_, _, h⟩
        clear hpr
        go_wp2_with (refine wpList_store_row rfl 28 _ _ rfl w.heap.size (zeroR.cells (.slice none 0 0)).toArray rfl rfl 28 _ hres HNZ.out HZS.out HOZ.out ?_)
        refine bodyPost_ret (results_cell_tmp_mid Tryz.results10 _ _ w.heap.size 0 (zeroR.cells (.slice none 0 0)) _ rfl (range_setRow hres _) Tryz.underlying28 rfl HNZL.out) rfl ?_
        exact ⟨(hA9.done g10 _).2.1, .inr ⟨hno, rfl⟩⟩
      · have hno : ∀ r, ¬ GoodR b r := fun r hr => by have := HEND.out r hr; simp at this
        obtain ⟨x, k, rfl⟩ : ∃ x k, e10 = .returned (.tuple #[x, .int .i64 k]) := by rcases hpr with ⟨-, h⟩ | ⟨-, v, h, -⟩ <;> exact ⟨_, _, h⟩
        clear hpr
        go_wp2_with (refine wpList_store_row rfl 28 _ _ rfl w.heap.size (zeroR.cells (.slice none 0 0)).toArray rfl rfl 28 _ hres HNZ.out HZS.out HOZ.out ?_)
        refine bodyPost_ret (results_cell_tmp_mid Tryz.results10 _ _ w.heap.size 0 (zeroR.cells (.slice none 0 0)) _ rfl (range_setRow hres _) Tryz.underlying28 rfl HNZL.out) rfl ?_
        exact ⟨(hA9.done g10 _).2.1, .inr ⟨hno, rfl⟩⟩
      · have hno : ∀ r, ¬ GoodR b r := fun r hr => by have := HEND.out r hr; simp at this
        obtain ⟨x, k, rfl⟩ : ∃ x k, e10 = .returned (.tuple #[x, .int .i64 k]) := by rcases hpr with ⟨-, h⟩ | ⟨-, v, h, -⟩ <;> exact ⟨_, _, h⟩
        clear hpr
        have hlb := (lines_cells (hA9.below g10).lines).2
        go_wp2_with (refine wpList_store_row rfl 28 _ _ rfl w.heap.size (zeroR.cells (.slice none 0 0)).toArray rfl rfl 28 _ hres HNZ.out HZS.out HOZ.out ?_)
        refine bodyPost_ret (results_cell_tmp_mid Tryz.results10 _ _ w.heap.size 0 (zeroR.cells (.slice none 0 0)) _ rfl (range_setRow hres _) Tryz.underlying28 rfl HNZL.out) rfl ?_
        exact ⟨(hA9.done g10 _).2.1, .inr ⟨hno, rfl⟩⟩
      · have hlb := (lines_cells (hA9.below g10).lines).2
        rcases hpr with ⟨hR, rfl⟩ | ⟨hR, x, rfl, hox⟩
        · have hno : ∀ r, ¬ GoodR b r := fun r hr => by
            obtain ⟨-, -, -, e⟩ := HEND.out r hr
            have := hr.2.2.1
            rw [e, hR] at this
            cases this
          go_wp2_with (refine wpList_store_row rfl 28 _ _ rfl w.heap.size (zeroR.cells (.slice none 0 0)).toArray rfl rfl 28 _ hres HNZ.out HZS.out HOZ.out ?_)
          refine bodyPost_ret (results_cell_tmp_mid Tryz.results10 _ _ w.heap.size 0 (zeroR.cells (.slice none 0 0)) _ rfl (range_setRow hres _) Tryz.underlying28 rfl HNZL.out) rfl ?_
          exact ⟨(hA9.done g10 _).2.1, .inr ⟨hno, rfl⟩⟩
        · obtain ⟨px, cx, rfl, hrx, -, -⟩ := hox.val
          have cE := bytes_Equal' px p (printR ⟨t, l, i, j, X⟩) b cx cap W10 hrx (hr.below (hA9.below g10).grew (Nat.le_refl _))
          obtain ⟨B, hB⟩ : ∃ B, (printR ⟨t, l, i, j, X⟩ == b) = B := ⟨_, rfl⟩
          rw [hB] at cE
          have HB := Lib.hid hB
          clear hB hox hrx
          cases B with
          | false =>
            have hno : ∀ r, ¬ GoodR b r := fun r hr => by
              obtain ⟨-, -, -, e⟩ := HEND.out r hr
              have := hr.2.2.2
              rw [e] at this
              exact absurd this (beq_eq_false_iff_ne.1 HB.out)
            go_wp2_with (first | (go_at_call 27; with_reducible refine cE.mono ?_; rintro e11 W11 ⟨rfl, h11⟩; subst W11) | (refine wpList_store_row rfl 28 _ _ rfl w.heap.size (zeroR.cells (.slice none 0 0)).toArray rfl rfl 28 _ hres HNZ.out HZS.out HOZ.out ?_))
            refine bodyPost_ret (results_cell_tmp_mid Tryz.results10 _ _ w.heap.size 0 (zeroR.cells (.slice none 0 0)) _ rfl (range_setRow hres _) Tryz.underlying28 rfl HNZL.out) rfl ?_
            exact ⟨(hA9.done g10 _).2.1, .inr ⟨hno, rfl⟩⟩
          | true =>
            have hgood : GoodR b ⟨t, l, i, j, X⟩ := ⟨h202t, HOK.out, hR, beq_iff_eq.1 HB.out⟩
            have hrR2 := rR W10 g10
            have hRC30 : Z.size = RC.toArray.size := by rw [HZS.out, List.size_toArray, List.size_toArray, hlR]; rfl
            have nfR2 : (Tryz.prog.info? 28).map (·.size) = some RC.toArray.size := by rw [List.size_toArray]; exact nfR
            go_wp2_with (first | (go_at_call 27; with_reducible refine cE.mono ?_; rintro e11 W11 ⟨rfl, h11⟩; subst W11) | (refine wpList_load_mid rfl 28 _ rfl (w.heap.size + 1 + 1) 0 rfl RC _ hrR2 Tryz.underlying28 rfl nfR ?_) | (refine wpList_store_row rfl 28 _ _ rfl w.heap.size RC.toArray rfl rfl 28 _ hres nfR2 hRC30 (all_oneCell_toArray oneR) ?_))
            refine bodyPost_ret (results_cell_tmp_mid Tryz.results10 _ _ w.heap.size 0 RC _ rfl (range_setRow hres _) Tryz.underlying28 rfl nfR) rfl ?_
            obtain ⟨-, k1, k2⟩ := hA9.done g10 RC.toArray
            exact ⟨k1, .inl ⟨_, v, hgood, by rw [HRC.out]; rfl, k2⟩⟩

end Go.Proofs.YtemojhcbhljemaaGreatDoor

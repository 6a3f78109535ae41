/- The law ObjectPrints of layer 7, walked: the bytes, and the id, of any object, and which object any bytes are. Conditions: the library's tables are laid. -/
import Derived.Test.YtdlhabldjdkfbaaDoorLaw07b
import Derived.Test.YtdlhabldjdkfbaaDoorObj6
import Derived.Test.YtdlhabldjdkfbaaDoorRange
import Derived.Deep.RegionHeldLaw
namespace Go.Proofs.YtdlhabldjdkfbaaDoor
set_option linter.unusedVariables false
set_option linter.unusedSimpArgs false
open Go.RowKit

/-- What Print comes to: bytes, and an error. -/
def printRO (k : Int) (l : List UInt8) : List UInt8 × Int := if Pure.wordO k = [] then ([], 10) else if 65536 < l.length then ([], 5) else (Pure.bytesO k l, 0)
theorem printO_view {k : Int} {l : List UInt8} {w : World} {e : Ending} {w' : World} (h : PrintPost k l w e w') : Grew w w' ∧ ∃ p c, e = .returned (.tuple #[.slice p (printRO k l).1.length c, .int .i64 (printRO k l).2]) ∧ Rd w' p (printRO k l).1 ∧ (printRO k l).1.length ≤ c ∧ (p = none → c = 0) := by
  obtain ⟨g, h⟩ := h
  refine ⟨g, ?_⟩
  unfold printRO
  rcases h with ⟨h1, rfl⟩ | ⟨h1, h2, rfl⟩ | ⟨h1, h2, v, rfl, hown⟩
  · rw [if_pos h1]
    exact ⟨none, 0, rfl, .inl rfl, Nat.le_refl _, fun _ => rfl⟩
  · rw [if_neg h1, if_pos h2]
    exact ⟨none, 0, rfl, .inl rfl, Nat.le_refl _, fun _ => rfl⟩
  · rw [if_neg h1, if_neg (by omega)]
    obtain ⟨p, c, rfl, hr, hc, -⟩ := hown.val
    refine ⟨p, c, rfl, hr, hc, hr.some_of ?_⟩
    unfold Pure.bytesO
    simp
    omega
/-- What Parse comes to: an object, and an error. -/
def parseRO (b : List UInt8) : Int × List UInt8 × Int := match Pure.parseO b with | none => (0, [], 4) | some z => (z.1, z.2, 0)
theorem parseO_view {b : List UInt8} {w : World} {e : Ending} {w' : World} (h : ParsePost b w e w') : Grew w w' ∧ ∃ p c, e = .returned (.tuple #[.agg #[.int .i64 (parseRO b).1, .slice p (parseRO b).2.1.length c], .int .i64 (parseRO b).2.2]) ∧ Rd w' p (parseRO b).2.1 := by
  obtain ⟨g, h⟩ := h
  refine ⟨g, ?_⟩
  unfold parseRO
  rcases h with ⟨h1, rfl⟩ | ⟨k, r, q, d, h1, rfl, hr⟩
  · rw [h1]
    exact ⟨none, 0, rfl, .inl rfl⟩
  · rw [h1]
    exact ⟨q, d, rfl, hr⟩

theorem rd_own {w : World} {g : Nat} {l : List UInt8} {f : Int} (hg : w.heap[g]? = some (.cells (Lib.byteCells l ++ [Value.int .u8 f, Value.int .u8 f, Value.int .u8 f]).toArray 5 (0, 0))) : Rd w (some ⟨g, 0, none⟩) l := .inr ⟨g, 0, rfl, (Array.getElem?_eq_some_iff.1 hg).1, fun i hi => by
  rw [cell_of_row w g _ _ _ (0, 0) hg]
  simp only [List.getElem?_toArray, Nat.zero_add]
  rw [List.getElem?_append_left (by rw [Lib.byteCells_length]; exact hi), byteCells_getElem?, List.getD_eq_getElem?_getD, List.getElem?_eq_getElem hi]; rfl⟩
theorem row_two {w : World} {g : Nat} {x y : Value} {t : TypeId} (hg : w.heap[g]? = some (.cells #[x, y] t (0, 0))) : w.rangeAt g 0 [x, y] := by have := range_row hg; simpa using this
theorem row_grew {w w' : World} {g : Nat} {ob : Obj} (hg : w.heap[g]? = some ob) (h : Grew w w') : w'.heap[g]? = some ob := (h.block g (Array.getElem?_eq_some_iff.1 hg).1).trans hg

set_option maxRecDepth 100000 in
set_option maxHeartbeats 8000000 in
theorem law_ObjectPrints (k : Int) (p : Option Addr) (l : List UInt8) (cap : Nat) (q : Option Addr) (b : List UInt8) (cap2 : Nat) (w : World) (hr : Rd w p l) (hl : l.length ≤ 9223372036854775807) (hb : Rd w q b) (hbl : b.length ≤ 9223372036854775807) (hq : q = none → cap2 = 0) (hbc : b.length ≤ cap2) (hT : TabOk w) (hM : MaxOk w) :
    Calls Tryd.prog 5 #[.agg #[.int .i64 k, .slice p l.length cap], .slice q b.length cap2] w fun e w' => e = .returned (.bool true) ∧ Grew w w' := by
  obtain ⟨V0, hV0, gw0, g0, hq0⟩ := boxed w #[.int .i64 k, .slice p l.length cap] 27
  have q0 := fun W g => hq0 W g 0 _ rfl
  have q1 := fun W g => hq0 W g 1 _ rfl
  have ca := (fun W (g : Grew V0 W) => awake07 W (hT.grew (gw0.trans' g)) : ∀ W, Grew V0 W → _)
  by_cases h1 : 1500 < l.length ∨ 2000 < b.length
  · have hd : (decide (1500 < (l.length : Int)) = true) ∨ (decide (1500 < (l.length : Int)) = false ∧ decide (2000 < (b.length : Int)) = true) := by
      simp only [decide_eq_true_eq, decide_eq_false_iff_not]
      omega
    clear h1 hq0
    rcases hd with f1 | ⟨f1, f2⟩
    all_goals
      go_enter Tryd.func5, Tryd.ntmps5
      go_wp2_with (first | (go_at_call 8; with_reducible refine (ca _ (by assumption)).mono ?_; rintro e1 W1 ⟨rfl, g1⟩; replace g1 := Grew.trans' (a := V0) (by assumption) g1))
      go_ret
      exact ⟨rfl, gw0.trans' (by assumption)⟩
  have f1 : decide (1500 < (l.length : Int)) = false := decide_eq_false (by omega)
  have f2 : decide (2000 < (b.length : Int)) = false := decide_eq_false (by omega)
  have cO := fun W (g : Grew V0 W) => own_bytes p l cap 71 W (by omega) (hr.below (gw0.trans' g) (Nat.le_refl _))
  have HR := Lib.hid hr
  have HB := Lib.hid hb
  have HM := Lib.hid hM
  have HT := Lib.hid hT
  have hbo : V0.heap[w.heap.size]? = some (.cells #[.int .i64 k, .slice p l.length cap] 27 (0, 0)) := by rw [← hV0]; exact heap_alloc_new w _
  clear hr hb hM hT hq0
  go_enter Tryd.func5, Tryd.ntmps5
  go_wp2_with fail
  refine wp_region_held_drew (S := fun w' => Grew V0 w') (by kernel_rfl) (by exact Below.drew g0) (fun hHeld => ?_)
  first
    | (refine wpAnyH_take (i := 0) (v := ?_) rfl (by kernel_rfl) (by kernel_rfl) (by kernel_rfl) (fun _ _ _ h => h) (Or.inl ⟨by rfl, ?_⟩) (by assumption) ?_; rotate_left 1; focus (intro w hSw; (try dsimp only at hSw); go_simp; (try with_reducible rfl)))
    | fail
  try simp only [Act.put, List.getElem_toArray, List.getElem_cons_succ, List.getElem_cons_zero, List.setIfInBounds_toArray, List.set_cons_zero, List.set_cons_succ]
  first
    | (refine wpAnyH_take (i := 1) (v := ?_) rfl (by kernel_rfl) (by kernel_rfl) (by kernel_rfl) (fun _ _ _ h => h) (Or.inl ⟨by rfl, ?_⟩) (by assumption) ?_; rotate_left 1; focus (intro w hSw; (try dsimp only at hSw); go_simp; (try with_reducible rfl)))
    | fail
  try simp only [Act.put, List.getElem_toArray, List.getElem_cons_succ, List.getElem_cons_zero, List.setIfInBounds_toArray, List.set_cons_zero, List.set_cons_succ]
  first
    | (refine wpAnyH_take (i := 2) (v := ?_) rfl (by kernel_rfl) (by kernel_rfl) (by kernel_rfl) (fun _ _ _ h => h) (Or.inl ⟨by rfl, ?_⟩) (by assumption) ?_; rotate_left 1; focus (intro w hSw; (try dsimp only at hSw); go_simp; (try with_reducible rfl)))
    | fail
  try simp only [Act.put, List.getElem_toArray, List.getElem_cons_succ, List.getElem_cons_zero, List.setIfInBounds_toArray, List.set_cons_zero, List.set_cons_succ]
  first
    | (refine wpAnyH_take (i := 3) (v := ?_) rfl (by kernel_rfl) (by kernel_rfl) (by kernel_rfl) (fun _ _ _ h => h) (Or.inl ⟨by rfl, ?_⟩) (by assumption) ?_; rotate_left 1; focus (intro w hSw; (try dsimp only at hSw); go_simp; (try with_reducible rfl)))
    | fail
  try simp only [Act.put, List.getElem_toArray, List.getElem_cons_succ, List.getElem_cons_zero, List.setIfInBounds_toArray, List.set_cons_zero, List.set_cons_succ]
  refine wpAnyH_ready (rs := [4, 6]) (by kernel_rfl) (by simp) ?_
  refine AllReadyH.cons rfl (fun K hK => ?_) (AllReadyH.cons rfl (fun K hK => ?_) AllReadyH.nil)
  · go_simp
    go_at_call 13; with_reducible refine (cO _ (Below.drew g0)).mono ?_; rintro e1 V1 ⟨rfl, hblk, g1⟩
    replace g1 := Grew.trans' (a := V0) (Below.drew g0) g1
    go_wp2_with fail
    refine hK.out _ _ (by exact g1) (fun hHeld => ?_)
    clear hK K
    try simp only [Act.put, List.getElem_toArray, List.getElem_cons_succ, List.getElem_cons_zero, List.setIfInBounds_toArray, List.set_cons_zero, List.set_cons_succ]
    first
      | (refine wpAnyH_take (i := 5) (v := ?_) rfl (by kernel_rfl) (by kernel_rfl) (by kernel_rfl) (fun _ _ _ h => h) (Or.inl ⟨by rfl, ?_⟩) (by assumption) ?_; rotate_left 1; focus (intro w hSw; (try dsimp only at hSw); go_simp; (try with_reducible rfl)))
      | fail
    try simp only [Act.put, List.getElem_toArray, List.getElem_cons_succ, List.getElem_cons_zero, List.setIfInBounds_toArray, List.set_cons_zero, List.set_cons_succ]
    refine wpAnyH_ready (rs := [6]) (by kernel_rfl) (by simp) ?_
    refine AllReadyH.cons rfl (fun K hK => ?_) AllReadyH.nil
    go_simp
    go_wp2_with fail
    refine hK.out _ _ (by exact g1.alloc g1.size _) (fun hHeld => ?_)
    clear hK K
    try simp only [Act.put, List.getElem_toArray, List.getElem_cons_succ, List.getElem_cons_zero, List.setIfInBounds_toArray, List.set_cons_zero, List.set_cons_succ]
    refine wpAnyH_ready (rs := [7]) (by kernel_rfl) (by simp) ?_
    refine AllReadyH.cons rfl (fun K hK => ?_) AllReadyH.nil
    go_simp
    go_wp2_with fail
    refine hK.out _ _ (by exact g1.alloc g1.size _) (fun hHeld => ?_)
    clear hK K
    try simp only [Act.put, List.getElem_toArray, List.getElem_cons_succ, List.getElem_cons_zero, List.setIfInBounds_toArray, List.set_cons_zero, List.set_cons_succ]
    refine wpAnyH_done (by kernel_rfl) ?_ _
    obtain ⟨gi, hgi⟩ : ∃ g, V0.heap.size = g := ⟨_, rfl⟩
    obtain ⟨gx, hgx⟩ : ∃ g, V1.heap.size = g := ⟨_, rfl⟩
    have hbi1 : V1.heap[V0.heap.size]? = some (.cells (Lib.byteCells l ++ [Value.int .u8 71, Value.int .u8 71, Value.int .u8 71]).toArray 5 (0, 0)) := hblk
    have hxb := heap_alloc_new V1 (.cells #[.int .i64 k, .slice (some ⟨V0.heap.size, 0, none⟩) l.length (l.length + 3)] 27)
    have gX := g1.alloc g1.size (.cells #[.int .i64 k, .slice (some ⟨V0.heap.size, 0, none⟩) l.length (l.length + 3)] 27)
    have hbi := row_grew hbi1 ((Below.refl V1.heap.size V1).alloc (Nat.le_refl _) (.cells #[.int .i64 k, .slice (some ⟨V0.heap.size, 0, none⟩) l.length (l.length + 3)] 27))
    obtain ⟨X, hX⟩ : ∃ X, V1.alloc (.cells #[.int .i64 k, .slice (some ⟨V0.heap.size, 0, none⟩) l.length (l.length + 3)] 27) = X := ⟨_, rfl⟩
    rw [hX] at hxb gX hbi ⊢
    replace gX : Grew V0 X := gX
    rw [hgi] at hxb hbi ⊢
    rw [hgx] at hxb ⊢
    have HGI := Lib.hid hgi
    have HGX := Lib.hid hgx
    clear hgi hgx hbi1 hblk g1 hHeld
    have HX := Lib.hid hX
    have hgxl := (Array.getElem?_eq_some_iff.1 hxb).1
    have hgil := (Array.getElem?_eq_some_iff.1 hbi).1
    clear hX cO
    have cOb := own_bytes q b cap2 71 X (by omega) (HB.out.below (gw0.trans' gX) (Nat.le_refl _))
    have x0 := fun W (g : Grew X W) => (g.cell (p := ⟨gx, 0, none⟩) hgxl).trans (by rw [cell_of_row X gx 0 _ _ (0, 0) hxb]; rfl : X.cell? ⟨gx, 0, none⟩ = some (.int .i64 k))
    have x1 := fun W (g : Grew X W) => (g.cell (p := ⟨gx, 1, none⟩) hgxl).trans (by rw [cell_of_row X gx 1 _ _ (0, 0) hxb]; rfl : X.cell? ⟨gx, 1, none⟩ = some (.slice (some ⟨gi, 0, none⟩) l.length (l.length + 3)))
    have gXX : Grew X X := Below.refl _ _
    go_wp2_with fail
    go_fit cOb
    rintro e2 V2 ⟨rfl, hblk2, g2⟩
    obtain ⟨gb, hgb⟩ : ∃ g, X.heap.size = g := ⟨_, rfl⟩
    rw [hgb] at hblk2 ⊢
    have HGB := Lib.hid hgb
    have g02 := gX.trans' g2
    have hri := rd_own hbi
    have hrb := rd_own hblk2
    clear cOb hgb
    have cP := object_Print k (some ⟨gi, 0, none⟩) l (l.length + 3) V2 (by omega) (hri.below g2 (Nat.le_refl _)) (HT.out.grew (gw0.trans' g02))
    go_wp2_with fail
    go_fit cP
    intro e3 V3 h3
    obtain ⟨g23, px, cx, rfl, hrx, -, -⟩ := printO_view h3
    have g03 := g02.trans' g23
    have gX3 := g2.trans' g23
    clear h3 cP
    have cP := ref07_Print k p l cap V3 (by omega) (HR.out.below (gw0.trans' g03) (Nat.le_refl _))
    go_wp2_with fail
    go_fit cP
    intro e4 V4 h4
    obtain ⟨g34, py, cy, rfl, hry, -, -⟩ := printO_view h4
    have g04 := g03.trans' g34
    have gX4 := gX3.trans' g34
    have g24 := g23.trans' g34
    clear h4 cP
    have cP := object_Parse (some ⟨gb, 0, none⟩) b (b.length + 3) V4 (hrb.below g24 (Nat.le_refl _)) (fun h => by cases h) (by omega) (by omega) (HM.out.grew (gw0.trans' g04)) (HT.out.grew (gw0.trans' g04))
    go_wp2_with fail
    go_fit cP
    intro e5 V5 h5
    obtain ⟨g45, pu, cu, rfl, hru⟩ := parseO_view h5
    have g05 := g04.trans' g45
    clear h5 cP
    obtain ⟨LU, EU⟩ : ∃ LU, parseRO b = LU := ⟨_, rfl⟩
    obtain ⟨ku, lu, eu⟩ := LU
    rw [EU] at hru ⊢
    simp only at hru ⊢
    have HEU := Lib.hid EU
    clear EU
    obtain ⟨V6, hV6, g56, g66, hq6⟩ := boxed V5 #[.int .i64 ku, .slice pu lu.length cu] 27
    have hb6 : V6.heap[V5.heap.size]? = some (.cells #[.int .i64 ku, .slice pu lu.length cu] 27 (0, 0)) := by rw [← hV6]; exact heap_alloc_new V5 _
    have g06 := g05.trans' g56
    subst hV6
    have cP := ref07_Parse q b cap2 _ (HB.out.below (gw0.trans' g06) (Nat.le_refl _)) hbc (by omega)
    go_wp2_with fail
    go_fit cP
    intro e7 V7 h7
    obtain ⟨g67, pv, cv, rfl, hrv⟩ := parseO_view h7
    rw [HEU.out] at hrv ⊢
    simp only at hrv ⊢
    have g07 := g06.trans' g67
    clear h7 cP hq6
    obtain ⟨V8, hV8, g78, g88, hq8⟩ := boxed V7 #[.int .i64 ku, .slice pv lu.length cv] 27
    have hb8 : V8.heap[V7.heap.size]? = some (.cells #[.int .i64 ku, .slice pv lu.length cv] 27 (0, 0)) := by rw [← hV8]; exact heap_alloc_new V7 _
    have g08 := g07.trans' g78
    have gX8 : Grew X V8 := (((gX4.trans' g45).trans' g56).trans' g67).trans' g78
    have g28 : Grew V2 V8 := (((g24.trans' g45).trans' g56).trans' g67).trans' g78
    have g38 : Grew V3 V8 := (((g34.trans' g45).trans' g56).trans' g67).trans' g78
    have g48 : Grew V4 V8 := ((g45.trans' g56).trans' g67).trans' g78
    have g58 : Grew V5 V8 := (g56.trans' g67).trans' g78
    have hb68 := row_grew hb6 (g67.trans' g78)
    have ro := fun W (g : Grew V8 W) => range_grew (row_two (row_grew (row_grew hbo gX) gX8)) g
    have rx := fun W (g : Grew V8 W) => range_grew (row_two (row_grew hxb gX8)) g
    have ru := fun W (g : Grew V8 W) => range_grew (row_two hb68) g
    have rv := fun W (g : Grew V8 W) => range_grew (row_two hb8) g
    have gw8 := gw0.trans' g08
    have z0 := fun W (g : Grew V8 W) => q0 W (g08.trans' g)
    have z1 := fun W (g : Grew V8 W) => q1 W (g08.trans' g)
    have y0 := fun W (g : Grew V8 W) => x0 W (gX8.trans' g)
    have y1 := fun W (g : Grew V8 W) => x1 W (gX8.trans' g)
    obtain ⟨LX, EX⟩ : ∃ LX, printRO k l = LX := ⟨_, rfl⟩
    obtain ⟨lx, ex⟩ := LX
    rw [EX] at hrx hry ⊢
    simp only at hrx hry ⊢
    have hbb : (lx == lx) = true := by simp
    have huu : (lu == lu) = true := by simp
    have hkk : (ku == ku) = true := by simp
    have hee : (ex == ex) = true := by simp
    have hff : (eu == eu) = true := by simp
    have cA := fun W (g : Grew V8 W) => ca W (g08.trans' g)
    have cB := fun W (g : Grew V8 W) => help_Bytes px py lx lx cx cy W (hrx.below (g38.trans' g) (Nat.le_refl _)) (hry.below (g48.trans' g) (Nat.le_refl _))
    simp only [hbb] at cB
    have cI := fun W (g : Grew V8 W) => object_Id k (some ⟨gi, 0, none⟩) l (l.length + 3) W (by omega) (hri.below (gX8.trans' g) (Nat.le_refl _)) (HT.out.grew (gw8.trans' g))
    have cJ := fun W (g : Grew V8 W) => ref07_Id k p l cap W (by omega) (HR.out.below (gw8.trans' g) (Nat.le_refl _))
    have hid20 := idO_len k l
    obtain ⟨ID, hID⟩ : ∃ ID, idO k l = ID := ⟨_, rfl⟩
    simp only [hID] at cI cJ
    rw [hID] at hid20
    have cOb := fun W (g : Grew V8 W) => help_Object ku ku pu pv lu lu cu cv W (hru.below (g58.trans' g) (Nat.le_refl _)) (hrv.below (g78.trans' g) (Nat.le_refl _))
    simp only [huu, hkk, Bool.and_self] at cOb
    have cW1 := fun W (g : Grew V8 W) => object_Word k W
    have cW2 := fun W (g : Grew V8 W) => ref07_Word k W
    obtain ⟨S, hS⟩ : ∃ S : ByteArray, (⟨(Pure.wordO k).toArray⟩ : ByteArray) = S := ⟨_, rfl⟩
    simp only [hS] at cW1 cW2
    have hSS : (S.toList == S.toList) = true := by simp
    have cK1 := fun W (g : Grew V8 W) => kept_bytes gi p l cap 71 W (by omega) (row_grew hbi (gX8.trans' g)) (HR.out.below (gw8.trans' g) (Nat.le_refl _))
    have cK2 := fun W (g : Grew V8 W) => kept_bytes gb q b cap2 71 W (by omega) (row_grew hblk2 (g28.trans' g)) (HB.out.below (gw8.trans' g) (Nat.le_refl _))
    have hEq : ∀ W, (binOp .eql 30 (idV ID) (idV ID)).run Tryd.prog W = .ok (.bool true) W := fun W => by rw [show idV ID = .agg (Lib.byteCells ID).toArray from rfl, eql_id ID ID hid20 hid20 W, beq_self_eq_true]
    have hGd : ∀ x y W, (eqGuard .eql 30 x y (idV ID) (idV ID)).run Tryd.prog W = .ok () W := fun x y W => guard_id .eql x y ID ID W
    have nfo : (Tryd.prog.info? 27).map (·.size) = some 2 := by kernel_rfl
    subst hV8
    have g80 : Grew V0 _ := g08
    clear ca hrx hry hru hrv hri hrb hbi hblk2 hxb hb6 hb8 hb68 q0 q1 x0 x1 hid20 hID hS EX gX gXX g2 g02 g23 g03 gX3 g34 g04 gX4 g24 g45 g05 g56 g66 g06 g67 g07 g78 g08 gX8 g28 g38 g48 g58 hq8 hgxl hgil hbo
    go_wp2_with fail
    refine wp_region_held_drew (S := fun w' => Grew (V7.alloc (.cells #[.int .i64 ku, .slice pv lu.length cv] 27)) w') (by kernel_rfl) (by first | assumption | exact Below.drew (by assumption)) (fun hHeld => ?_)
    refine wpAnyH_ready (rs := [0]) (by kernel_rfl) (by simp) ?_
    refine AllReadyH.cons rfl (fun K hK => ?_) AllReadyH.nil
    go_simp
    (go_at_call 8; with_reducible refine (cA _ (by first | assumption | exact Below.drew (by assumption))).mono ?_; rintro e1 W1 ⟨rfl, g1⟩; replace g1 := Grew.trans' (a := (V7.alloc (.cells #[.int .i64 ku, .slice pv lu.length cv] 27))) (by first | assumption | exact Below.drew (by assumption)) g1)
    go_wp2_with fail
    refine hK.out _ _ (by first | assumption | exact Below.drew (by assumption)) (fun hHeld => ?_)
    clear hK K
    try simp only [Act.put, List.getElem_toArray, List.getElem_cons_succ, List.getElem_cons_zero, List.setIfInBounds_toArray, List.set_cons_zero, List.set_cons_succ]
    first
      | (refine wpAnyH_take (i := 1) (v := ?_) rfl (by kernel_rfl) (by kernel_rfl) (by kernel_rfl) (fun _ _ _ h => h) (Or.inl ⟨by rfl, ?_⟩) (by assumption) ?_; rotate_left 1; focus (intro w hSw; (try dsimp only at hSw); go_simp; (try with_reducible rfl)))
      | fail
    try simp only [Act.put, List.getElem_toArray, List.getElem_cons_succ, List.getElem_cons_zero, List.setIfInBounds_toArray, List.set_cons_zero, List.set_cons_succ]
    first
      | (refine wpAnyH_take (i := 2) (v := ?_) rfl (by kernel_rfl) (by kernel_rfl) (by kernel_rfl) (fun _ _ _ h => h) (Or.inl ⟨by rfl, ?_⟩) (by assumption) ?_; rotate_left 1; focus (intro w hSw; (try dsimp only at hSw); go_simp; (try with_reducible rfl)))
      | (refine wpAnyH_take (i := 2) (v := undef) rfl (by kernel_rfl) (by kernel_rfl) (by kernel_rfl) (fun _ _ _ h => h) (Or.inr ⟨by rfl, rfl⟩) (by assumption) ?_)
      | fail
    try simp only [Act.put, List.getElem_toArray, List.getElem_cons_succ, List.getElem_cons_zero, List.setIfInBounds_toArray, List.set_cons_zero, List.set_cons_succ]
    first
      | (refine wpAnyH_take (i := 3) (v := ?_) rfl (by kernel_rfl) (by kernel_rfl) (by kernel_rfl) (fun _ _ _ h => h) (Or.inl ⟨by rfl, ?_⟩) (by assumption) ?_; rotate_left 1; focus (intro w hSw; (try dsimp only at hSw); go_simp; (try with_reducible rfl)))
      | (refine wpAnyH_take (i := 3) (v := undef) rfl (by kernel_rfl) (by kernel_rfl) (by kernel_rfl) (fun _ _ _ h => h) (Or.inr ⟨by rfl, rfl⟩) (by assumption) ?_)
      | fail
    try simp only [Act.put, List.getElem_toArray, List.getElem_cons_succ, List.getElem_cons_zero, List.setIfInBounds_toArray, List.set_cons_zero, List.set_cons_succ]
    first
      | (refine wpAnyH_take (i := 4) (v := undef) rfl (by kernel_rfl) (by kernel_rfl) (by kernel_rfl) (fun _ _ _ h => h) (Or.inr ⟨by rfl, rfl⟩) (by assumption) ?_; try simp only [Act.put, List.getElem_toArray, List.getElem_cons_succ, List.getElem_cons_zero, List.setIfInBounds_toArray, List.set_cons_zero, List.set_cons_succ])
      | (refine wpAnyH_ready (rs := [4]) (by kernel_rfl) (by simp) ?_; refine AllReadyH.cons rfl (fun K hK => ?_) AllReadyH.nil; go_simp; go_at_call 16; with_reducible refine (cB _ (by first | assumption | exact Below.drew (by assumption))).mono ?_; rintro e1 W1 ⟨rfl, h1⟩; subst W1; go_wp2_with fail; refine hK.out _ _ (by first | assumption | exact Below.drew (by assumption)) (fun hHeld => ?_); clear hK K; (try simp only [Act.put, List.getElem_toArray, List.getElem_cons_succ, List.getElem_cons_zero, List.setIfInBounds_toArray, List.set_cons_zero, List.set_cons_succ]))
      | fail
    first
      | (refine wpAnyH_take (i := 5) (v := ?_) rfl (by kernel_rfl) (by kernel_rfl) (by kernel_rfl) (fun _ _ _ h => h) (Or.inl ⟨by rfl, ?_⟩) (by assumption) ?_; rotate_left 1; focus (intro w hSw; (try dsimp only at hSw); go_simp; (try with_reducible rfl)))
      | fail
    try simp only [Act.put, List.getElem_toArray, List.getElem_cons_succ, List.getElem_cons_zero, List.setIfInBounds_toArray, List.set_cons_zero, List.set_cons_succ]
    first
      | (refine wpAnyH_take (i := 6) (v := ?_) rfl (by kernel_rfl) (by kernel_rfl) (by kernel_rfl) (fun _ _ _ h => h) (Or.inl ⟨by rfl, ?_⟩) (by assumption) ?_; rotate_left 1; focus (intro w hSw; (try dsimp only at hSw); go_simp; (try with_reducible rfl)))
      | fail
    try simp only [Act.put, List.getElem_toArray, List.getElem_cons_succ, List.getElem_cons_zero, List.setIfInBounds_toArray, List.set_cons_zero, List.set_cons_succ]
    first
      | (refine wpAnyH_take (i := 7) (v := ?_) rfl (by kernel_rfl) (by kernel_rfl) (by kernel_rfl) (fun _ _ _ h => h) (Or.inl ⟨by rfl, ?_⟩) (by assumption) ?_; rotate_left 1; focus (intro w hSw; (try dsimp only at hSw); go_simp; (try with_reducible rfl)))
      | (refine wpAnyH_take (i := 7) (v := undef) rfl (by kernel_rfl) (by kernel_rfl) (by kernel_rfl) (fun _ _ _ h => h) (Or.inr ⟨by rfl, rfl⟩) (by assumption) ?_)
      | fail
    try simp only [Act.put, List.getElem_toArray, List.getElem_cons_succ, List.getElem_cons_zero, List.setIfInBounds_toArray, List.set_cons_zero, List.set_cons_succ]
    first
      | (refine wpAnyH_take (i := 8) (v := ?_) rfl (by kernel_rfl) (by kernel_rfl) (by kernel_rfl) (fun _ _ _ h => h) (Or.inl ⟨by rfl, ?_⟩) (by assumption) ?_; rotate_left 1; focus (intro w hSw; (try dsimp only at hSw); go_simp; (try with_reducible rfl)))
      | (refine wpAnyH_take (i := 8) (v := undef) rfl (by kernel_rfl) (by kernel_rfl) (by kernel_rfl) (fun _ _ _ h => h) (Or.inr ⟨by rfl, rfl⟩) (by assumption) ?_)
      | fail
    try simp only [Act.put, List.getElem_toArray, List.getElem_cons_succ, List.getElem_cons_zero, List.setIfInBounds_toArray, List.set_cons_zero, List.set_cons_succ]
    first
      | (refine wpAnyH_take (i := 9) (v := ?_) rfl (by kernel_rfl) (by kernel_rfl) (by kernel_rfl) (fun _ _ _ h => h) (Or.inl ⟨by rfl, ?_⟩) (by assumption) ?_; rotate_left 1; focus (intro w hSw; (try dsimp only at hSw); go_simp; (try with_reducible rfl)))
      | (refine wpAnyH_take (i := 9) (v := undef) rfl (by kernel_rfl) (by kernel_rfl) (by kernel_rfl) (fun _ _ _ h => h) (Or.inr ⟨by rfl, rfl⟩) (by assumption) ?_)
      | fail
    try simp only [Act.put, List.getElem_toArray, List.getElem_cons_succ, List.getElem_cons_zero, List.setIfInBounds_toArray, List.set_cons_zero, List.set_cons_succ]
    first
      | (refine wpAnyH_take (i := 10) (v := ?_) rfl (by kernel_rfl) (by kernel_rfl) (by kernel_rfl) (fun _ _ _ h => h) (Or.inl ⟨by rfl, ?_⟩) (by assumption) ?_; rotate_left 1; focus (intro w hSw; (try dsimp only at hSw); go_simp; (try with_reducible rfl)))
      | fail
    try simp only [Act.put, List.getElem_toArray, List.getElem_cons_succ, List.getElem_cons_zero, List.setIfInBounds_toArray, List.set_cons_zero, List.set_cons_succ]
    first
      | (refine wpAnyH_take (i := 11) (v := ?_) rfl (by kernel_rfl) (by kernel_rfl) (by kernel_rfl) (fun _ _ _ h => h) (Or.inl ⟨by rfl, ?_⟩) (by assumption) ?_; rotate_left 1; focus (intro w hSw; (try dsimp only at hSw); go_simp; (try with_reducible rfl)))
      | fail
    try simp only [Act.put, List.getElem_toArray, List.getElem_cons_succ, List.getElem_cons_zero, List.setIfInBounds_toArray, List.set_cons_zero, List.set_cons_succ]
    first
      | (refine' wpAnyH_take (i := 12) (v := _) rfl (by kernel_rfl) (by kernel_rfl) (by kernel_rfl) (fun _ _ _ h => h) (yieldsIf_load_mid (by rfl) _ _ rfl _ _ rfl _ _ (fun w hSw => (by (first | exact ro _ hSw | exact rx _ hSw | exact ru _ hSw | exact rv _ hSw))) Tryd.underlying27 rfl (by first | assumption | kernel_rfl)) (by assumption) ?_)
      | (refine wpAnyH_take (i := 12) (v := undef) rfl (by kernel_rfl) (by kernel_rfl) (by kernel_rfl) (fun _ _ _ h => h) (Or.inr ⟨by rfl, rfl⟩) (by assumption) ?_)
      | fail
    try simp only [Act.put, List.getElem_toArray, List.getElem_cons_succ, List.getElem_cons_zero, List.setIfInBounds_toArray, List.set_cons_zero, List.set_cons_succ]
    first
      | (refine' wpAnyH_take (i := 14) (v := _) rfl (by kernel_rfl) (by kernel_rfl) (by kernel_rfl) (fun _ _ _ h => h) (yieldsIf_load_mid (by rfl) _ _ rfl _ _ rfl _ _ (fun w hSw => (by (first | exact ro _ hSw | exact rx _ hSw | exact ru _ hSw | exact rv _ hSw))) Tryd.underlying27 rfl (by first | assumption | kernel_rfl)) (by assumption) ?_)
      | (refine wpAnyH_take (i := 14) (v := undef) rfl (by kernel_rfl) (by kernel_rfl) (by kernel_rfl) (fun _ _ _ h => h) (Or.inr ⟨by rfl, rfl⟩) (by assumption) ?_)
      | fail
    try simp only [Act.put, List.getElem_toArray, List.getElem_cons_succ, List.getElem_cons_zero, List.setIfInBounds_toArray, List.set_cons_zero, List.set_cons_succ]
    first
      | (refine wpAnyH_take (i := 13) (v := undef) rfl (by kernel_rfl) (by kernel_rfl) (by kernel_rfl) (fun _ _ _ h => h) (Or.inr ⟨by rfl, rfl⟩) (by assumption) ?_; try simp only [Act.put, List.getElem_toArray, List.getElem_cons_succ, List.getElem_cons_zero, List.setIfInBounds_toArray, List.set_cons_zero, List.set_cons_succ])
      | (refine wpAnyH_ready (rs := [13]) (by kernel_rfl) (by simp) ?_; refine AllReadyH.cons rfl (fun K hK => ?_) AllReadyH.nil; go_simp; ((go_at_call 9; with_reducible refine (cI _ (by first | assumption | exact Below.drew (by assumption))).mono ?_; rintro e1 W1 ⟨rfl, g1⟩; replace g1 := Grew.trans' (a := (V7.alloc (.cells #[.int .i64 ku, .slice pv lu.length cv] 27))) (by first | assumption | exact Below.drew (by assumption)) g1)); go_wp2_with fail; refine hK.out _ _ (by first | assumption | exact Below.drew (by assumption)) (fun hHeld => ?_); clear hK K; (try simp only [Act.put, List.getElem_toArray, List.getElem_cons_succ, List.getElem_cons_zero, List.setIfInBounds_toArray, List.set_cons_zero, List.set_cons_succ]))
      | fail
    first
      | (refine wpAnyH_take (i := 15) (v := undef) rfl (by kernel_rfl) (by kernel_rfl) (by kernel_rfl) (fun _ _ _ h => h) (Or.inr ⟨by rfl, rfl⟩) (by assumption) ?_; try simp only [Act.put, List.getElem_toArray, List.getElem_cons_succ, List.getElem_cons_zero, List.setIfInBounds_toArray, List.set_cons_zero, List.set_cons_succ])
      | (refine wpAnyH_ready (rs := [15]) (by kernel_rfl) (by simp) ?_; refine AllReadyH.cons rfl (fun K hK => ?_) AllReadyH.nil; go_simp; ((go_at_call 17; with_reducible refine (cJ _ (by first | assumption | exact Below.drew (by assumption))).mono ?_; rintro e1 W1 ⟨rfl, g1⟩; replace g1 := Grew.trans' (a := (V7.alloc (.cells #[.int .i64 ku, .slice pv lu.length cv] 27))) (by first | assumption | exact Below.drew (by assumption)) g1)); go_wp2_with fail; refine hK.out _ _ (by first | assumption | exact Below.drew (by assumption)) (fun hHeld => ?_); clear hK K; (try simp only [Act.put, List.getElem_toArray, List.getElem_cons_succ, List.getElem_cons_zero, List.setIfInBounds_toArray, List.set_cons_zero, List.set_cons_succ]))
      | fail
    first
      | (refine wpAnyH_take (i := 16) (v := ?_) rfl (by kernel_rfl) (by kernel_rfl) (by kernel_rfl) (fun _ _ _ h => h) (Or.inl ⟨by rfl, ?_⟩) (by assumption) ?_; rotate_left 1; focus (intro w hSw; (try dsimp only at hSw); go_simp; (try with_reducible rfl)))
      | (refine wpAnyH_take (i := 16) (v := undef) rfl (by kernel_rfl) (by kernel_rfl) (by kernel_rfl) (fun _ _ _ h => h) (Or.inr ⟨by rfl, rfl⟩) (by assumption) ?_)
      | fail
    try simp only [Act.put, List.getElem_toArray, List.getElem_cons_succ, List.getElem_cons_zero, List.setIfInBounds_toArray, List.set_cons_zero, List.set_cons_succ]
    first
      | (refine wpAnyH_take (i := 17) (v := ?_) rfl (by kernel_rfl) (by kernel_rfl) (by kernel_rfl) (fun _ _ _ h => h) (Or.inl ⟨by rfl, ?_⟩) (by assumption) ?_; rotate_left 1; focus (intro w hSw; (try dsimp only at hSw); go_simp; (try with_reducible rfl)))
      | fail
    try simp only [Act.put, List.getElem_toArray, List.getElem_cons_succ, List.getElem_cons_zero, List.setIfInBounds_toArray, List.set_cons_zero, List.set_cons_succ]
    first
      | (refine wpAnyH_take (i := 18) (v := ?_) rfl (by kernel_rfl) (by kernel_rfl) (by kernel_rfl) (fun _ _ _ h => h) (Or.inl ⟨by rfl, ?_⟩) (by assumption) ?_; rotate_left 1; focus (intro w hSw; (try dsimp only at hSw); go_simp; (try with_reducible rfl)))
      | fail
    try simp only [Act.put, List.getElem_toArray, List.getElem_cons_succ, List.getElem_cons_zero, List.setIfInBounds_toArray, List.set_cons_zero, List.set_cons_succ]
    first
      | (refine' wpAnyH_take (i := 19) (v := _) rfl (by kernel_rfl) (by kernel_rfl) (by kernel_rfl) (fun _ _ _ h => h) (yieldsIf_load_mid (by rfl) _ _ rfl _ _ rfl _ _ (fun w hSw => (by (first | exact ro _ hSw | exact rx _ hSw | exact ru _ hSw | exact rv _ hSw))) Tryd.underlying27 rfl (by first | assumption | kernel_rfl)) (by assumption) ?_)
      | (refine wpAnyH_take (i := 19) (v := undef) rfl (by kernel_rfl) (by kernel_rfl) (by kernel_rfl) (fun _ _ _ h => h) (Or.inr ⟨by rfl, rfl⟩) (by assumption) ?_)
      | fail
    try simp only [Act.put, List.getElem_toArray, List.getElem_cons_succ, List.getElem_cons_zero, List.setIfInBounds_toArray, List.set_cons_zero, List.set_cons_succ]
    first
      | (refine' wpAnyH_take (i := 20) (v := _) rfl (by kernel_rfl) (by kernel_rfl) (by kernel_rfl) (fun _ _ _ h => h) (yieldsIf_load_mid (by rfl) _ _ rfl _ _ rfl _ _ (fun w hSw => (by (first | exact ro _ hSw | exact rx _ hSw | exact ru _ hSw | exact rv _ hSw))) Tryd.underlying27 rfl (by first | assumption | kernel_rfl)) (by assumption) ?_)
      | (refine wpAnyH_take (i := 20) (v := undef) rfl (by kernel_rfl) (by kernel_rfl) (by kernel_rfl) (fun _ _ _ h => h) (Or.inr ⟨by rfl, rfl⟩) (by assumption) ?_)
      | fail
    try simp only [Act.put, List.getElem_toArray, List.getElem_cons_succ, List.getElem_cons_zero, List.setIfInBounds_toArray, List.set_cons_zero, List.set_cons_succ]
    first
      | (refine wpAnyH_take (i := 21) (v := undef) rfl (by kernel_rfl) (by kernel_rfl) (by kernel_rfl) (fun _ _ _ h => h) (Or.inr ⟨by rfl, rfl⟩) (by assumption) ?_; try simp only [Act.put, List.getElem_toArray, List.getElem_cons_succ, List.getElem_cons_zero, List.setIfInBounds_toArray, List.set_cons_zero, List.set_cons_succ])
      | (refine wpAnyH_ready (rs := [21]) (by kernel_rfl) (by simp) ?_; refine AllReadyH.cons rfl (fun K hK => ?_) AllReadyH.nil; go_simp; ((go_at_call 12; with_reducible refine (cOb _ (by first | assumption | exact Below.drew (by assumption))).mono ?_; rintro e1 W1 ⟨rfl, g1⟩; replace g1 := Grew.trans' (a := (V7.alloc (.cells #[.int .i64 ku, .slice pv lu.length cv] 27))) (by first | assumption | exact Below.drew (by assumption)) g1)); go_wp2_with fail; refine hK.out _ _ (by first | assumption | exact Below.drew (by assumption)) (fun hHeld => ?_); clear hK K; (try simp only [Act.put, List.getElem_toArray, List.getElem_cons_succ, List.getElem_cons_zero, List.setIfInBounds_toArray, List.set_cons_zero, List.set_cons_succ]))
      | fail
    first
      | (refine wpAnyH_take (i := 22) (v := ?_) rfl (by kernel_rfl) (by kernel_rfl) (by kernel_rfl) (fun _ _ _ h => h) (Or.inl ⟨by rfl, ?_⟩) (by assumption) ?_; rotate_left 1; focus (intro w hSw; (try dsimp only at hSw); go_simp; (try with_reducible rfl)))
      | fail
    try simp only [Act.put, List.getElem_toArray, List.getElem_cons_succ, List.getElem_cons_zero, List.setIfInBounds_toArray, List.set_cons_zero, List.set_cons_succ]
    first
      | (refine wpAnyH_take (i := 23) (v := ?_) rfl (by kernel_rfl) (by kernel_rfl) (by kernel_rfl) (fun _ _ _ h => h) (Or.inl ⟨by rfl, ?_⟩) (by assumption) ?_; rotate_left 1; focus (intro w hSw; (try dsimp only at hSw); go_simp; (try with_reducible rfl)))
      | fail
    try simp only [Act.put, List.getElem_toArray, List.getElem_cons_succ, List.getElem_cons_zero, List.setIfInBounds_toArray, List.set_cons_zero, List.set_cons_succ]
    first
      | (refine wpAnyH_take (i := 24) (v := ?_) rfl (by kernel_rfl) (by kernel_rfl) (by kernel_rfl) (fun _ _ _ h => h) (Or.inl ⟨by rfl, ?_⟩) (by assumption) ?_; rotate_left 1; focus (intro w hSw; (try dsimp only at hSw); go_simp; (try with_reducible rfl)))
      | (refine wpAnyH_take (i := 24) (v := undef) rfl (by kernel_rfl) (by kernel_rfl) (by kernel_rfl) (fun _ _ _ h => h) (Or.inr ⟨by rfl, rfl⟩) (by assumption) ?_)
      | fail
    try simp only [Act.put, List.getElem_toArray, List.getElem_cons_succ, List.getElem_cons_zero, List.setIfInBounds_toArray, List.set_cons_zero, List.set_cons_succ]
    first
      | (refine wpAnyH_take (i := 25) (v := ?_) rfl (by kernel_rfl) (by kernel_rfl) (by kernel_rfl) (fun _ _ _ h => h) (Or.inl ⟨by rfl, ?_⟩) (by assumption) ?_; rotate_left 1; focus (intro w hSw; (try dsimp only at hSw); go_simp; (try with_reducible rfl)))
      | (refine wpAnyH_take (i := 25) (v := undef) rfl (by kernel_rfl) (by kernel_rfl) (by kernel_rfl) (fun _ _ _ h => h) (Or.inr ⟨by rfl, rfl⟩) (by assumption) ?_)
      | fail
    try simp only [Act.put, List.getElem_toArray, List.getElem_cons_succ, List.getElem_cons_zero, List.setIfInBounds_toArray, List.set_cons_zero, List.set_cons_succ]
    first
      | (refine wpAnyH_take (i := 26) (v := ?_) rfl (by kernel_rfl) (by kernel_rfl) (by kernel_rfl) (fun _ _ _ h => h) (Or.inl ⟨by rfl, ?_⟩) (by assumption) ?_; rotate_left 1; focus (intro w hSw; (try dsimp only at hSw); go_simp; (try with_reducible rfl)))
      | (refine wpAnyH_take (i := 26) (v := undef) rfl (by kernel_rfl) (by kernel_rfl) (by kernel_rfl) (fun _ _ _ h => h) (Or.inr ⟨by rfl, rfl⟩) (by assumption) ?_)
      | fail
    try simp only [Act.put, List.getElem_toArray, List.getElem_cons_succ, List.getElem_cons_zero, List.setIfInBounds_toArray, List.set_cons_zero, List.set_cons_succ]
    first
      | (refine wpAnyH_take (i := 27) (v := ?_) rfl (by kernel_rfl) (by kernel_rfl) (by kernel_rfl) (fun _ _ _ h => h) (Or.inl ⟨by rfl, ?_⟩) (by assumption) ?_; rotate_left 1; focus (intro w hSw; (try dsimp only at hSw); go_simp; (try with_reducible rfl)))
      | fail
    try simp only [Act.put, List.getElem_toArray, List.getElem_cons_succ, List.getElem_cons_zero, List.setIfInBounds_toArray, List.set_cons_zero, List.set_cons_succ]
    first
      | (refine wpAnyH_take (i := 28) (v := ?_) rfl (by kernel_rfl) (by kernel_rfl) (by kernel_rfl) (fun _ _ _ h => h) (Or.inl ⟨by rfl, ?_⟩) (by assumption) ?_; rotate_left 1; focus (intro w hSw; (try dsimp only at hSw); go_simp; (try with_reducible rfl)))
      | fail
    try simp only [Act.put, List.getElem_toArray, List.getElem_cons_succ, List.getElem_cons_zero, List.setIfInBounds_toArray, List.set_cons_zero, List.set_cons_succ]
    first
      | (refine wpAnyH_take (i := 29) (v := ?_) rfl (by kernel_rfl) (by kernel_rfl) (by kernel_rfl) (fun _ _ _ h => h) (Or.inl ⟨by rfl, ?_⟩) (by assumption) ?_; rotate_left 1; focus (intro w hSw; (try dsimp only at hSw); go_simp; (try with_reducible rfl)))
      | (refine wpAnyH_take (i := 29) (v := undef) rfl (by kernel_rfl) (by kernel_rfl) (by kernel_rfl) (fun _ _ _ h => h) (Or.inr ⟨by rfl, rfl⟩) (by assumption) ?_)
      | fail
    try simp only [Act.put, List.getElem_toArray, List.getElem_cons_succ, List.getElem_cons_zero, List.setIfInBounds_toArray, List.set_cons_zero, List.set_cons_succ]
    first
      | (refine wpAnyH_take (i := 30) (v := ?_) rfl (by kernel_rfl) (by kernel_rfl) (by kernel_rfl) (fun _ _ _ h => h) (Or.inl ⟨by rfl, ?_⟩) (by assumption) ?_; rotate_left 1; focus (intro w hSw; (try dsimp only at hSw); go_simp; (try with_reducible rfl)))
      | (refine wpAnyH_take (i := 30) (v := undef) rfl (by kernel_rfl) (by kernel_rfl) (by kernel_rfl) (fun _ _ _ h => h) (Or.inr ⟨by rfl, rfl⟩) (by assumption) ?_)
      | fail
    try simp only [Act.put, List.getElem_toArray, List.getElem_cons_succ, List.getElem_cons_zero, List.setIfInBounds_toArray, List.set_cons_zero, List.set_cons_succ]
    first
      | (refine wpAnyH_take (i := 32) (v := ?_) rfl (by kernel_rfl) (by kernel_rfl) (by kernel_rfl) (fun _ _ _ h => h) (Or.inl ⟨by rfl, ?_⟩) (by assumption) ?_; rotate_left 1; focus (intro w hSw; (try dsimp only at hSw); go_simp; (try with_reducible rfl)))
      | (refine wpAnyH_take (i := 32) (v := undef) rfl (by kernel_rfl) (by kernel_rfl) (by kernel_rfl) (fun _ _ _ h => h) (Or.inr ⟨by rfl, rfl⟩) (by assumption) ?_)
      | fail
    try simp only [Act.put, List.getElem_toArray, List.getElem_cons_succ, List.getElem_cons_zero, List.setIfInBounds_toArray, List.set_cons_zero, List.set_cons_succ]
    first
      | (refine wpAnyH_take (i := 33) (v := ?_) rfl (by kernel_rfl) (by kernel_rfl) (by kernel_rfl) (fun _ _ _ h => h) (Or.inl ⟨by rfl, ?_⟩) (by assumption) ?_; rotate_left 1; focus (intro w hSw; (try dsimp only at hSw); go_simp; (try with_reducible rfl)))
      | (refine wpAnyH_take (i := 33) (v := undef) rfl (by kernel_rfl) (by kernel_rfl) (by kernel_rfl) (fun _ _ _ h => h) (Or.inr ⟨by rfl, rfl⟩) (by assumption) ?_)
      | fail
    try simp only [Act.put, List.getElem_toArray, List.getElem_cons_succ, List.getElem_cons_zero, List.setIfInBounds_toArray, List.set_cons_zero, List.set_cons_succ]
    first
      | (refine wpAnyH_take (i := 31) (v := undef) rfl (by kernel_rfl) (by kernel_rfl) (by kernel_rfl) (fun _ _ _ h => h) (Or.inr ⟨by rfl, rfl⟩) (by assumption) ?_; try simp only [Act.put, List.getElem_toArray, List.getElem_cons_succ, List.getElem_cons_zero, List.setIfInBounds_toArray, List.set_cons_zero, List.set_cons_succ])
      | (refine wpAnyH_ready (rs := [31]) (by kernel_rfl) (by simp) ?_; refine AllReadyH.cons rfl (fun K hK => ?_) AllReadyH.nil; go_simp; ((go_at_call 18; with_reducible refine (cW1 _ (by first | assumption | exact Below.drew (by assumption))).mono ?_; rintro e1 W1 ⟨rfl, g1⟩; replace g1 := Grew.trans' (a := (V7.alloc (.cells #[.int .i64 ku, .slice pv lu.length cv] 27))) (by first | assumption | exact Below.drew (by assumption)) g1)); go_wp2_with fail; refine hK.out _ _ (by first | assumption | exact Below.drew (by assumption)) (fun hHeld => ?_); clear hK K; (try simp only [Act.put, List.getElem_toArray, List.getElem_cons_succ, List.getElem_cons_zero, List.setIfInBounds_toArray, List.set_cons_zero, List.set_cons_succ]))
      | fail
    first
      | (refine wpAnyH_take (i := 34) (v := undef) rfl (by kernel_rfl) (by kernel_rfl) (by kernel_rfl) (fun _ _ _ h => h) (Or.inr ⟨by rfl, rfl⟩) (by assumption) ?_; try simp only [Act.put, List.getElem_toArray, List.getElem_cons_succ, List.getElem_cons_zero, List.setIfInBounds_toArray, List.set_cons_zero, List.set_cons_succ])
      | (refine wpAnyH_ready (rs := [34]) (by kernel_rfl) (by simp) ?_; refine AllReadyH.cons rfl (fun K hK => ?_) AllReadyH.nil; go_simp; ((go_at_call 19; with_reducible refine (cW2 _ (by first | assumption | exact Below.drew (by assumption))).mono ?_; rintro e1 W1 ⟨rfl, g1⟩; replace g1 := Grew.trans' (a := (V7.alloc (.cells #[.int .i64 ku, .slice pv lu.length cv] 27))) (by first | assumption | exact Below.drew (by assumption)) g1)); go_wp2_with fail; refine hK.out _ _ (by first | assumption | exact Below.drew (by assumption)) (fun hHeld => ?_); clear hK K; (try simp only [Act.put, List.getElem_toArray, List.getElem_cons_succ, List.getElem_cons_zero, List.setIfInBounds_toArray, List.set_cons_zero, List.set_cons_succ]))
      | fail
    first
      | (refine wpAnyH_take (i := 35) (v := ?_) rfl (by kernel_rfl) (by kernel_rfl) (by kernel_rfl) (fun _ _ _ h => h) (Or.inl ⟨by rfl, ?_⟩) (by assumption) ?_; rotate_left 1; focus (intro w hSw; (try dsimp only at hSw); go_simp; (try with_reducible rfl)))
      | (refine wpAnyH_take (i := 35) (v := undef) rfl (by kernel_rfl) (by kernel_rfl) (by kernel_rfl) (fun _ _ _ h => h) (Or.inr ⟨by rfl, rfl⟩) (by assumption) ?_)
      | fail
    try simp only [Act.put, List.getElem_toArray, List.getElem_cons_succ, List.getElem_cons_zero, List.setIfInBounds_toArray, List.set_cons_zero, List.set_cons_succ]
    first
      | (refine wpAnyH_take (i := 36) (v := ?_) rfl (by kernel_rfl) (by kernel_rfl) (by kernel_rfl) (fun _ _ _ h => h) (Or.inl ⟨by rfl, ?_⟩) (by assumption) ?_; rotate_left 1; focus (intro w hSw; (try dsimp only at hSw); go_simp; (try with_reducible rfl)))
      | fail
    try simp only [Act.put, List.getElem_toArray, List.getElem_cons_succ, List.getElem_cons_zero, List.setIfInBounds_toArray, List.set_cons_zero, List.set_cons_succ]
    first
      | (refine wpAnyH_take (i := 37) (v := ?_) rfl (by kernel_rfl) (by kernel_rfl) (by kernel_rfl) (fun _ _ _ h => h) (Or.inl ⟨by rfl, ?_⟩) (by assumption) ?_; rotate_left 1; focus (intro w hSw; (try dsimp only at hSw); go_simp; (try with_reducible rfl)))
      | fail
    try simp only [Act.put, List.getElem_toArray, List.getElem_cons_succ, List.getElem_cons_zero, List.setIfInBounds_toArray, List.set_cons_zero, List.set_cons_succ]
    first
      | (refine wpAnyH_take (i := 38) (v := ?_) rfl (by kernel_rfl) (by kernel_rfl) (by kernel_rfl) (fun _ _ _ h => h) (Or.inl ⟨by rfl, ?_⟩) (by assumption) ?_; rotate_left 1; focus (intro w hSw; (try dsimp only at hSw); go_simp; (try with_reducible rfl)))
      | (refine wpAnyH_take (i := 38) (v := undef) rfl (by kernel_rfl) (by kernel_rfl) (by kernel_rfl) (fun _ _ _ h => h) (Or.inr ⟨by rfl, rfl⟩) (by assumption) ?_)
      | fail
    try simp only [Act.put, List.getElem_toArray, List.getElem_cons_succ, List.getElem_cons_zero, List.setIfInBounds_toArray, List.set_cons_zero, List.set_cons_succ]
    first
      | (refine wpAnyH_take (i := 39) (v := ?_) rfl (by kernel_rfl) (by kernel_rfl) (by kernel_rfl) (fun _ _ _ h => h) (Or.inl ⟨by rfl, ?_⟩) (by assumption) ?_; rotate_left 1; focus (intro w hSw; (try dsimp only at hSw); go_simp; (try with_reducible rfl)))
      | (refine wpAnyH_take (i := 39) (v := undef) rfl (by kernel_rfl) (by kernel_rfl) (by kernel_rfl) (fun _ _ _ h => h) (Or.inr ⟨by rfl, rfl⟩) (by assumption) ?_)
      | fail
    try simp only [Act.put, List.getElem_toArray, List.getElem_cons_succ, List.getElem_cons_zero, List.setIfInBounds_toArray, List.set_cons_zero, List.set_cons_succ]
    first
      | (refine wpAnyH_take (i := 40) (v := ?_) rfl (by kernel_rfl) (by kernel_rfl) (by kernel_rfl) (fun _ _ _ h => h) (Or.inl ⟨by rfl, ?_⟩) (by assumption) ?_; rotate_left 1; focus (intro w hSw; (try dsimp only at hSw); go_simp; (try with_reducible rfl)))
      | (refine wpAnyH_take (i := 40) (v := undef) rfl (by kernel_rfl) (by kernel_rfl) (by kernel_rfl) (fun _ _ _ h => h) (Or.inr ⟨by rfl, rfl⟩) (by assumption) ?_)
      | fail
    try simp only [Act.put, List.getElem_toArray, List.getElem_cons_succ, List.getElem_cons_zero, List.setIfInBounds_toArray, List.set_cons_zero, List.set_cons_succ]
    first
      | (refine wpAnyH_take (i := 41) (v := ?_) rfl (by kernel_rfl) (by kernel_rfl) (by kernel_rfl) (fun _ _ _ h => h) (Or.inl ⟨by rfl, ?_⟩) (by assumption) ?_; rotate_left 1; focus (intro w hSw; (try dsimp only at hSw); go_simp; (try with_reducible rfl)))
      | (refine wpAnyH_take (i := 41) (v := undef) rfl (by kernel_rfl) (by kernel_rfl) (by kernel_rfl) (fun _ _ _ h => h) (Or.inr ⟨by rfl, rfl⟩) (by assumption) ?_)
      | fail
    try simp only [Act.put, List.getElem_toArray, List.getElem_cons_succ, List.getElem_cons_zero, List.setIfInBounds_toArray, List.set_cons_zero, List.set_cons_succ]
    first
      | (refine wpAnyH_take (i := 42) (v := undef) rfl (by kernel_rfl) (by kernel_rfl) (by kernel_rfl) (fun _ _ _ h => h) (Or.inr ⟨by rfl, rfl⟩) (by assumption) ?_; try simp only [Act.put, List.getElem_toArray, List.getElem_cons_succ, List.getElem_cons_zero, List.setIfInBounds_toArray, List.set_cons_zero, List.set_cons_succ])
      | (refine wpAnyH_ready (rs := [42]) (by kernel_rfl) (by simp) ?_; refine AllReadyH.cons rfl (fun K hK => ?_) AllReadyH.nil; go_simp; ((go_at_call 20; with_reducible refine (cK1 _ (by first | assumption | exact Below.drew (by assumption))).mono ?_; rintro e1 W1 ⟨rfl, g1⟩; replace g1 := Grew.trans' (a := (V7.alloc (.cells #[.int .i64 ku, .slice pv lu.length cv] 27))) (by first | assumption | exact Below.drew (by assumption)) g1)); go_wp2_with fail; refine hK.out _ _ (by first | assumption | exact Below.drew (by assumption)) (fun hHeld => ?_); clear hK K; (try simp only [Act.put, List.getElem_toArray, List.getElem_cons_succ, List.getElem_cons_zero, List.setIfInBounds_toArray, List.set_cons_zero, List.set_cons_succ]))
      | fail
    first
      | (refine wpAnyH_take (i := 43) (v := ?_) rfl (by kernel_rfl) (by kernel_rfl) (by kernel_rfl) (fun _ _ _ h => h) (Or.inl ⟨by rfl, ?_⟩) (by assumption) ?_; rotate_left 1; focus (intro w hSw; (try dsimp only at hSw); go_simp; (try with_reducible rfl)))
      | fail
    try simp only [Act.put, List.getElem_toArray, List.getElem_cons_succ, List.getElem_cons_zero, List.setIfInBounds_toArray, List.set_cons_zero, List.set_cons_succ]
    first
      | (refine wpAnyH_take (i := 44) (v := ?_) rfl (by kernel_rfl) (by kernel_rfl) (by kernel_rfl) (fun _ _ _ h => h) (Or.inl ⟨by rfl, ?_⟩) (by assumption) ?_; rotate_left 1; focus (intro w hSw; (try dsimp only at hSw); go_simp; (try with_reducible rfl)))
      | fail
    try simp only [Act.put, List.getElem_toArray, List.getElem_cons_succ, List.getElem_cons_zero, List.setIfInBounds_toArray, List.set_cons_zero, List.set_cons_succ]
    first
      | (refine wpAnyH_take (i := 45) (v := ?_) rfl (by kernel_rfl) (by kernel_rfl) (by kernel_rfl) (fun _ _ _ h => h) (Or.inl ⟨by rfl, ?_⟩) (by assumption) ?_; rotate_left 1; focus (intro w hSw; (try dsimp only at hSw); go_simp; (try with_reducible rfl)))
      | (refine wpAnyH_take (i := 45) (v := undef) rfl (by kernel_rfl) (by kernel_rfl) (by kernel_rfl) (fun _ _ _ h => h) (Or.inr ⟨by rfl, rfl⟩) (by assumption) ?_)
      | fail
    try simp only [Act.put, List.getElem_toArray, List.getElem_cons_succ, List.getElem_cons_zero, List.setIfInBounds_toArray, List.set_cons_zero, List.set_cons_succ]
    first
      | (refine wpAnyH_take (i := 46) (v := ?_) rfl (by kernel_rfl) (by kernel_rfl) (by kernel_rfl) (fun _ _ _ h => h) (Or.inl ⟨by rfl, ?_⟩) (by assumption) ?_; rotate_left 1; focus (intro w hSw; (try dsimp only at hSw); go_simp; (try with_reducible rfl)))
      | (refine wpAnyH_take (i := 46) (v := undef) rfl (by kernel_rfl) (by kernel_rfl) (by kernel_rfl) (fun _ _ _ h => h) (Or.inr ⟨by rfl, rfl⟩) (by assumption) ?_)
      | fail
    try simp only [Act.put, List.getElem_toArray, List.getElem_cons_succ, List.getElem_cons_zero, List.setIfInBounds_toArray, List.set_cons_zero, List.set_cons_succ]
    first
      | (refine wpAnyH_take (i := 47) (v := undef) rfl (by kernel_rfl) (by kernel_rfl) (by kernel_rfl) (fun _ _ _ h => h) (Or.inr ⟨by rfl, rfl⟩) (by assumption) ?_; try simp only [Act.put, List.getElem_toArray, List.getElem_cons_succ, List.getElem_cons_zero, List.setIfInBounds_toArray, List.set_cons_zero, List.set_cons_succ])
      | (refine wpAnyH_ready (rs := [47]) (by kernel_rfl) (by simp) ?_; refine AllReadyH.cons rfl (fun K hK => ?_) AllReadyH.nil; go_simp; ((go_at_call 20; with_reducible refine (cK2 _ (by first | assumption | exact Below.drew (by assumption))).mono ?_; rintro e1 W1 ⟨rfl, g1⟩; replace g1 := Grew.trans' (a := (V7.alloc (.cells #[.int .i64 ku, .slice pv lu.length cv] 27))) (by first | assumption | exact Below.drew (by assumption)) g1)); go_wp2_with fail; refine hK.out _ _ (by first | assumption | exact Below.drew (by assumption)) (fun hHeld => ?_); clear hK K; (try simp only [Act.put, List.getElem_toArray, List.getElem_cons_succ, List.getElem_cons_zero, List.setIfInBounds_toArray, List.set_cons_zero, List.set_cons_succ]))
      | fail
    first
      | (refine wpAnyH_take (i := 48) (v := ?_) rfl (by kernel_rfl) (by kernel_rfl) (by kernel_rfl) (fun _ _ _ h => h) (Or.inl ⟨by rfl, ?_⟩) (by assumption) ?_; rotate_left 1; focus (intro w hSw; (try dsimp only at hSw); go_simp; (try with_reducible rfl)))
      | fail
    try simp only [Act.put, List.getElem_toArray, List.getElem_cons_succ, List.getElem_cons_zero, List.setIfInBounds_toArray, List.set_cons_zero, List.set_cons_succ]
    first
      | (refine wpAnyH_take (i := 49) (v := ?_) rfl (by kernel_rfl) (by kernel_rfl) (by kernel_rfl) (fun _ _ _ h => h) (Or.inl ⟨by rfl, ?_⟩) (by assumption) ?_; rotate_left 1; focus (intro w hSw; (try dsimp only at hSw); go_simp; (try with_reducible rfl)))
      | fail
    try simp only [Act.put, List.getElem_toArray, List.getElem_cons_succ, List.getElem_cons_zero, List.setIfInBounds_toArray, List.set_cons_zero, List.set_cons_succ]
    refine wpAnyH_done (by kernel_rfl) ?_ _
    go_wp2
    go_ret
    exact ⟨rfl, gw8.trans' (by assumption)⟩
  · go_simp
    refine hK.out _ _ (by exact (Below.drew g0).alloc (Nat.le_refl _) _) (fun hHeld => ?_)
    clear hK K
    try simp only [Act.put, List.getElem_toArray, List.getElem_cons_succ, List.getElem_cons_zero, List.setIfInBounds_toArray, List.set_cons_zero, List.set_cons_succ]
    refine wpAnyH_ready (rs := [4]) (by kernel_rfl) (by simp) ?_
    refine AllReadyH.cons rfl (fun K hK => ?_) AllReadyH.nil
    go_simp
    go_at_call 13; with_reducible refine (cO _ (Below.drew (g0.alloc (Nat.le_refl _) _))).mono ?_; rintro e1 V1 ⟨rfl, hblk, g1⟩
    have gB := Grew.trans' (a := V0) (Below.drew (g0.alloc (Nat.le_refl _) _)) g1
    have hbx := (g1.block V0.heap.size (by simp)).trans (show (V0.alloc (.cells #[.int .i64 0, .slice none 0 0] 27)).drew.heap[V0.heap.size]? = _ from heap_alloc_new V0 _)
    have hb0 : V1.cell? ⟨V0.heap.size, 0, none⟩ = some (.int .i64 0) := by rw [cell_of_row V1 _ 0 _ _ (0, 0) hbx]; rfl
    have hb1 : V1.cell? ⟨V0.heap.size, 1, none⟩ = some (.slice none 0 0) := by rw [cell_of_row V1 _ 1 _ _ (0, 0) hbx]; rfl
    have fb0 : V1.frozen? ⟨V0.heap.size, 0, none⟩ = false := by simp [World.frozen?, hbx]
    have fb1 : V1.frozen? ⟨V0.heap.size, 1, none⟩ = false := by simp [World.frozen?, hbx]
    go_wp2_with fail
    refine hK.out _ _ (by exact gB) (fun hHeld => ?_)
    clear hK K
    try simp only [Act.put, List.getElem_toArray, List.getElem_cons_succ, List.getElem_cons_zero, List.setIfInBounds_toArray, List.set_cons_zero, List.set_cons_succ]
    first
      | (refine wpAnyH_take (i := 5) (v := ?_) rfl (by kernel_rfl) (by kernel_rfl) (by kernel_rfl) (fun _ _ _ h => h) (Or.inl ⟨by rfl, ?_⟩) (by assumption) ?_; rotate_left 1; focus (intro w hSw; (try dsimp only at hSw); go_simp; (try with_reducible rfl)))
      | fail
    try simp only [Act.put, List.getElem_toArray, List.getElem_cons_succ, List.getElem_cons_zero, List.setIfInBounds_toArray, List.set_cons_zero, List.set_cons_succ]
    refine wpAnyH_ready (rs := [7]) (by kernel_rfl) (by simp) ?_
    refine AllReadyH.cons rfl (fun K hK => ?_) AllReadyH.nil
    go_simp
    go_wp2_with fail
    refine hK.out _ _ (by exact (gB.setCell (p := ⟨_, _, none⟩) (Nat.le_refl _) _).setCell (p := ⟨_, _, none⟩) (Nat.le_refl _) _) (fun hHeld => ?_)
    clear hK K
    try simp only [Act.put, List.getElem_toArray, List.getElem_cons_succ, List.getElem_cons_zero, List.setIfInBounds_toArray, List.set_cons_zero, List.set_cons_succ]
    refine wpAnyH_done (by kernel_rfl) ?_ _
    have hbi1 : V1.heap[V0.heap.size + 1]? = some (.cells (Lib.byteCells l ++ [Value.int .u8 71, Value.int .u8 71, Value.int .u8 71]).toArray 5 (0, 0)) := by
      have h0 : (V0.alloc (.cells #[.int .i64 0, .slice none 0 0] 27)).drew.heap.size = V0.heap.size + 1 := by simp
      rw [← h0]; exact hblk
    obtain ⟨gx, hgx⟩ : ∃ g, V0.heap.size = g := ⟨_, rfl⟩
    obtain ⟨gi, hgi⟩ : ∃ g, V0.heap.size + 1 = g := ⟨_, rfl⟩
    rw [hgi] at hbi1 ⊢
    have gX := (gB.setCell (p := ⟨V0.heap.size, 0, none⟩) (Nat.le_refl _) (.int .i64 k)).setCell (p := ⟨V0.heap.size, 1, none⟩) (Nat.le_refl _) (.slice (some ⟨gi, 0, none⟩) l.length (l.length + 3))
    have hxb1 := set_cell_any V1 V0.heap.size 0 _ _ _ (.int .i64 k) hbx
    have hxb := set_cell_any _ V0.heap.size 1 _ _ _ (.slice (some ⟨gi, 0, none⟩) l.length (l.length + 3)) hxb1
    have hbi2 := (heap_setCell_other V1 ⟨V0.heap.size, 0, none⟩ gi (.int .i64 k) (by show gi ≠ V0.heap.size; omega)).trans hbi1
    have hbi := (heap_setCell_other _ ⟨V0.heap.size, 1, none⟩ gi (.slice (some ⟨gi, 0, none⟩) l.length (l.length + 3)) (by show gi ≠ V0.heap.size; omega)).trans hbi2
    obtain ⟨X, hX⟩ : ∃ X, (V1.setCell ⟨V0.heap.size, 0, none⟩ (.int .i64 k)).setCell ⟨V0.heap.size, 1, none⟩ (.slice (some ⟨gi, 0, none⟩) l.length (l.length + 3)) = X := ⟨_, rfl⟩
    rw [hX] at hxb gX hbi ⊢
    replace gX : Grew V0 X := gX
    rw [hgx] at hxb ⊢
    simp only [List.setIfInBounds_toArray, List.set_cons_zero, List.set_cons_succ] at hxb
    have HGI := Lib.hid hgi
    have HGX := Lib.hid hgx
    clear hgi hgx hbi1 hbi2 hxb1 hblk g1 gB hbx hb0 hb1 fb0 fb1 hHeld
    have HX := Lib.hid hX
    have hgxl := (Array.getElem?_eq_some_iff.1 hxb).1
    have hgil := (Array.getElem?_eq_some_iff.1 hbi).1
    clear hX cO
    have cOb := own_bytes q b cap2 71 X (by omega) (HB.out.below (gw0.trans' gX) (Nat.le_refl _))
    have x0 := fun W (g : Grew X W) => (g.cell (p := ⟨gx, 0, none⟩) hgxl).trans (by rw [cell_of_row X gx 0 _ _ (0, 0) hxb]; rfl : X.cell? ⟨gx, 0, none⟩ = some (.int .i64 k))
    have x1 := fun W (g : Grew X W) => (g.cell (p := ⟨gx, 1, none⟩) hgxl).trans (by rw [cell_of_row X gx 1 _ _ (0, 0) hxb]; rfl : X.cell? ⟨gx, 1, none⟩ = some (.slice (some ⟨gi, 0, none⟩) l.length (l.length + 3)))
    have gXX : Grew X X := Below.refl _ _
    go_wp2_with fail
    go_fit cOb
    rintro e2 V2 ⟨rfl, hblk2, g2⟩
    obtain ⟨gb, hgb⟩ : ∃ g, X.heap.size = g := ⟨_, rfl⟩
    rw [hgb] at hblk2 ⊢
    have HGB := Lib.hid hgb
    have g02 := gX.trans' g2
    have hri := rd_own hbi
    have hrb := rd_own hblk2
    clear cOb hgb
    have cP := object_Print k (some ⟨gi, 0, none⟩) l (l.length + 3) V2 (by omega) (hri.below g2 (Nat.le_refl _)) (HT.out.grew (gw0.trans' g02))
    go_wp2_with fail
    go_fit cP
    intro e3 V3 h3
    obtain ⟨g23, px, cx, rfl, hrx, -, -⟩ := printO_view h3
    have g03 := g02.trans' g23
    have gX3 := g2.trans' g23
    clear h3 cP
    have cP := ref07_Print k p l cap V3 (by omega) (HR.out.below (gw0.trans' g03) (Nat.le_refl _))
    go_wp2_with fail
    go_fit cP
    intro e4 V4 h4
    obtain ⟨g34, py, cy, rfl, hry, -, -⟩ := printO_view h4
    have g04 := g03.trans' g34
    have gX4 := gX3.trans' g34
    have g24 := g23.trans' g34
    clear h4 cP
    have cP := object_Parse (some ⟨gb, 0, none⟩) b (b.length + 3) V4 (hrb.below g24 (Nat.le_refl _)) (fun h => by cases h) (by omega) (by omega) (HM.out.grew (gw0.trans' g04)) (HT.out.grew (gw0.trans' g04))
    go_wp2_with fail
    go_fit cP
    intro e5 V5 h5
    obtain ⟨g45, pu, cu, rfl, hru⟩ := parseO_view h5
    have g05 := g04.trans' g45
    clear h5 cP
    obtain ⟨LU, EU⟩ : ∃ LU, parseRO b = LU := ⟨_, rfl⟩
    obtain ⟨ku, lu, eu⟩ := LU
    rw [EU] at hru ⊢
    simp only at hru ⊢
    have HEU := Lib.hid EU
    clear EU
    obtain ⟨V6, hV6, g56, g66, hq6⟩ := boxed V5 #[.int .i64 ku, .slice pu lu.length cu] 27
    have hb6 : V6.heap[V5.heap.size]? = some (.cells #[.int .i64 ku, .slice pu lu.length cu] 27 (0, 0)) := by rw [← hV6]; exact heap_alloc_new V5 _
    have g06 := g05.trans' g56
    subst hV6
    have cP := ref07_Parse q b cap2 _ (HB.out.below (gw0.trans' g06) (Nat.le_refl _)) hbc (by omega)
    go_wp2_with fail
    go_fit cP
    intro e7 V7 h7
    obtain ⟨g67, pv, cv, rfl, hrv⟩ := parseO_view h7
    rw [HEU.out] at hrv ⊢
    simp only at hrv ⊢
    have g07 := g06.trans' g67
    clear h7 cP hq6
    obtain ⟨V8, hV8, g78, g88, hq8⟩ := boxed V7 #[.int .i64 ku, .slice pv lu.length cv] 27
    have hb8 : V8.heap[V7.heap.size]? = some (.cells #[.int .i64 ku, .slice pv lu.length cv] 27 (0, 0)) := by rw [← hV8]; exact heap_alloc_new V7 _
    have g08 := g07.trans' g78
    have gX8 : Grew X V8 := (((gX4.trans' g45).trans' g56).trans' g67).trans' g78
    have g28 : Grew V2 V8 := (((g24.trans' g45).trans' g56).trans' g67).trans' g78
    have g38 : Grew V3 V8 := (((g34.trans' g45).trans' g56).trans' g67).trans' g78
    have g48 : Grew V4 V8 := ((g45.trans' g56).trans' g67).trans' g78
    have g58 : Grew V5 V8 := (g56.trans' g67).trans' g78
    have hb68 := row_grew hb6 (g67.trans' g78)
    have ro := fun W (g : Grew V8 W) => range_grew (row_two (row_grew (row_grew hbo gX) gX8)) g
    have rx := fun W (g : Grew V8 W) => range_grew (row_two (row_grew hxb gX8)) g
    have ru := fun W (g : Grew V8 W) => range_grew (row_two hb68) g
    have rv := fun W (g : Grew V8 W) => range_grew (row_two hb8) g
    have gw8 := gw0.trans' g08
    have z0 := fun W (g : Grew V8 W) => q0 W (g08.trans' g)
    have z1 := fun W (g : Grew V8 W) => q1 W (g08.trans' g)
    have y0 := fun W (g : Grew V8 W) => x0 W (gX8.trans' g)
    have y1 := fun W (g : Grew V8 W) => x1 W (gX8.trans' g)
    obtain ⟨LX, EX⟩ : ∃ LX, printRO k l = LX := ⟨_, rfl⟩
    obtain ⟨lx, ex⟩ := LX
    rw [EX] at hrx hry ⊢
    simp only at hrx hry ⊢
    have hbb : (lx == lx) = true := by simp
    have huu : (lu == lu) = true := by simp
    have hkk : (ku == ku) = true := by simp
    have hee : (ex == ex) = true := by simp
    have hff : (eu == eu) = true := by simp
    have cA := fun W (g : Grew V8 W) => ca W (g08.trans' g)
    have cB := fun W (g : Grew V8 W) => help_Bytes px py lx lx cx cy W (hrx.below (g38.trans' g) (Nat.le_refl _)) (hry.below (g48.trans' g) (Nat.le_refl _))
    simp only [hbb] at cB
    have cI := fun W (g : Grew V8 W) => object_Id k (some ⟨gi, 0, none⟩) l (l.length + 3) W (by omega) (hri.below (gX8.trans' g) (Nat.le_refl _)) (HT.out.grew (gw8.trans' g))
    have cJ := fun W (g : Grew V8 W) => ref07_Id k p l cap W (by omega) (HR.out.below (gw8.trans' g) (Nat.le_refl _))
    have hid20 := idO_len k l
    obtain ⟨ID, hID⟩ : ∃ ID, idO k l = ID := ⟨_, rfl⟩
    simp only [hID] at cI cJ
    rw [hID] at hid20
    have cOb := fun W (g : Grew V8 W) => help_Object ku ku pu pv lu lu cu cv W (hru.below (g58.trans' g) (Nat.le_refl _)) (hrv.below (g78.trans' g) (Nat.le_refl _))
    simp only [huu, hkk, Bool.and_self] at cOb
    have cW1 := fun W (g : Grew V8 W) => object_Word k W
    have cW2 := fun W (g : Grew V8 W) => ref07_Word k W
    obtain ⟨S, hS⟩ : ∃ S : ByteArray, (⟨(Pure.wordO k).toArray⟩ : ByteArray) = S := ⟨_, rfl⟩
    simp only [hS] at cW1 cW2
    have hSS : (S.toList == S.toList) = true := by simp
    have cK1 := fun W (g : Grew V8 W) => kept_bytes gi p l cap 71 W (by omega) (row_grew hbi (gX8.trans' g)) (HR.out.below (gw8.trans' g) (Nat.le_refl _))
    have cK2 := fun W (g : Grew V8 W) => kept_bytes gb q b cap2 71 W (by omega) (row_grew hblk2 (g28.trans' g)) (HB.out.below (gw8.trans' g) (Nat.le_refl _))
    have hEq : ∀ W, (binOp .eql 30 (idV ID) (idV ID)).run Tryd.prog W = .ok (.bool true) W := fun W => by rw [show idV ID = .agg (Lib.byteCells ID).toArray from rfl, eql_id ID ID hid20 hid20 W, beq_self_eq_true]
    have hGd : ∀ x y W, (eqGuard .eql 30 x y (idV ID) (idV ID)).run Tryd.prog W = .ok () W := fun x y W => guard_id .eql x y ID ID W
    have nfo : (Tryd.prog.info? 27).map (·.size) = some 2 := by kernel_rfl
    subst hV8
    have g80 : Grew V0 _ := g08
    clear ca hrx hry hru hrv hri hrb hbi hblk2 hxb hb6 hb8 hb68 q0 q1 x0 x1 hid20 hID hS EX gX gXX g2 g02 g23 g03 gX3 g34 g04 gX4 g24 g45 g05 g56 g66 g06 g67 g07 g78 g08 gX8 g28 g38 g48 g58 hq8 hgxl hgil hbo
    go_wp2_with fail
    refine wp_region_held_drew (S := fun w' => Grew (V7.alloc (.cells #[.int .i64 ku, .slice pv lu.length cv] 27)) w') (by kernel_rfl) (by first | assumption | exact Below.drew (by assumption)) (fun hHeld => ?_)
    refine wpAnyH_ready (rs := [0]) (by kernel_rfl) (by simp) ?_
    refine AllReadyH.cons rfl (fun K hK => ?_) AllReadyH.nil
    go_simp
    (go_at_call 8; with_reducible refine (cA _ (by first | assumption | exact Below.drew (by assumption))).mono ?_; rintro e1 W1 ⟨rfl, g1⟩; replace g1 := Grew.trans' (a := (V7.alloc (.cells #[.int .i64 ku, .slice pv lu.length cv] 27))) (by first | assumption | exact Below.drew (by assumption)) g1)
    go_wp2_with fail
    refine hK.out _ _ (by first | assumption | exact Below.drew (by assumption)) (fun hHeld => ?_)
    clear hK K
    try simp only [Act.put, List.getElem_toArray, List.getElem_cons_succ, List.getElem_cons_zero, List.setIfInBounds_toArray, List.set_cons_zero, List.set_cons_succ]
    first
      | (refine wpAnyH_take (i := 1) (v := ?_) rfl (by kernel_rfl) (by kernel_rfl) (by kernel_rfl) (fun _ _ _ h => h) (Or.inl ⟨by rfl, ?_⟩) (by assumption) ?_; rotate_left 1; focus (intro w hSw; (try dsimp only at hSw); go_simp; (try with_reducible rfl)))
      | fail
    try simp only [Act.put, List.getElem_toArray, List.getElem_cons_succ, List.getElem_cons_zero, List.setIfInBounds_toArray, List.set_cons_zero, List.set_cons_succ]
    first
      | (refine wpAnyH_take (i := 2) (v := ?_) rfl (by kernel_rfl) (by kernel_rfl) (by kernel_rfl) (fun _ _ _ h => h) (Or.inl ⟨by rfl, ?_⟩) (by assumption) ?_; rotate_left 1; focus (intro w hSw; (try dsimp only at hSw); go_simp; (try with_reducible rfl)))
      | (refine wpAnyH_take (i := 2) (v := undef) rfl (by kernel_rfl) (by kernel_rfl) (by kernel_rfl) (fun _ _ _ h => h) (Or.inr ⟨by rfl, rfl⟩) (by assumption) ?_)
      | fail
    try simp only [Act.put, List.getElem_toArray, List.getElem_cons_succ, List.getElem_cons_zero, List.setIfInBounds_toArray, List.set_cons_zero, List.set_cons_succ]
    first
      | (refine wpAnyH_take (i := 3) (v := ?_) rfl (by kernel_rfl) (by kernel_rfl) (by kernel_rfl) (fun _ _ _ h => h) (Or.inl ⟨by rfl, ?_⟩) (by assumption) ?_; rotate_left 1; focus (intro w hSw; (try dsimp only at hSw); go_simp; (try with_reducible rfl)))
      | (refine wpAnyH_take (i := 3) (v := undef) rfl (by kernel_rfl) (by kernel_rfl) (by kernel_rfl) (fun _ _ _ h => h) (Or.inr ⟨by rfl, rfl⟩) (by assumption) ?_)
      | fail
    try simp only [Act.put, List.getElem_toArray, List.getElem_cons_succ, List.getElem_cons_zero, List.setIfInBounds_toArray, List.set_cons_zero, List.set_cons_succ]
    first
      | (refine wpAnyH_take (i := 4) (v := undef) rfl (by kernel_rfl) (by kernel_rfl) (by kernel_rfl) (fun _ _ _ h => h) (Or.inr ⟨by rfl, rfl⟩) (by assumption) ?_; try simp only [Act.put, List.getElem_toArray, List.getElem_cons_succ, List.getElem_cons_zero, List.setIfInBounds_toArray, List.set_cons_zero, List.set_cons_succ])
      | (refine wpAnyH_ready (rs := [4]) (by kernel_rfl) (by simp) ?_; refine AllReadyH.cons rfl (fun K hK => ?_) AllReadyH.nil; go_simp; go_at_call 16; with_reducible refine (cB _ (by first | assumption | exact Below.drew (by assumption))).mono ?_; rintro e1 W1 ⟨rfl, h1⟩; subst W1; go_wp2_with fail; refine hK.out _ _ (by first | assumption | exact Below.drew (by assumption)) (fun hHeld => ?_); clear hK K; (try simp only [Act.put, List.getElem_toArray, List.getElem_cons_succ, List.getElem_cons_zero, List.setIfInBounds_toArray, List.set_cons_zero, List.set_cons_succ]))
      | fail
    first
      | (refine wpAnyH_take (i := 5) (v := ?_) rfl (by kernel_rfl) (by kernel_rfl) (by kernel_rfl) (fun _ _ _ h => h) (Or.inl ⟨by rfl, ?_⟩) (by assumption) ?_; rotate_left 1; focus (intro w hSw; (try dsimp only at hSw); go_simp; (try with_reducible rfl)))
      | fail
    try simp only [Act.put, List.getElem_toArray, List.getElem_cons_succ, List.getElem_cons_zero, List.setIfInBounds_toArray, List.set_cons_zero, List.set_cons_succ]
    first
      | (refine wpAnyH_take (i := 6) (v := ?_) rfl (by kernel_rfl) (by kernel_rfl) (by kernel_rfl) (fun _ _ _ h => h) (Or.inl ⟨by rfl, ?_⟩) (by assumption) ?_; rotate_left 1; focus (intro w hSw; (try dsimp only at hSw); go_simp; (try with_reducible rfl)))
      | fail
    try simp only [Act.put, List.getElem_toArray, List.getElem_cons_succ, List.getElem_cons_zero, List.setIfInBounds_toArray, List.set_cons_zero, List.set_cons_succ]
    first
      | (refine wpAnyH_take (i := 7) (v := ?_) rfl (by kernel_rfl) (by kernel_rfl) (by kernel_rfl) (fun _ _ _ h => h) (Or.inl ⟨by rfl, ?_⟩) (by assumption) ?_; rotate_left 1; focus (intro w hSw; (try dsimp only at hSw); go_simp; (try with_reducible rfl)))
      | (refine wpAnyH_take (i := 7) (v := undef) rfl (by kernel_rfl) (by kernel_rfl) (by kernel_rfl) (fun _ _ _ h => h) (Or.inr ⟨by rfl, rfl⟩) (by assumption) ?_)
      | fail
    try simp only [Act.put, List.getElem_toArray, List.getElem_cons_succ, List.getElem_cons_zero, List.setIfInBounds_toArray, List.set_cons_zero, List.set_cons_succ]
    first
      | (refine wpAnyH_take (i := 8) (v := ?_) rfl (by kernel_rfl) (by kernel_rfl) (by kernel_rfl) (fun _ _ _ h => h) (Or.inl ⟨by rfl, ?_⟩) (by assumption) ?_; rotate_left 1; focus (intro w hSw; (try dsimp only at hSw); go_simp; (try with_reducible rfl)))
      | (refine wpAnyH_take (i := 8) (v := undef) rfl (by kernel_rfl) (by kernel_rfl) (by kernel_rfl) (fun _ _ _ h => h) (Or.inr ⟨by rfl, rfl⟩) (by assumption) ?_)
      | fail
    try simp only [Act.put, List.getElem_toArray, List.getElem_cons_succ, List.getElem_cons_zero, List.setIfInBounds_toArray, List.set_cons_zero, List.set_cons_succ]
    first
      | (refine wpAnyH_take (i := 9) (v := ?_) rfl (by kernel_rfl) (by kernel_rfl) (by kernel_rfl) (fun _ _ _ h => h) (Or.inl ⟨by rfl, ?_⟩) (by assumption) ?_; rotate_left 1; focus (intro w hSw; (try dsimp only at hSw); go_simp; (try with_reducible rfl)))
      | (refine wpAnyH_take (i := 9) (v := undef) rfl (by kernel_rfl) (by kernel_rfl) (by kernel_rfl) (fun _ _ _ h => h) (Or.inr ⟨by rfl, rfl⟩) (by assumption) ?_)
      | fail
    try simp only [Act.put, List.getElem_toArray, List.getElem_cons_succ, List.getElem_cons_zero, List.setIfInBounds_toArray, List.set_cons_zero, List.set_cons_succ]
    first
      | (refine wpAnyH_take (i := 10) (v := ?_) rfl (by kernel_rfl) (by kernel_rfl) (by kernel_rfl) (fun _ _ _ h => h) (Or.inl ⟨by rfl, ?_⟩) (by assumption) ?_; rotate_left 1; focus (intro w hSw; (try dsimp only at hSw); go_simp; (try with_reducible rfl)))
      | fail
    try simp only [Act.put, List.getElem_toArray, List.getElem_cons_succ, List.getElem_cons_zero, List.setIfInBounds_toArray, List.set_cons_zero, List.set_cons_succ]
    first
      | (refine wpAnyH_take (i := 11) (v := ?_) rfl (by kernel_rfl) (by kernel_rfl) (by kernel_rfl) (fun _ _ _ h => h) (Or.inl ⟨by rfl, ?_⟩) (by assumption) ?_; rotate_left 1; focus (intro w hSw; (try dsimp only at hSw); go_simp; (try with_reducible rfl)))
      | fail
    try simp only [Act.put, List.getElem_toArray, List.getElem_cons_succ, List.getElem_cons_zero, List.setIfInBounds_toArray, List.set_cons_zero, List.set_cons_succ]
    first
      | (refine' wpAnyH_take (i := 12) (v := _) rfl (by kernel_rfl) (by kernel_rfl) (by kernel_rfl) (fun _ _ _ h => h) (yieldsIf_load_mid (by rfl) _ _ rfl _ _ rfl _ _ (fun w hSw => (by (first | exact ro _ hSw | exact rx _ hSw | exact ru _ hSw | exact rv _ hSw))) Tryd.underlying27 rfl (by first | assumption | kernel_rfl)) (by assumption) ?_)
      | (refine wpAnyH_take (i := 12) (v := undef) rfl (by kernel_rfl) (by kernel_rfl) (by kernel_rfl) (fun _ _ _ h => h) (Or.inr ⟨by rfl, rfl⟩) (by assumption) ?_)
      | fail
    try simp only [Act.put, List.getElem_toArray, List.getElem_cons_succ, List.getElem_cons_zero, List.setIfInBounds_toArray, List.set_cons_zero, List.set_cons_succ]
    first
      | (refine' wpAnyH_take (i := 14) (v := _) rfl (by kernel_rfl) (by kernel_rfl) (by kernel_rfl) (fun _ _ _ h => h) (yieldsIf_load_mid (by rfl) _ _ rfl _ _ rfl _ _ (fun w hSw => (by (first | exact ro _ hSw | exact rx _ hSw | exact ru _ hSw | exact rv _ hSw))) Tryd.underlying27 rfl (by first | assumption | kernel_rfl)) (by assumption) ?_)
      | (refine wpAnyH_take (i := 14) (v := undef) rfl (by kernel_rfl) (by kernel_rfl) (by kernel_rfl) (fun _ _ _ h => h) (Or.inr ⟨by rfl, rfl⟩) (by assumption) ?_)
      | fail
    try simp only [Act.put, List.getElem_toArray, List.getElem_cons_succ, List.getElem_cons_zero, List.setIfInBounds_toArray, List.set_cons_zero, List.set_cons_succ]
    first
      | (refine wpAnyH_take (i := 13) (v := undef) rfl (by kernel_rfl) (by kernel_rfl) (by kernel_rfl) (fun _ _ _ h => h) (Or.inr ⟨by rfl, rfl⟩) (by assumption) ?_; try simp only [Act.put, List.getElem_toArray, List.getElem_cons_succ, List.getElem_cons_zero, List.setIfInBounds_toArray, List.set_cons_zero, List.set_cons_succ])
      | (refine wpAnyH_ready (rs := [13]) (by kernel_rfl) (by simp) ?_; refine AllReadyH.cons rfl (fun K hK => ?_) AllReadyH.nil; go_simp; ((go_at_call 9; with_reducible refine (cI _ (by first | assumption | exact Below.drew (by assumption))).mono ?_; rintro e1 W1 ⟨rfl, g1⟩; replace g1 := Grew.trans' (a := (V7.alloc (.cells #[.int .i64 ku, .slice pv lu.length cv] 27))) (by first | assumption | exact Below.drew (by assumption)) g1)); go_wp2_with fail; refine hK.out _ _ (by first | assumption | exact Below.drew (by assumption)) (fun hHeld => ?_); clear hK K; (try simp only [Act.put, List.getElem_toArray, List.getElem_cons_succ, List.getElem_cons_zero, List.setIfInBounds_toArray, List.set_cons_zero, List.set_cons_succ]))
      | fail
    first
      | (refine wpAnyH_take (i := 15) (v := undef) rfl (by kernel_rfl) (by kernel_rfl) (by kernel_rfl) (fun _ _ _ h => h) (Or.inr ⟨by rfl, rfl⟩) (by assumption) ?_; try simp only [Act.put, List.getElem_toArray, List.getElem_cons_succ, List.getElem_cons_zero, List.setIfInBounds_toArray, List.set_cons_zero, List.set_cons_succ])
      | (refine wpAnyH_ready (rs := [15]) (by kernel_rfl) (by simp) ?_; refine AllReadyH.cons rfl (fun K hK => ?_) AllReadyH.nil; go_simp; ((go_at_call 17; with_reducible refine (cJ _ (by first | assumption | exact Below.drew (by assumption))).mono ?_; rintro e1 W1 ⟨rfl, g1⟩; replace g1 := Grew.trans' (a := (V7.alloc (.cells #[.int .i64 ku, .slice pv lu.length cv] 27))) (by first | assumption | exact Below.drew (by assumption)) g1)); go_wp2_with fail; refine hK.out _ _ (by first | assumption | exact Below.drew (by assumption)) (fun hHeld => ?_); clear hK K; (try simp only [Act.put, List.getElem_toArray, List.getElem_cons_succ, List.getElem_cons_zero, List.setIfInBounds_toArray, List.set_cons_zero, List.set_cons_succ]))
      | fail
    first
      | (refine wpAnyH_take (i := 16) (v := ?_) rfl (by kernel_rfl) (by kernel_rfl) (by kernel_rfl) (fun _ _ _ h => h) (Or.inl ⟨by rfl, ?_⟩) (by assumption) ?_; rotate_left 1; focus (intro w hSw; (try dsimp only at hSw); go_simp; (try with_reducible rfl)))
      | (refine wpAnyH_take (i := 16) (v := undef) rfl (by kernel_rfl) (by kernel_rfl) (by kernel_rfl) (fun _ _ _ h => h) (Or.inr ⟨by rfl, rfl⟩) (by assumption) ?_)
      | fail
    try simp only [Act.put, List.getElem_toArray, List.getElem_cons_succ, List.getElem_cons_zero, List.setIfInBounds_toArray, List.set_cons_zero, List.set_cons_succ]
    first
      | (refine wpAnyH_take (i := 17) (v := ?_) rfl (by kernel_rfl) (by kernel_rfl) (by kernel_rfl) (fun _ _ _ h => h) (Or.inl ⟨by rfl, ?_⟩) (by assumption) ?_; rotate_left 1; focus (intro w hSw; (try dsimp only at hSw); go_simp; (try with_reducible rfl)))
      | fail
    try simp only [Act.put, List.getElem_toArray, List.getElem_cons_succ, List.getElem_cons_zero, List.setIfInBounds_toArray, List.set_cons_zero, List.set_cons_succ]
    first
      | (refine wpAnyH_take (i := 18) (v := ?_) rfl (by kernel_rfl) (by kernel_rfl) (by kernel_rfl) (fun _ _ _ h => h) (Or.inl ⟨by rfl, ?_⟩) (by assumption) ?_; rotate_left 1; focus (intro w hSw; (try dsimp only at hSw); go_simp; (try with_reducible rfl)))
      | fail
    try simp only [Act.put, List.getElem_toArray, List.getElem_cons_succ, List.getElem_cons_zero, List.setIfInBounds_toArray, List.set_cons_zero, List.set_cons_succ]
    first
      | (refine' wpAnyH_take (i := 19) (v := _) rfl (by kernel_rfl) (by kernel_rfl) (by kernel_rfl) (fun _ _ _ h => h) (yieldsIf_load_mid (by rfl) _ _ rfl _ _ rfl _ _ (fun w hSw => (by (first | exact ro _ hSw | exact rx _ hSw | exact ru _ hSw | exact rv _ hSw))) Tryd.underlying27 rfl (by first | assumption | kernel_rfl)) (by assumption) ?_)
      | (refine wpAnyH_take (i := 19) (v := undef) rfl (by kernel_rfl) (by kernel_rfl) (by kernel_rfl) (fun _ _ _ h => h) (Or.inr ⟨by rfl, rfl⟩) (by assumption) ?_)
      | fail
    try simp only [Act.put, List.getElem_toArray, List.getElem_cons_succ, List.getElem_cons_zero, List.setIfInBounds_toArray, List.set_cons_zero, List.set_cons_succ]
    first
      | (refine' wpAnyH_take (i := 20) (v := _) rfl (by kernel_rfl) (by kernel_rfl) (by kernel_rfl) (fun _ _ _ h => h) (yieldsIf_load_mid (by rfl) _ _ rfl _ _ rfl _ _ (fun w hSw => (by (first | exact ro _ hSw | exact rx _ hSw | exact ru _ hSw | exact rv _ hSw))) Tryd.underlying27 rfl (by first | assumption | kernel_rfl)) (by assumption) ?_)
      | (refine wpAnyH_take (i := 20) (v := undef) rfl (by kernel_rfl) (by kernel_rfl) (by kernel_rfl) (fun _ _ _ h => h) (Or.inr ⟨by rfl, rfl⟩) (by assumption) ?_)
      | fail
    try simp only [Act.put, List.getElem_toArray, List.getElem_cons_succ, List.getElem_cons_zero, List.setIfInBounds_toArray, List.set_cons_zero, List.set_cons_succ]
    first
      | (refine wpAnyH_take (i := 21) (v := undef) rfl (by kernel_rfl) (by kernel_rfl) (by kernel_rfl) (fun _ _ _ h => h) (Or.inr ⟨by rfl, rfl⟩) (by assumption) ?_; try simp only [Act.put, List.getElem_toArray, List.getElem_cons_succ, List.getElem_cons_zero, List.setIfInBounds_toArray, List.set_cons_zero, List.set_cons_succ])
      | (refine wpAnyH_ready (rs := [21]) (by kernel_rfl) (by simp) ?_; refine AllReadyH.cons rfl (fun K hK => ?_) AllReadyH.nil; go_simp; ((go_at_call 12; with_reducible refine (cOb _ (by first | assumption | exact Below.drew (by assumption))).mono ?_; rintro e1 W1 ⟨rfl, g1⟩; replace g1 := Grew.trans' (a := (V7.alloc (.cells #[.int .i64 ku, .slice pv lu.length cv] 27))) (by first | assumption | exact Below.drew (by assumption)) g1)); go_wp2_with fail; refine hK.out _ _ (by first | assumption | exact Below.drew (by assumption)) (fun hHeld => ?_); clear hK K; (try simp only [Act.put, List.getElem_toArray, List.getElem_cons_succ, List.getElem_cons_zero, List.setIfInBounds_toArray, List.set_cons_zero, List.set_cons_succ]))
      | fail
    first
      | (refine wpAnyH_take (i := 22) (v := ?_) rfl (by kernel_rfl) (by kernel_rfl) (by kernel_rfl) (fun _ _ _ h => h) (Or.inl ⟨by rfl, ?_⟩) (by assumption) ?_; rotate_left 1; focus (intro w hSw; (try dsimp only at hSw); go_simp; (try with_reducible rfl)))
      | fail
    try simp only [Act.put, List.getElem_toArray, List.getElem_cons_succ, List.getElem_cons_zero, List.setIfInBounds_toArray, List.set_cons_zero, List.set_cons_succ]
    first
      | (refine wpAnyH_take (i := 23) (v := ?_) rfl (by kernel_rfl) (by kernel_rfl) (by kernel_rfl) (fun _ _ _ h => h) (Or.inl ⟨by rfl, ?_⟩) (by assumption) ?_; rotate_left 1; focus (intro w hSw; (try dsimp only at hSw); go_simp; (try with_reducible rfl)))
      | fail
    try simp only [Act.put, List.getElem_toArray, List.getElem_cons_succ, List.getElem_cons_zero, List.setIfInBounds_toArray, List.set_cons_zero, List.set_cons_succ]
    first
      | (refine wpAnyH_take (i := 24) (v := ?_) rfl (by kernel_rfl) (by kernel_rfl) (by kernel_rfl) (fun _ _ _ h => h) (Or.inl ⟨by rfl, ?_⟩) (by assumption) ?_; rotate_left 1; focus (intro w hSw; (try dsimp only at hSw); go_simp; (try with_reducible rfl)))
      | (refine wpAnyH_take (i := 24) (v := undef) rfl (by kernel_rfl) (by kernel_rfl) (by kernel_rfl) (fun _ _ _ h => h) (Or.inr ⟨by rfl, rfl⟩) (by assumption) ?_)
      | fail
    try simp only [Act.put, List.getElem_toArray, List.getElem_cons_succ, List.getElem_cons_zero, List.setIfInBounds_toArray, List.set_cons_zero, List.set_cons_succ]
    first
      | (refine wpAnyH_take (i := 25) (v := ?_) rfl (by kernel_rfl) (by kernel_rfl) (by kernel_rfl) (fun _ _ _ h => h) (Or.inl ⟨by rfl, ?_⟩) (by assumption) ?_; rotate_left 1; focus (intro w hSw; (try dsimp only at hSw); go_simp; (try with_reducible rfl)))
      | (refine wpAnyH_take (i := 25) (v := undef) rfl (by kernel_rfl) (by kernel_rfl) (by kernel_rfl) (fun _ _ _ h => h) (Or.inr ⟨by rfl, rfl⟩) (by assumption) ?_)
      | fail
    try simp only [Act.put, List.getElem_toArray, List.getElem_cons_succ, List.getElem_cons_zero, List.setIfInBounds_toArray, List.set_cons_zero, List.set_cons_succ]
    first
      | (refine wpAnyH_take (i := 26) (v := ?_) rfl (by kernel_rfl) (by kernel_rfl) (by kernel_rfl) (fun _ _ _ h => h) (Or.inl ⟨by rfl, ?_⟩) (by assumption) ?_; rotate_left 1; focus (intro w hSw; (try dsimp only at hSw); go_simp; (try with_reducible rfl)))
      | (refine wpAnyH_take (i := 26) (v := undef) rfl (by kernel_rfl) (by kernel_rfl) (by kernel_rfl) (fun _ _ _ h => h) (Or.inr ⟨by rfl, rfl⟩) (by assumption) ?_)
      | fail
    try simp only [Act.put, List.getElem_toArray, List.getElem_cons_succ, List.getElem_cons_zero, List.setIfInBounds_toArray, List.set_cons_zero, List.set_cons_succ]
    first
      | (refine wpAnyH_take (i := 27) (v := ?_) rfl (by kernel_rfl) (by kernel_rfl) (by kernel_rfl) (fun _ _ _ h => h) (Or.inl ⟨by rfl, ?_⟩) (by assumption) ?_; rotate_left 1; focus (intro w hSw; (try dsimp only at hSw); go_simp; (try with_reducible rfl)))
      | fail
    try simp only [Act.put, List.getElem_toArray, List.getElem_cons_succ, List.getElem_cons_zero, List.setIfInBounds_toArray, List.set_cons_zero, List.set_cons_succ]
    first
      | (refine wpAnyH_take (i := 28) (v := ?_) rfl (by kernel_rfl) (by kernel_rfl) (by kernel_rfl) (fun _ _ _ h => h) (Or.inl ⟨by rfl, ?_⟩) (by assumption) ?_; rotate_left 1; focus (intro w hSw; (try dsimp only at hSw); go_simp; (try with_reducible rfl)))
      | fail
    try simp only [Act.put, List.getElem_toArray, List.getElem_cons_succ, List.getElem_cons_zero, List.setIfInBounds_toArray, List.set_cons_zero, List.set_cons_succ]
    first
      | (refine wpAnyH_take (i := 29) (v := ?_) rfl (by kernel_rfl) (by kernel_rfl) (by kernel_rfl) (fun _ _ _ h => h) (Or.inl ⟨by rfl, ?_⟩) (by assumption) ?_; rotate_left 1; focus (intro w hSw; (try dsimp only at hSw); go_simp; (try with_reducible rfl)))
      | (refine wpAnyH_take (i := 29) (v := undef) rfl (by kernel_rfl) (by kernel_rfl) (by kernel_rfl) (fun _ _ _ h => h) (Or.inr ⟨by rfl, rfl⟩) (by assumption) ?_)
      | fail
    try simp only [Act.put, List.getElem_toArray, List.getElem_cons_succ, List.getElem_cons_zero, List.setIfInBounds_toArray, List.set_cons_zero, List.set_cons_succ]
    first
      | (refine wpAnyH_take (i := 30) (v := ?_) rfl (by kernel_rfl) (by kernel_rfl) (by kernel_rfl) (fun _ _ _ h => h) (Or.inl ⟨by rfl, ?_⟩) (by assumption) ?_; rotate_left 1; focus (intro w hSw; (try dsimp only at hSw); go_simp; (try with_reducible rfl)))
      | (refine wpAnyH_take (i := 30) (v := undef) rfl (by kernel_rfl) (by kernel_rfl) (by kernel_rfl) (fun _ _ _ h => h) (Or.inr ⟨by rfl, rfl⟩) (by assumption) ?_)
      | fail
    try simp only [Act.put, List.getElem_toArray, List.getElem_cons_succ, List.getElem_cons_zero, List.setIfInBounds_toArray, List.set_cons_zero, List.set_cons_succ]
    first
      | (refine wpAnyH_take (i := 32) (v := ?_) rfl (by kernel_rfl) (by kernel_rfl) (by kernel_rfl) (fun _ _ _ h => h) (Or.inl ⟨by rfl, ?_⟩) (by assumption) ?_; rotate_left 1; focus (intro w hSw; (try dsimp only at hSw); go_simp; (try with_reducible rfl)))
      | (refine wpAnyH_take (i := 32) (v := undef) rfl (by kernel_rfl) (by kernel_rfl) (by kernel_rfl) (fun _ _ _ h => h) (Or.inr ⟨by rfl, rfl⟩) (by assumption) ?_)
      | fail
    try simp only [Act.put, List.getElem_toArray, List.getElem_cons_succ, List.getElem_cons_zero, List.setIfInBounds_toArray, List.set_cons_zero, List.set_cons_succ]
    first
      | (refine wpAnyH_take (i := 33) (v := ?_) rfl (by kernel_rfl) (by kernel_rfl) (by kernel_rfl) (fun _ _ _ h => h) (Or.inl ⟨by rfl, ?_⟩) (by assumption) ?_; rotate_left 1; focus (intro w hSw; (try dsimp only at hSw); go_simp; (try with_reducible rfl)))
      | (refine wpAnyH_take (i := 33) (v := undef) rfl (by kernel_rfl) (by kernel_rfl) (by kernel_rfl) (fun _ _ _ h => h) (Or.inr ⟨by rfl, rfl⟩) (by assumption) ?_)
      | fail
    try simp only [Act.put, List.getElem_toArray, List.getElem_cons_succ, List.getElem_cons_zero, List.setIfInBounds_toArray, List.set_cons_zero, List.set_cons_succ]
    first
      | (refine wpAnyH_take (i := 31) (v := undef) rfl (by kernel_rfl) (by kernel_rfl) (by kernel_rfl) (fun _ _ _ h => h) (Or.inr ⟨by rfl, rfl⟩) (by assumption) ?_; try simp only [Act.put, List.getElem_toArray, List.getElem_cons_succ, List.getElem_cons_zero, List.setIfInBounds_toArray, List.set_cons_zero, List.set_cons_succ])
      | (refine wpAnyH_ready (rs := [31]) (by kernel_rfl) (by simp) ?_; refine AllReadyH.cons rfl (fun K hK => ?_) AllReadyH.nil; go_simp; ((go_at_call 18; with_reducible refine (cW1 _ (by first | assumption | exact Below.drew (by assumption))).mono ?_; rintro e1 W1 ⟨rfl, g1⟩; replace g1 := Grew.trans' (a := (V7.alloc (.cells #[.int .i64 ku, .slice pv lu.length cv] 27))) (by first | assumption | exact Below.drew (by assumption)) g1)); go_wp2_with fail; refine hK.out _ _ (by first | assumption | exact Below.drew (by assumption)) (fun hHeld => ?_); clear hK K; (try simp only [Act.put, List.getElem_toArray, List.getElem_cons_succ, List.getElem_cons_zero, List.setIfInBounds_toArray, List.set_cons_zero, List.set_cons_succ]))
      | fail
    first
      | (refine wpAnyH_take (i := 34) (v := undef) rfl (by kernel_rfl) (by kernel_rfl) (by kernel_rfl) (fun _ _ _ h => h) (Or.inr ⟨by rfl, rfl⟩) (by assumption) ?_; try simp only [Act.put, List.getElem_toArray, List.getElem_cons_succ, List.getElem_cons_zero, List.setIfInBounds_toArray, List.set_cons_zero, List.set_cons_succ])
      | (refine wpAnyH_ready (rs := [34]) (by kernel_rfl) (by simp) ?_; refine AllReadyH.cons rfl (fun K hK => ?_) AllReadyH.nil; go_simp; ((go_at_call 19; with_reducible refine (cW2 _ (by first | assumption | exact Below.drew (by assumption))).mono ?_; rintro e1 W1 ⟨rfl, g1⟩; replace g1 := Grew.trans' (a := (V7.alloc (.cells #[.int .i64 ku, .slice pv lu.length cv] 27))) (by first | assumption | exact Below.drew (by assumption)) g1)); go_wp2_with fail; refine hK.out _ _ (by first | assumption | exact Below.drew (by assumption)) (fun hHeld => ?_); clear hK K; (try simp only [Act.put, List.getElem_toArray, List.getElem_cons_succ, List.getElem_cons_zero, List.setIfInBounds_toArray, List.set_cons_zero, List.set_cons_succ]))
      | fail
    first
      | (refine wpAnyH_take (i := 35) (v := ?_) rfl (by kernel_rfl) (by kernel_rfl) (by kernel_rfl) (fun _ _ _ h => h) (Or.inl ⟨by rfl, ?_⟩) (by assumption) ?_; rotate_left 1; focus (intro w hSw; (try dsimp only at hSw); go_simp; (try with_reducible rfl)))
      | (refine wpAnyH_take (i := 35) (v := undef) rfl (by kernel_rfl) (by kernel_rfl) (by kernel_rfl) (fun _ _ _ h => h) (Or.inr ⟨by rfl, rfl⟩) (by assumption) ?_)
      | fail
    try simp only [Act.put, List.getElem_toArray, List.getElem_cons_succ, List.getElem_cons_zero, List.setIfInBounds_toArray, List.set_cons_zero, List.set_cons_succ]
    first
      | (refine wpAnyH_take (i := 36) (v := ?_) rfl (by kernel_rfl) (by kernel_rfl) (by kernel_rfl) (fun _ _ _ h => h) (Or.inl ⟨by rfl, ?_⟩) (by assumption) ?_; rotate_left 1; focus (intro w hSw; (try dsimp only at hSw); go_simp; (try with_reducible rfl)))
      | fail
    try simp only [Act.put, List.getElem_toArray, List.getElem_cons_succ, List.getElem_cons_zero, List.setIfInBounds_toArray, List.set_cons_zero, List.set_cons_succ]
    first
      | (refine wpAnyH_take (i := 37) (v := ?_) rfl (by kernel_rfl) (by kernel_rfl) (by kernel_rfl) (fun _ _ _ h => h) (Or.inl ⟨by rfl, ?_⟩) (by assumption) ?_; rotate_left 1; focus (intro w hSw; (try dsimp only at hSw); go_simp; (try with_reducible rfl)))
      | fail
    try simp only [Act.put, List.getElem_toArray, List.getElem_cons_succ, List.getElem_cons_zero, List.setIfInBounds_toArray, List.set_cons_zero, List.set_cons_succ]
    first
      | (refine wpAnyH_take (i := 38) (v := ?_) rfl (by kernel_rfl) (by kernel_rfl) (by kernel_rfl) (fun _ _ _ h => h) (Or.inl ⟨by rfl, ?_⟩) (by assumption) ?_; rotate_left 1; focus (intro w hSw; (try dsimp only at hSw); go_simp; (try with_reducible rfl)))
      | (refine wpAnyH_take (i := 38) (v := undef) rfl (by kernel_rfl) (by kernel_rfl) (by kernel_rfl) (fun _ _ _ h => h) (Or.inr ⟨by rfl, rfl⟩) (by assumption) ?_)
      | fail
    try simp only [Act.put, List.getElem_toArray, List.getElem_cons_succ, List.getElem_cons_zero, List.setIfInBounds_toArray, List.set_cons_zero, List.set_cons_succ]
    first
      | (refine wpAnyH_take (i := 39) (v := ?_) rfl (by kernel_rfl) (by kernel_rfl) (by kernel_rfl) (fun _ _ _ h => h) (Or.inl ⟨by rfl, ?_⟩) (by assumption) ?_; rotate_left 1; focus (intro w hSw; (try dsimp only at hSw); go_simp; (try with_reducible rfl)))
      | (refine wpAnyH_take (i := 39) (v := undef) rfl (by kernel_rfl) (by kernel_rfl) (by kernel_rfl) (fun _ _ _ h => h) (Or.inr ⟨by rfl, rfl⟩) (by assumption) ?_)
      | fail
    try simp only [Act.put, List.getElem_toArray, List.getElem_cons_succ, List.getElem_cons_zero, List.setIfInBounds_toArray, List.set_cons_zero, List.set_cons_succ]
    first
      | (refine wpAnyH_take (i := 40) (v := ?_) rfl (by kernel_rfl) (by kernel_rfl) (by kernel_rfl) (fun _ _ _ h => h) (Or.inl ⟨by rfl, ?_⟩) (by assumption) ?_; rotate_left 1; focus (intro w hSw; (try dsimp only at hSw); go_simp; (try with_reducible rfl)))
      | (refine wpAnyH_take (i := 40) (v := undef) rfl (by kernel_rfl) (by kernel_rfl) (by kernel_rfl) (fun _ _ _ h => h) (Or.inr ⟨by rfl, rfl⟩) (by assumption) ?_)
      | fail
    try simp only [Act.put, List.getElem_toArray, List.getElem_cons_succ, List.getElem_cons_zero, List.setIfInBounds_toArray, List.set_cons_zero, List.set_cons_succ]
    first
      | (refine wpAnyH_take (i := 41) (v := ?_) rfl (by kernel_rfl) (by kernel_rfl) (by kernel_rfl) (fun _ _ _ h => h) (Or.inl ⟨by rfl, ?_⟩) (by assumption) ?_; rotate_left 1; focus (intro w hSw; (try dsimp only at hSw); go_simp; (try with_reducible rfl)))
      | (refine wpAnyH_take (i := 41) (v := undef) rfl (by kernel_rfl) (by kernel_rfl) (by kernel_rfl) (fun _ _ _ h => h) (Or.inr ⟨by rfl, rfl⟩) (by assumption) ?_)
      | fail
    try simp only [Act.put, List.getElem_toArray, List.getElem_cons_succ, List.getElem_cons_zero, List.setIfInBounds_toArray, List.set_cons_zero, List.set_cons_succ]
    first
      | (refine wpAnyH_take (i := 42) (v := undef) rfl (by kernel_rfl) (by kernel_rfl) (by kernel_rfl) (fun _ _ _ h => h) (Or.inr ⟨by rfl, rfl⟩) (by assumption) ?_; try simp only [Act.put, List.getElem_toArray, List.getElem_cons_succ, List.getElem_cons_zero, List.setIfInBounds_toArray, List.set_cons_zero, List.set_cons_succ])
      | (refine wpAnyH_ready (rs := [42]) (by kernel_rfl) (by simp) ?_; refine AllReadyH.cons rfl (fun K hK => ?_) AllReadyH.nil; go_simp; ((go_at_call 20; with_reducible refine (cK1 _ (by first | assumption | exact Below.drew (by assumption))).mono ?_; rintro e1 W1 ⟨rfl, g1⟩; replace g1 := Grew.trans' (a := (V7.alloc (.cells #[.int .i64 ku, .slice pv lu.length cv] 27))) (by first | assumption | exact Below.drew (by assumption)) g1)); go_wp2_with fail; refine hK.out _ _ (by first | assumption | exact Below.drew (by assumption)) (fun hHeld => ?_); clear hK K; (try simp only [Act.put, List.getElem_toArray, List.getElem_cons_succ, List.getElem_cons_zero, List.setIfInBounds_toArray, List.set_cons_zero, List.set_cons_succ]))
      | fail
    first
      | (refine wpAnyH_take (i := 43) (v := ?_) rfl (by kernel_rfl) (by kernel_rfl) (by kernel_rfl) (fun _ _ _ h => h) (Or.inl ⟨by rfl, ?_⟩) (by assumption) ?_; rotate_left 1; focus (intro w hSw; (try dsimp only at hSw); go_simp; (try with_reducible rfl)))
      | fail
    try simp only [Act.put, List.getElem_toArray, List.getElem_cons_succ, List.getElem_cons_zero, List.setIfInBounds_toArray, List.set_cons_zero, List.set_cons_succ]
    first
      | (refine wpAnyH_take (i := 44) (v := ?_) rfl (by kernel_rfl) (by kernel_rfl) (by kernel_rfl) (fun _ _ _ h => h) (Or.inl ⟨by rfl, ?_⟩) (by assumption) ?_; rotate_left 1; focus (intro w hSw; (try dsimp only at hSw); go_simp; (try with_reducible rfl)))
      | fail
    try simp only [Act.put, List.getElem_toArray, List.getElem_cons_succ, List.getElem_cons_zero, List.setIfInBounds_toArray, List.set_cons_zero, List.set_cons_succ]
    first
      | (refine wpAnyH_take (i := 45) (v := ?_) rfl (by kernel_rfl) (by kernel_rfl) (by kernel_rfl) (fun _ _ _ h => h) (Or.inl ⟨by rfl, ?_⟩) (by assumption) ?_; rotate_left 1; focus (intro w hSw; (try dsimp only at hSw); go_simp; (try with_reducible rfl)))
      | (refine wpAnyH_take (i := 45) (v := undef) rfl (by kernel_rfl) (by kernel_rfl) (by kernel_rfl) (fun _ _ _ h => h) (Or.inr ⟨by rfl, rfl⟩) (by assumption) ?_)
      | fail
    try simp only [Act.put, List.getElem_toArray, List.getElem_cons_succ, List.getElem_cons_zero, List.setIfInBounds_toArray, List.set_cons_zero, List.set_cons_succ]
    first
      | (refine wpAnyH_take (i := 46) (v := ?_) rfl (by kernel_rfl) (by kernel_rfl) (by kernel_rfl) (fun _ _ _ h => h) (Or.inl ⟨by rfl, ?_⟩) (by assumption) ?_; rotate_left 1; focus (intro w hSw; (try dsimp only at hSw); go_simp; (try with_reducible rfl)))
      | (refine wpAnyH_take (i := 46) (v := undef) rfl (by kernel_rfl) (by kernel_rfl) (by kernel_rfl) (fun _ _ _ h => h) (Or.inr ⟨by rfl, rfl⟩) (by assumption) ?_)
      | fail
    try simp only [Act.put, List.getElem_toArray, List.getElem_cons_succ, List.getElem_cons_zero, List.setIfInBounds_toArray, List.set_cons_zero, List.set_cons_succ]
    first
      | (refine wpAnyH_take (i := 47) (v := undef) rfl (by kernel_rfl) (by kernel_rfl) (by kernel_rfl) (fun _ _ _ h => h) (Or.inr ⟨by rfl, rfl⟩) (by assumption) ?_; try simp only [Act.put, List.getElem_toArray, List.getElem_cons_succ, List.getElem_cons_zero, List.setIfInBounds_toArray, List.set_cons_zero, List.set_cons_succ])
      | (refine wpAnyH_ready (rs := [47]) (by kernel_rfl) (by simp) ?_; refine AllReadyH.cons rfl (fun K hK => ?_) AllReadyH.nil; go_simp; ((go_at_call 20; with_reducible refine (cK2 _ (by first | assumption | exact Below.drew (by assumption))).mono ?_; rintro e1 W1 ⟨rfl, g1⟩; replace g1 := Grew.trans' (a := (V7.alloc (.cells #[.int .i64 ku, .slice pv lu.length cv] 27))) (by first | assumption | exact Below.drew (by assumption)) g1)); go_wp2_with fail; refine hK.out _ _ (by first | assumption | exact Below.drew (by assumption)) (fun hHeld => ?_); clear hK K; (try simp only [Act.put, List.getElem_toArray, List.getElem_cons_succ, List.getElem_cons_zero, List.setIfInBounds_toArray, List.set_cons_zero, List.set_cons_succ]))
      | fail
    first
      | (refine wpAnyH_take (i := 48) (v := ?_) rfl (by kernel_rfl) (by kernel_rfl) (by kernel_rfl) (fun _ _ _ h => h) (Or.inl ⟨by rfl, ?_⟩) (by assumption) ?_; rotate_left 1; focus (intro w hSw; (try dsimp only at hSw); go_simp; (try with_reducible rfl)))
      | fail
    try simp only [Act.put, List.getElem_toArray, List.getElem_cons_succ, List.getElem_cons_zero, List.setIfInBounds_toArray, List.set_cons_zero, List.set_cons_succ]
    first
      | (refine wpAnyH_take (i := 49) (v := ?_) rfl (by kernel_rfl) (by kernel_rfl) (by kernel_rfl) (fun _ _ _ h => h) (Or.inl ⟨by rfl, ?_⟩) (by assumption) ?_; rotate_left 1; focus (intro w hSw; (try dsimp only at hSw); go_simp; (try with_reducible rfl)))
      | fail
    try simp only [Act.put, List.getElem_toArray, List.getElem_cons_succ, List.getElem_cons_zero, List.setIfInBounds_toArray, List.set_cons_zero, List.set_cons_succ]
    refine wpAnyH_done (by kernel_rfl) ?_ _
    go_wp2
    go_ret
    exact ⟨rfl, gw8.trans' (by assumption)⟩

end Go.Proofs.YtdlhabldjdkfbaaDoor

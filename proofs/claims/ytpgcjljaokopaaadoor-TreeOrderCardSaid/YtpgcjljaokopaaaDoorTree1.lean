/- tree.key, Before, Name and the reference's full, Before, Name: how an item may be called, and which of two stands ahead. Conditions: names are at most 2^30 bytes long, the library's tables are laid. -/
import Derived.Test.YtpgcjljaokopaaaDoorItem
import Derived.Test.YtpgcjljaokopaaaDoorPure08
import Derived.Test.YtpgcjljaokopaaaDoorQ2
import Derived.Test.YtpgcjljaokopaaaDoorQ3
import Derived.Test.YtpgcjljaokopaaaDoorHelpText
import Derived.Outline
namespace Go.Proofs.YtpgcjljaokopaaaDoor
set_option linter.unusedVariables false
set_option linter.unusedSimpArgs false
open Go.RowKit

/-- What an item is sorted by. -/
def keyS (i : Itm) : ByteArray := if i.mode = 4 then i.name ++ ⟨#[47]⟩ else i.name

set_option maxRecDepth 100000 in
theorem tree_key (i : Itm) (w : World) (hs : i.name.size ≤ 1073741824) :
    Calls Tryd.prog 31 #[.agg i.cells.toArray] w fun e w' => e = .returned (.string (keyS i)) ∧ Grew w w' := by
  obtain ⟨V0, hV0, gw0, g0, q0, q1, -⟩ := boxedI w i
  unfold keyS
  by_cases h : i.mode = 4
  · have f4 : (i.mode == 4) = true := by rw [h]; rfl
    rw [if_pos h]
    clear h
    go_enter Tryd.func31, Tryd.ntmps31
    go_wp2
    go_ret
    exact ⟨rfl, gw0⟩
  · have f4 : (i.mode == 4) = false := beq_eq_false_iff_ne.2 h
    rw [if_neg h]
    clear h
    go_enter Tryd.func31, Tryd.ntmps31
    go_wp2
    go_ret
    exact ⟨rfl, gw0⟩

set_option maxRecDepth 100000 in
theorem ref_full (i : Itm) (w : World) (hs : i.name.size ≤ 1073741824) :
    Calls Tryd.prog 32 #[.agg i.cells.toArray] w fun e w' => e = .returned (.string (keyS i)) ∧ Grew w w' := by
  obtain ⟨V0, hV0, gw0, g0, q0, q1, -⟩ := boxedI w i
  unfold keyS
  by_cases h : i.mode = 4
  · have f4 : (i.mode == 4) = true := by rw [h]; rfl
    rw [if_pos h]
    clear h
    go_enter Tryd.func32, Tryd.ntmps32
    go_wp2
    go_ret
    exact ⟨rfl, gw0⟩
  · have f4 : (i.mode == 4) = false := beq_eq_false_iff_ne.2 h
    rw [if_neg h]
    clear h
    go_enter Tryd.func32, Tryd.ntmps32
    go_wp2
    go_ret
    exact ⟨rfl, gw0⟩

/-- Which of two items stands ahead. -/
def beforeI (a b : Itm) : Bool := Op.bytesLess (keyS a).toList (keyS b).toList

set_option maxRecDepth 100000 in
set_option maxHeartbeats 1000000 in
theorem tree_Before (a b : Itm) (w : World) (ha : a.name.size ≤ 1073741824) (hb : b.name.size ≤ 1073741824) (ia : a.id.length = 20) (ib : b.id.length = 20) :
    Calls Tryd.prog 12 #[.agg a.cells.toArray, .agg b.cells.toArray] w fun e w' => e = .returned (.bool (beforeI a b)) ∧ Grew w w' := by
  obtain ⟨V0, hV0, gw0, g0, -, -, r0⟩ := boxedI w a
  obtain ⟨V1, hV1, g01, g1, -, -, r1⟩ := boxedI V0 b
  have gw1 := gw0.trans' g01
  have ca := (fun W (g : Grew V1 W) => tree_key a W ha)
  have cb := (fun W (g : Grew V1 W) => tree_key b W hb)
  have nfa := infoItem a ia
  have nfb := infoItem b ib
  have ra := fun W (g : Grew V1 W) => r0 W (g01.trans' g)
  have hlt : decide (Lib.compareBytes (keyS a).data.toList (keyS b).data.toList < 0) = beforeI a b := by
    unfold beforeI
    rw [Pure.compare_less, ByteArray.toList_eq, ByteArray.toList_eq]
    cases Op.bytesLess (keyS a).data.toList (keyS b).data.toList with
    | true => rfl
    | false => simp only [Bool.false_eq_true, if_false]; split <;> rfl
  have HLT := Lib.hid hlt
  clear hlt r0
  generalize keyS a = KA at *
  generalize keyS b = KB at *
  have cc := (fun W (g : Grew V1 W) => Tryd.strings_Compare KA KB W)
  generalize Lib.compareBytes KA.data.toList KB.data.toList = C at *
  go_enter Tryd.func12, Tryd.ntmps12
  go_wp2
  refine wp_region_held_drew (S := fun w' => Grew V1 w') (by kernel_rfl) (by first | assumption | exact Below.drew (by assumption)) (fun hHeld => ?_)
  first
    | (refine' wpAnyH_take (i := 0) (v := _) rfl (by kernel_rfl) (by kernel_rfl) (by kernel_rfl) (fun _ _ _ h => h) (yieldsIf_load_mid (by rfl) _ _ rfl _ _ rfl _ _ (fun w hSw => (by (first | exact ra _ hSw | exact r1 _ hSw))) Tryd.underlying25 rfl (by first | assumption | kernel_rfl)) (by assumption) ?_)
    | fail
  try simp only [Act.put, List.getElem_toArray, List.getElem_cons_succ, List.getElem_cons_zero, List.setIfInBounds_toArray, List.set_cons_zero, List.set_cons_succ]
  first
    | (refine' wpAnyH_take (i := 2) (v := _) rfl (by kernel_rfl) (by kernel_rfl) (by kernel_rfl) (fun _ _ _ h => h) (yieldsIf_load_mid (by rfl) _ _ rfl _ _ rfl _ _ (fun w hSw => (by (first | exact ra _ hSw | exact r1 _ hSw))) Tryd.underlying25 rfl (by first | assumption | kernel_rfl)) (by assumption) ?_)
    | fail
  try simp only [Act.put, List.getElem_toArray, List.getElem_cons_succ, List.getElem_cons_zero, List.setIfInBounds_toArray, List.set_cons_zero, List.set_cons_succ]
  refine wpAnyH_ready (rs := [1]) (by kernel_rfl) (by simp) ?_
  refine AllReadyH.cons rfl (fun K hK => ?_) AllReadyH.nil
  go_simp
  first | ((go_at_call 31; with_reducible refine (ca _ (by first | assumption | exact Below.drew (by assumption))).mono ?_; rintro e1 W1 ⟨rfl, g1⟩; replace g1 := Grew.trans' (a := V1) (by first | assumption | exact Below.drew (by assumption)) g1)) | ((go_at_call 31; with_reducible refine (cb _ (by first | assumption | exact Below.drew (by assumption))).mono ?_; rintro e1 W1 ⟨rfl, g1⟩; replace g1 := Grew.trans' (a := V1) (by first | assumption | exact Below.drew (by assumption)) g1))
  go_wp2_with fail
  refine hK.out _ _ (by first | assumption | exact Below.drew (by assumption)) (fun hHeld => ?_)
  clear hK K
  try simp only [Act.put, List.getElem_toArray, List.getElem_cons_succ, List.getElem_cons_zero, List.setIfInBounds_toArray, List.set_cons_zero, List.set_cons_succ]
  refine wpAnyH_ready (rs := [3]) (by kernel_rfl) (by simp) ?_
  refine AllReadyH.cons rfl (fun K hK => ?_) AllReadyH.nil
  go_simp
  first | ((go_at_call 31; with_reducible refine (ca _ (by first | assumption | exact Below.drew (by assumption))).mono ?_; rintro e1 W1 ⟨rfl, g1⟩; replace g1 := Grew.trans' (a := V1) (by first | assumption | exact Below.drew (by assumption)) g1)) | ((go_at_call 31; with_reducible refine (cb _ (by first | assumption | exact Below.drew (by assumption))).mono ?_; rintro e1 W1 ⟨rfl, g1⟩; replace g1 := Grew.trans' (a := V1) (by first | assumption | exact Below.drew (by assumption)) g1))
  go_wp2_with fail
  refine hK.out _ _ (by first | assumption | exact Below.drew (by assumption)) (fun hHeld => ?_)
  clear hK K
  try simp only [Act.put, List.getElem_toArray, List.getElem_cons_succ, List.getElem_cons_zero, List.setIfInBounds_toArray, List.set_cons_zero, List.set_cons_succ]
  refine wpAnyH_ready (rs := [4]) (by kernel_rfl) (by simp) ?_
  refine AllReadyH.cons rfl (fun K hK => ?_) AllReadyH.nil
  go_simp
  (go_at_call 30; with_reducible refine (cc _ (by assumption)).mono ?_; rintro e9 W9 ⟨rfl, h9⟩; subst W9)
  go_wp2_with fail
  refine hK.out _ _ (by first | assumption | exact Below.drew (by assumption)) (fun hHeld => ?_)
  clear hK K
  try simp only [Act.put, List.getElem_toArray, List.getElem_cons_succ, List.getElem_cons_zero, List.setIfInBounds_toArray, List.set_cons_zero, List.set_cons_succ]
  first
    | (refine wpAnyH_take (i := 5) (v := ?_) rfl (by kernel_rfl) (by kernel_rfl) (by kernel_rfl) (fun _ _ _ h => h) (Or.inl ⟨by rfl, ?_⟩) (by assumption) ?_; rotate_left 1; focus (intro w hSw; (try dsimp only at hSw); go_simp; (try with_reducible rfl)))
    | fail
  try simp only [Act.put, List.getElem_toArray, List.getElem_cons_succ, List.getElem_cons_zero, List.setIfInBounds_toArray, List.set_cons_zero, List.set_cons_succ]
  first
    | (refine wpAnyH_take (i := 6) (v := ?_) rfl (by kernel_rfl) (by kernel_rfl) (by kernel_rfl) (fun _ _ _ h => h) (Or.inl ⟨by rfl, ?_⟩) (by assumption) ?_; rotate_left 1; focus (intro w hSw; (try dsimp only at hSw); go_simp; (try with_reducible rfl)))
    | fail
  try simp only [Act.put, List.getElem_toArray, List.getElem_cons_succ, List.getElem_cons_zero, List.setIfInBounds_toArray, List.set_cons_zero, List.set_cons_succ]
  refine wpAnyH_done (by kernel_rfl) ?_ _
  go_wp2
  go_ret
  exact ⟨by rw [HLT.out]; rfl, gw1.trans' (by assumption)⟩

set_option maxRecDepth 100000 in
set_option maxHeartbeats 1000000 in
theorem ref_Before (a b : Itm) (w : World) (ha : a.name.size ≤ 1073741824) (hb : b.name.size ≤ 1073741824) (ia : a.id.length = 20) (ib : b.id.length = 20) :
    Calls Tryd.prog 13 #[.agg a.cells.toArray, .agg b.cells.toArray] w fun e w' => e = .returned (.bool (beforeI a b)) ∧ Grew w w' := by
  obtain ⟨V0, hV0, gw0, g0, -, -, r0⟩ := boxedI w a
  obtain ⟨V1, hV1, g01, g1, -, -, r1⟩ := boxedI V0 b
  have gw1 := gw0.trans' g01
  have ca := (fun W (g : Grew V1 W) => ref_full a W ha)
  have cb := (fun W (g : Grew V1 W) => ref_full b W hb)
  have nfa := infoItem a ia
  have nfb := infoItem b ib
  have ra := fun W (g : Grew V1 W) => r0 W (g01.trans' g)
  unfold beforeI
  clear r0
  generalize keyS a = KA at *
  generalize keyS b = KB at *
  go_enter Tryd.func13, Tryd.ntmps13
  go_wp2
  refine wp_region_held_drew (S := fun w' => Grew V1 w') (by kernel_rfl) (by first | assumption | exact Below.drew (by assumption)) (fun hHeld => ?_)
  first
    | (refine' wpAnyH_take (i := 0) (v := _) rfl (by kernel_rfl) (by kernel_rfl) (by kernel_rfl) (fun _ _ _ h => h) (yieldsIf_load_mid (by rfl) _ _ rfl _ _ rfl _ _ (fun w hSw => (by (first | exact ra _ hSw | exact r1 _ hSw))) Tryd.underlying25 rfl (by first | assumption | kernel_rfl)) (by assumption) ?_)
    | fail
  try simp only [Act.put, List.getElem_toArray, List.getElem_cons_succ, List.getElem_cons_zero, List.setIfInBounds_toArray, List.set_cons_zero, List.set_cons_succ]
  first
    | (refine' wpAnyH_take (i := 2) (v := _) rfl (by kernel_rfl) (by kernel_rfl) (by kernel_rfl) (fun _ _ _ h => h) (yieldsIf_load_mid (by rfl) _ _ rfl _ _ rfl _ _ (fun w hSw => (by (first | exact ra _ hSw | exact r1 _ hSw))) Tryd.underlying25 rfl (by first | assumption | kernel_rfl)) (by assumption) ?_)
    | fail
  try simp only [Act.put, List.getElem_toArray, List.getElem_cons_succ, List.getElem_cons_zero, List.setIfInBounds_toArray, List.set_cons_zero, List.set_cons_succ]
  refine wpAnyH_ready (rs := [1]) (by kernel_rfl) (by simp) ?_
  refine AllReadyH.cons rfl (fun K hK => ?_) AllReadyH.nil
  go_simp
  first | ((go_at_call 32; with_reducible refine (ca _ (by first | assumption | exact Below.drew (by assumption))).mono ?_; rintro e1 W1 ⟨rfl, g1⟩; replace g1 := Grew.trans' (a := V1) (by first | assumption | exact Below.drew (by assumption)) g1)) | ((go_at_call 32; with_reducible refine (cb _ (by first | assumption | exact Below.drew (by assumption))).mono ?_; rintro e1 W1 ⟨rfl, g1⟩; replace g1 := Grew.trans' (a := V1) (by first | assumption | exact Below.drew (by assumption)) g1))
  go_wp2_with fail
  refine hK.out _ _ (by first | assumption | exact Below.drew (by assumption)) (fun hHeld => ?_)
  clear hK K
  try simp only [Act.put, List.getElem_toArray, List.getElem_cons_succ, List.getElem_cons_zero, List.setIfInBounds_toArray, List.set_cons_zero, List.set_cons_succ]
  refine wpAnyH_ready (rs := [3]) (by kernel_rfl) (by simp) ?_
  refine AllReadyH.cons rfl (fun K hK => ?_) AllReadyH.nil
  go_simp
  first | ((go_at_call 32; with_reducible refine (ca _ (by first | assumption | exact Below.drew (by assumption))).mono ?_; rintro e1 W1 ⟨rfl, g1⟩; replace g1 := Grew.trans' (a := V1) (by first | assumption | exact Below.drew (by assumption)) g1)) | ((go_at_call 32; with_reducible refine (cb _ (by first | assumption | exact Below.drew (by assumption))).mono ?_; rintro e1 W1 ⟨rfl, g1⟩; replace g1 := Grew.trans' (a := V1) (by first | assumption | exact Below.drew (by assumption)) g1))
  go_wp2_with fail
  refine hK.out _ _ (by first | assumption | exact Below.drew (by assumption)) (fun hHeld => ?_)
  clear hK K
  try simp only [Act.put, List.getElem_toArray, List.getElem_cons_succ, List.getElem_cons_zero, List.setIfInBounds_toArray, List.set_cons_zero, List.set_cons_succ]
  first
    | (refine wpAnyH_take (i := 4) (v := ?_) rfl (by kernel_rfl) (by kernel_rfl) (by kernel_rfl) (fun _ _ _ h => h) (Or.inl ⟨by rfl, ?_⟩) (by assumption) ?_; rotate_left 1; focus (intro w hSw; (try dsimp only at hSw); go_simp; (try with_reducible rfl)))
    | fail
  try simp only [Act.put, List.getElem_toArray, List.getElem_cons_succ, List.getElem_cons_zero, List.setIfInBounds_toArray, List.set_cons_zero, List.set_cons_succ]
  first
    | (refine wpAnyH_take (i := 5) (v := ?_) rfl (by kernel_rfl) (by kernel_rfl) (by kernel_rfl) (fun _ _ _ h => h) (Or.inl ⟨by rfl, ?_⟩) (by assumption) ?_; rotate_left 1; focus (intro w hSw; (try dsimp only at hSw); go_simp; (try with_reducible rfl)))
    | fail
  try simp only [Act.put, List.getElem_toArray, List.getElem_cons_succ, List.getElem_cons_zero, List.setIfInBounds_toArray, List.set_cons_zero, List.set_cons_succ]
  refine wpAnyH_done (by kernel_rfl) ?_ _
  go_wp2
  go_ret
  exact ⟨rfl, gw1.trans' (by assumption)⟩

end Go.Proofs.YtpgcjljaokopaaaDoor

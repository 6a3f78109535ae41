/- The helpers Own, Plain, Same, Kept, In on values of the type trestle/api.Id. Conditions: at most 2^30 of them. -/
import Derived.Test.YtemojhcbhljemaaDoorM1
import Derived.BigQuiet
namespace Go.Proofs.YtemojhcbhljemaaDoor
set_option linter.unusedVariables false
set_option linter.unusedSimpArgs false
open Go.RowKit

set_option maxRecDepth 100000 in
theorem fn_Id (a b : (List UInt8)) (ia : kId.ok a) (ib : kId.ok b) (w : World) :
    Calls Tryd.prog 43 #[.agg (kId.cells a).toArray, .agg (kId.cells b).toArray] w fun e w' => e = .returned (.bool (kIdEq.eqv a b)) ∧ Grew w w' := by
  obtain ⟨V0, hV0, gw0, g0, r0⟩ := boxedG kId w a
  obtain ⟨V, hV, g01, gVV, rV⟩ := boxedG kId V0 b
  have nfa := kId.size a ia
  have nfb := kId.size b ib
  have e := fun W => kIdEq.eql a b ia ib W
  have gz := fun W op x y => kIdEq.guard op x y a b W
  change w.alloc (.cells _ 26) = V0 at hV0
  change V0.alloc (.cells _ 26) = V at hV
  change ∀ W, (binOp .eql 26 _ _).run Tryd.prog W = _ at e
  change ∀ W op x y, (eqGuard op 26 x y _ _).run Tryd.prog W = _ at gz
  change (Tryd.prog.info? 26).map (·.size) = _ at nfa nfb
  generalize kIdEq.eqv a b = B at e ⊢
  generalize kId.cells a = ca at *
  generalize kId.cells b = cb at *
  go_enter Tryd.func43, Tryd.ntmps43
  go_wp2_with (first | (refine wpList_load_mid rfl 26 (.tmp 2) rfl _ _ rfl ca _ (r0 V g01) Tryd.underlying26 rfl nfa ?_) | (refine wpList_load_mid rfl 26 (.tmp 3) rfl _ _ rfl cb _ (rV V gVV) Tryd.underlying26 rfl nfb ?_))
  go_ret
  exact ⟨rfl, gw0.trans' g01⟩

set_option maxRecDepth 100000 in
set_option maxHeartbeats 1000000 in
/-- Same, by equality: of two equal lists: true. -/
theorem same_Id_eq (p q : Option Addr) (l : List (List UInt8)) (c d : Nat) (w : World) (hl : l.length ≤ 1073741824) (hok : ∀ x ∈ l, kId.ok x) (h1 : RdG kId w p l) (h2 : RdG kId w q l) :
    Calls Tryd.prog 42 #[.slice p l.length c, .slice q l.length d, .func (.func 43) #[] #[]] w fun e w' => e = .returned (.bool true) ∧ Grew w w' := by
  have HOK := Lib.hid hok
  have H1 := Lib.hid h1
  have H2 := Lib.hid h2
  clear hok h1 h2
  go_enter Tryd.func42, Tryd.ntmps42
  go_wp2
  go_loopw [7] (fun i wr => ∃ k : Nat, k ≤ l.length ∧ i = .int .i64 k ∧ Grew w wr) (fun i _ => l.length - (intOf i).toNat)
  case atStart => exact ⟨0, Nat.zero_le _, rfl, Below.refl _ _⟩
  case round =>
    obtain ⟨k, hk, rfl, hb⟩ := hrel
    by_cases hlt : k < l.length
    · obtain ⟨x, hx⟩ : ∃ x, l[k]? = some x := ⟨_, List.getElem?_eq_getElem hlt⟩
      have hxi := HOK.out x (List.mem_of_getElem? hx)
      rcases H1.out with h | ⟨b, o, rfl, hc⟩
      · subst h; simp at hlt
      rcases H2.out with h | ⟨b', o', rfl, hc'⟩
      · subst h; simp at hlt
      have r1 : ∀ W, Grew w W → W.rangeAt b (o + k * 20) (kId.cells x) := fun W g => range_grew (hc k x hx) g
      have r2 : ∀ W, Grew w W → W.rangeAt b' (o' + k * 20) (kId.cells x) := fun W g => range_grew (hc' k x hx) g
      clear hc hc'
      have nfx : (Tryd.prog.info? 26).map (·.size) = some (kId.cells x).length := kId.size x hxi
      have cF := (fun W => fn_Id x x hxi hxi W)
      simp only [kIdEq.refl] at cF
      generalize kId.cells x = cx at *
      go_wp2
      refine wp_region_held_drew (S := fun w' => Grew w w') (by kernel_rfl) (by first | assumption | exact Below.drew (by assumption)) (fun hHeld => ?_)
      first
        | (refine wpAnyH_take (i := 0) (v := ?_) rfl (by kernel_rfl) (by kernel_rfl) (by kernel_rfl) (fun _ _ _ h => h) (Or.inl ⟨by rfl, ?_⟩) (by assumption) ?_; rotate_left 1; focus (intro w hSw; (try dsimp only at hSw); go_simp; (try with_reducible rfl)))
        | fail
      try simp only [Act.put, List.getElem_toArray, List.getElem_cons_succ, List.getElem_cons_zero, List.setIfInBounds_toArray, List.set_cons_zero, List.set_cons_succ]
      first
        | (refine wpAnyH_take (i := 1) (v := ?_) rfl (by kernel_rfl) (by kernel_rfl) (by kernel_rfl) (fun _ _ _ h => h) (Or.inl ⟨by rfl, ?_⟩) (by assumption) ?_; rotate_left 1; focus (intro w hSw; (try dsimp only at hSw); go_simp; (try with_reducible rfl)))
        | fail
      try simp only [Act.put, List.getElem_toArray, List.getElem_cons_succ, List.getElem_cons_zero, List.setIfInBounds_toArray, List.set_cons_zero, List.set_cons_succ]
      first
        | (refine wpAnyH_take (i := 2) (v := ?_) rfl (by kernel_rfl) (by kernel_rfl) (by kernel_rfl) (fun _ _ _ h => h) (Or.inl ⟨by rfl, ?_⟩) (by assumption) ?_; rotate_left 1; focus (intro w hSw; (try dsimp only at hSw); go_simp; (try with_reducible rfl)))
        | fail
      try simp only [Act.put, List.getElem_toArray, List.getElem_cons_succ, List.getElem_cons_zero, List.setIfInBounds_toArray, List.set_cons_zero, List.set_cons_succ]
      first
        | (refine wpAnyH_take (i := 3) (v := ?_) rfl (by kernel_rfl) (by kernel_rfl) (by kernel_rfl) (fun _ _ _ h => h) (Or.inl ⟨by rfl, ?_⟩) (by assumption) ?_; rotate_left 1; focus (intro w hSw; (try dsimp only at hSw); go_simp; (try with_reducible rfl)))
        | fail
      try simp only [Act.put, List.getElem_toArray, List.getElem_cons_succ, List.getElem_cons_zero, List.setIfInBounds_toArray, List.set_cons_zero, List.set_cons_succ]
      first
        | (refine' wpAnyH_take (i := 4) (v := _) rfl (by kernel_rfl) (by kernel_rfl) (by kernel_rfl) (fun _ _ _ h => h) (yieldsIf_load_mid (by rfl) _ _ rfl _ _ rfl _ _ (fun w hSw => (by (first | exact r1 _ hSw | exact r2 _ hSw))) Tryd.underlying26 rfl (by first | assumption | kernel_rfl)) (by assumption) ?_)
        | fail
      try simp only [Act.put, List.getElem_toArray, List.getElem_cons_succ, List.getElem_cons_zero, List.setIfInBounds_toArray, List.set_cons_zero, List.set_cons_succ]
      first
        | (refine wpAnyH_take (i := 5) (v := ?_) rfl (by kernel_rfl) (by kernel_rfl) (by kernel_rfl) (fun _ _ _ h => h) (Or.inl ⟨by rfl, ?_⟩) (by assumption) ?_; rotate_left 1; focus (intro w hSw; (try dsimp only at hSw); go_simp; (try with_reducible rfl)))
        | fail
      try simp only [Act.put, List.getElem_toArray, List.getElem_cons_succ, List.getElem_cons_zero, List.setIfInBounds_toArray, List.set_cons_zero, List.set_cons_succ]
      first
        | (refine wpAnyH_take (i := 6) (v := ?_) rfl (by kernel_rfl) (by kernel_rfl) (by kernel_rfl) (fun _ _ _ h => h) (Or.inl ⟨by rfl, ?_⟩) (by assumption) ?_; rotate_left 1; focus (intro w hSw; (try dsimp only at hSw); go_simp; (try with_reducible rfl)))
        | fail
      try simp only [Act.put, List.getElem_toArray, List.getElem_cons_succ, List.getElem_cons_zero, List.setIfInBounds_toArray, List.set_cons_zero, List.set_cons_succ]
      first
        | (refine wpAnyH_take (i := 7) (v := ?_) rfl (by kernel_rfl) (by kernel_rfl) (by kernel_rfl) (fun _ _ _ h => h) (Or.inl ⟨by rfl, ?_⟩) (by assumption) ?_; rotate_left 1; focus (intro w hSw; (try dsimp only at hSw); go_simp; (try with_reducible rfl)))
        | fail
      try simp only [Act.put, List.getElem_toArray, List.getElem_cons_succ, List.getElem_cons_zero, List.setIfInBounds_toArray, List.set_cons_zero, List.set_cons_succ]
      first
        | (refine' wpAnyH_take (i := 8) (v := _) rfl (by kernel_rfl) (by kernel_rfl) (by kernel_rfl) (fun _ _ _ h => h) (yieldsIf_load_mid (by rfl) _ _ rfl _ _ rfl _ _ (fun w hSw => (by (first | exact r1 _ hSw | exact r2 _ hSw))) Tryd.underlying26 rfl (by first | assumption | kernel_rfl)) (by assumption) ?_)
        | fail
      try simp only [Act.put, List.getElem_toArray, List.getElem_cons_succ, List.getElem_cons_zero, List.setIfInBounds_toArray, List.set_cons_zero, List.set_cons_succ]
      refine wpAnyH_ready (rs := [9]) (by kernel_rfl) (by simp) ?_
      refine AllReadyH.cons rfl (fun K hK => ?_) AllReadyH.nil
      go_simp
      (go_at_call 43; with_reducible refine (cF _).mono ?_; rintro e1 W1 ⟨rfl, g1⟩; replace g1 := Grew.trans' (a := w) (by first | assumption | exact Below.drew (by assumption)) g1)
      go_wp2_with fail
      refine hK.out _ _ (by first | assumption | exact Below.drew (by assumption)) (fun hHeld => ?_)
      clear hK K
      try simp only [Act.put, List.getElem_toArray, List.getElem_cons_succ, List.getElem_cons_zero, List.setIfInBounds_toArray, List.set_cons_zero, List.set_cons_succ]
      first
        | (refine wpAnyH_take (i := 10) (v := ?_) rfl (by kernel_rfl) (by kernel_rfl) (by kernel_rfl) (fun _ _ _ h => h) (Or.inl ⟨by rfl, ?_⟩) (by assumption) ?_; rotate_left 1; focus (intro w hSw; (try dsimp only at hSw); go_simp; (try with_reducible rfl)))
        | fail
      try simp only [Act.put, List.getElem_toArray, List.getElem_cons_succ, List.getElem_cons_zero, List.setIfInBounds_toArray, List.set_cons_zero, List.set_cons_succ]
      refine wpAnyH_done (by kernel_rfl) ?_ _
      go_wp2
      go_roundw
      case rel => exact ⟨k + 1, by omega, by go_num, by assumption⟩
      case measure => simp [intOf]; omega
    · go_wp2
      go_ret
      exact ⟨rfl, hb⟩

set_option maxRecDepth 100000 in
theorem plain_Id_eq (p q : Option Addr) (l : List (List UInt8)) (c d : Nat) (w : World) (hl : l.length ≤ 1073741824) (hok : ∀ x ∈ l, kId.ok x) (h1 : RdG kId w p l) (h2 : RdG kId w q l) :
    Calls Tryd.prog 28 #[.slice p l.length c, .slice q l.length d] w fun e w' => e = .returned (.bool true) ∧ Grew w w' := by
  go_enter Tryd.func28, Tryd.ntmps28
  go_wp2_with (go_at_call 42; refine (same_Id_eq p q l c d _ hl hok h1 h2).mono ?_)
  rintro e w1 ⟨rfl, hb⟩
  go_wp2
  go_ret
  exact ⟨rfl, hb⟩

end Go.Proofs.YtemojhcbhljemaaDoor

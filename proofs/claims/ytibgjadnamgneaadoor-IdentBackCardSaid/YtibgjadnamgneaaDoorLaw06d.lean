/- The law IdentBack of layer 6, walked: for any input the call returns true. Conditions: the library's variables are laid. -/
import Derived.Test.YtibgjadnamgneaaDoorLaw06c
namespace Go.Proofs.YtibgjadnamgneaaDoor
set_option linter.unusedVariables false
set_option linter.unusedSimpArgs false
open Go.RowKit

set_option maxRecDepth 100000 in
set_option maxHeartbeats 8000000 in
theorem law_IdentBack (i : Idn) (s : ByteArray) (w : World) (hin : i.name.size ≤ 9223372036854775807) (hie : i.email.size ≤ 9223372036854775807) (hs : s.size ≤ 9223372036854775807) (hm : MaxOk w) (hu : U8Ok w) (ht : TabOk w) (he : ErrOk w) :
    Calls Tryd.prog 7 #[.agg i.cells.toArray, .string s] w fun e w' => e = .returned (.bool true) ∧ Grew w w' := by
  obtain ⟨V0, hV0, gw0, g0, q0, q1, -, -⟩ := boxedN w i
  have rr := Idn.range w i
  rw [hV0] at rr
  have nfi := infoIdn i
  have ca := (fun W (g : Grew V0 W) => awake06 W (u8_grew hu (gw0.trans' g)) (ht.grew (gw0.trans' g)) : ∀ W, Grew V0 W → _)
  by_cases h1 : 500 < i.name.size ∨ 500 < i.email.size ∨ 1000 < s.size
  · have hb : (decide (500 < (i.name.size : Int)) = true) ∨ (decide (500 < (i.name.size : Int)) = false ∧ decide (500 < (i.email.size : Int)) = true) ∨ (decide (500 < (i.name.size : Int)) = false ∧ decide (500 < (i.email.size : Int)) = false ∧ decide (1000 < (s.size : Int)) = true) := by
      simp only [decide_eq_true_eq, decide_eq_false_iff_not]
      omega
    clear h1 hm hu ht he
    rcases hb with f1 | ⟨f1, f2⟩ | ⟨f1, f2, f3⟩
    all_goals
      go_enter Tryd.func7, Tryd.ntmps7
      go_wp2_with (first | (go_at_call 9; with_reducible refine (ca _ (by assumption)).mono ?_; rintro e1 W1 ⟨rfl, g1⟩; replace g1 := Grew.trans' (a := V0) (by assumption) g1))
      go_ret
      exact ⟨rfl, gw0.trans' (by assumption)⟩
  have f1 : decide (500 < (i.name.size : Int)) = false := decide_eq_false (by omega)
  have f2 : decide (500 < (i.email.size : Int)) = false := decide_eq_false (by omega)
  have f3 : decide (1000 < (s.size : Int)) = false := decide_eq_false (by omega)
  have hTs : (printB i).size ≤ 1100 := by
    unfold printB
    cases hR : rightN i with
    | false => exact Nat.zero_le _
    | true =>
      rw [if_pos rfl]
      obtain ⟨p1, p2, p3, p4, p5⟩ := right_parts hR
      have l1 := called_len p1
      have l2 := called_len p2
      have l3 := itoa_short p3 p4
      have l4 := Pure.zoneS_len i.zone
      show (printN i).toArray.size ≤ 1100
      unfold printN Pure.printL
      rw [List.size_toArray]
      split <;> simp only [List.length_append, List.length_cons, List.length_nil] <;> omega
  have c1 := fun W (g : Grew V0 W) => ident_Parse (printB i) W (by omega) (hm.grew (gw0.trans' g)) (u8_grew hu (gw0.trans' g)) (ht.grew (gw0.trans' g)) (he.grew (gw0.trans' g))
  have c2 := fun W (g : Grew V0 W) => ident_Parse s W (by omega) (hm.grew (gw0.trans' g)) (u8_grew hu (gw0.trans' g)) (ht.grew (gw0.trans' g)) (he.grew (gw0.trans' g))
  have c6 := fun W (g : Grew V0 W) => ref_RightN i W (by omega) (by omega) (u8_grew hu (gw0.trans' g))
  have c7 := fun W (g : Grew V0 W) => ident_Print i W (by omega) (by omega) (u8_grew hu (gw0.trans' g)) (ht.grew (gw0.trans' g))
  have hown : rightN i = true → ∀ j e, PR (printB i).data.toList j e → j = i ∧ e = 0 := by
    intro h j e hp
    unfold printB at hp
    rw [h, if_pos rfl] at hp
    exact hp.own h
  have HOWN := Lib.hid hown
  obtain ⟨T, hT⟩ : ∃ T, printB i = T := ⟨_, rfl⟩
  rw [hT] at c1 c7 HOWN
  obtain ⟨R, hR⟩ : ∃ R, rightN i = R := ⟨_, rfl⟩
  rw [hR] at c6 HOWN
  have HU := Lib.hid hu
  have HT := Lib.hid ht
  clear h1 hm hu ht he hown hT hR hTs
  go_enter Tryd.func7, Tryd.ntmps7
  go_wp2_with (first | (refine wpList_load_mid rfl 24 _ rfl _ _ rfl i.cells _ (rr _ (by assumption)) Tryd.underlying24 rfl nfi ?_) | (go_at_call 11; with_reducible refine (c7 _ (by assumption)).mono ?_; rintro e1 W1 ⟨rfl, g1⟩; replace g1 := Grew.trans' (a := V0) (by assumption) g1) | (go_at_call 15; with_reducible refine (c1 _ (by assumption)).mono ?_))
  have gP : Grew V0 W1 := by assumption
  rintro e2 W2 hP2
  obtain ⟨g2, j, x, rfl, hPR⟩ := hP2.form
  have g02 : Grew V0 W2 := Grew.trans' gP g2
  have nfj := infoIdn j
  have jone := j.one
  have HPR := Lib.hid hPR
  clear hPR hP2 c1 c7
  go_wp2_with (first | (refine wpList_store_new rfl 24 _ _ rfl W2 _ rfl j.cells rfl rfl rfl nfj jone ?_; intro V1 g11 g111 rj hfz1 h1V; have gv1 : Grew V0 V1 := Grew.trans' g02 g11) | (go_at_call 15; with_reducible refine (c2 _ (by assumption)).mono ?_))
  rintro e3 W3 hP3
  obtain ⟨g3, k, y, rfl, hPK⟩ := hP3.form
  have g03 : Grew V0 W3 := Grew.trans' gv1 g3
  have nfk := infoIdn k
  have kone := k.one
  have HPK := Lib.hid hPK
  have hks : k.name.size ≤ 1099511627776 ∧ k.email.size ≤ 1099511627776 := by
    rcases hPK with ⟨-, h, -⟩ | ⟨-, rfl, -⟩
    · obtain ⟨p1, p2, -⟩ := right_parts h
      have l1 := called_len p1
      have l2 := called_len p2
      rw [list_len] at l1 l2
      omega
    · exact ⟨emptyB_le, emptyB_le⟩
  obtain ⟨hk1, hk2⟩ := hks
  clear hPK hP3 c2
  have hways : (R = true ∧ j = i ∧ x = 0) ∨ R = false := by
    cases R with
    | false => exact .inr rfl
    | true => exact .inl ⟨rfl, HOWN.out rfl _ _ HPR.out⟩
  have hways2 : (y = 0 ∧ rightN k = true ∧ ((printB k).toList == s.toList) = true) ∨ (y = 4) := by
    rcases HPK.out with ⟨h1, h2, h3⟩ | ⟨h1, -, -⟩
    · refine .inl ⟨h1, h2, ?_⟩
      rw [beq_iff_eq, ByteArray.toList_eq, ByteArray.toList_eq]
      unfold printB
      rw [h2, if_pos rfl]
      exact h3
    · exact .inr h1
  have cR := fun W (g : Grew V0 W) => ident_Right k W hk1 hk2 (u8_grew HU.out (gw0.trans' g))
  have cP := fun W (g : Grew V0 W) => ident_Print k W hk1 hk2 (u8_grew HU.out (gw0.trans' g)) (HT.out.grew (gw0.trans' g))
  have hEq := fun W => eql_idn i i W
  simp only [eqN_refl] at hEq
  have hGd := fun x y W => guard_idn .eql x y i i W
  clear HPR HPK HOWN
  obtain ⟨RK, hRK⟩ : ∃ R, rightN k = R := ⟨_, rfl⟩
  obtain ⟨TK, hTK⟩ : ∃ T, printB k = T := ⟨_, rfl⟩
  rw [hRK] at cR hways2
  rw [hTK] at cP hways2
  clear hRK hTK HU HT
  go_wp2_with (first | (refine wpList_store_new rfl 24 _ _ rfl W3 _ rfl k.cells rfl rfl rfl nfk kone ?_; intro V2 g22 g222 rk hfz2 h2V; have gv2 : Grew V0 V2 := Grew.trans' g03 g22) | (go_at_call 9; with_reducible refine (ca _ (by assumption)).mono ?_))
  rintro e4 W4 ⟨rfl, g4⟩
  have g24 : Grew V2 W4 := g4
  have g04 : Grew V0 W4 := gv2.trans' g4
  have g14 : Grew V1 W4 := Grew.trans' (g3.trans' g22) g4
  have g44 : Grew W4 W4 := Below.refl _ _
  have ri := fun W (g : Grew W4 W) => rr W (g04.trans' g)
  have rj4 := fun W (g : Grew W4 W) => rj W (g14.trans' g)
  have rk4 := fun W (g : Grew W4 W) => rk W (g24.trans' g)
  have c6' := fun W (g : Grew W4 W) => c6 W (g04.trans' g)
  have cR' := fun W (g : Grew W4 W) => cR W (g04.trans' g)
  have cP' := fun W (g : Grew W4 W) => cP W (g04.trans' g)
  have gw4 := gw0.trans' g04
  clear rr rj rk ca c6 cR cP q0 q1 g0 gP g2 g02 g11 g111 gv1 g3 g03 g22 g222 gv2 g4 g24 g04 g14 jone kone hfz1 hfz2 hV0
  go_wp2_with (first | (refine wpList_load_g ?hw 24 _ rfl _ _ rfl i.cells _ (ri _ (by assumption)) Tryd.underlying24 rfl nfi ?_; case hw => rfl) | (go_at_call 8; with_reducible refine (c6' _ (by assumption)).mono ?_))
  rintro e5 W5 ⟨rfl, g5⟩
  replace g5 := Grew.trans' (a := W4) (by assumption) g5
  rcases hways with ⟨hji, rfl, rfl⟩ | rfl
  · subst hji
    rcases hways2 with ⟨rfl, rfl, hTT⟩ | rfl
    · go_wp2_with (first | (go_at_call 10; with_reducible refine (cR' _ (by assumption)).mono ?_; rintro e1 W1 ⟨rfl, g1⟩; replace g1 := Grew.trans' (a := W4) (by assumption) g1) | (go_at_call 11; with_reducible refine (cP' _ (by assumption)).mono ?_; rintro e1 W1 ⟨rfl, g1⟩; replace g1 := Grew.trans' (a := W4) (by assumption) g1) | (have hq9 := rk4; clear hq9; refine wpList_load_g ?hw 24 _ rfl _ _ rfl k.cells _ (by with_reducible exact rk4 _ (by assumption)) Tryd.underlying24 rfl nfk ?_; case hw => rfl) | (refine wpList_load_g ?hw 24 _ rfl _ _ rfl j.cells _ (by with_reducible exact rj4 _ (by assumption)) Tryd.underlying24 rfl nfj ?_; (case hw => rfl); clear rj4) | (have hq9 := ri; clear hq9; refine wpList_load_g ?hw 24 _ rfl _ _ rfl j.cells _ (by with_reducible exact ri _ (by assumption)) Tryd.underlying24 rfl nfi ?_; (case hw => rfl); clear ri))
      go_ret
      exact ⟨rfl, gw4.trans' (by assumption)⟩
    · go_wp2_with (first | (go_at_call 10; with_reducible refine (cR' _ (by assumption)).mono ?_; rintro e1 W1 ⟨rfl, g1⟩; replace g1 := Grew.trans' (a := W4) (by assumption) g1) | (go_at_call 11; with_reducible refine (cP' _ (by assumption)).mono ?_; rintro e1 W1 ⟨rfl, g1⟩; replace g1 := Grew.trans' (a := W4) (by assumption) g1) | (have hq9 := rj4; clear hq9; refine wpList_load_g ?hw 24 _ rfl _ _ rfl j.cells _ (by with_reducible exact rj4 _ (by assumption)) Tryd.underlying24 rfl nfj ?_; (case hw => rfl); clear rj4) | (have hq9 := ri; clear hq9; refine wpList_load_g ?hw 24 _ rfl _ _ rfl j.cells _ (by with_reducible exact ri _ (by assumption)) Tryd.underlying24 rfl nfi ?_; (case hw => rfl); clear ri))
      go_ret
      exact ⟨rfl, gw4.trans' (by assumption)⟩
  · rcases hways2 with ⟨rfl, rfl, hTT⟩ | rfl
    · go_wp2_with (first | (go_at_call 10; with_reducible refine (cR' _ (by assumption)).mono ?_; rintro e1 W1 ⟨rfl, g1⟩; replace g1 := Grew.trans' (a := W4) (by assumption) g1) | (go_at_call 11; with_reducible refine (cP' _ (by assumption)).mono ?_; rintro e1 W1 ⟨rfl, g1⟩; replace g1 := Grew.trans' (a := W4) (by assumption) g1) | (have hq9 := rk4; clear hq9; refine wpList_load_g ?hw 24 _ rfl _ _ rfl k.cells _ (by with_reducible exact rk4 _ (by assumption)) Tryd.underlying24 rfl nfk ?_; case hw => rfl))
      go_ret
      exact ⟨rfl, gw4.trans' (by assumption)⟩
    · go_wp2_with (first | (go_at_call 10; with_reducible refine (cR' _ (by assumption)).mono ?_; rintro e1 W1 ⟨rfl, g1⟩; replace g1 := Grew.trans' (a := W4) (by assumption) g1) | (go_at_call 11; with_reducible refine (cP' _ (by assumption)).mono ?_; rintro e1 W1 ⟨rfl, g1⟩; replace g1 := Grew.trans' (a := W4) (by assumption) g1))
      go_ret
      exact ⟨rfl, gw4.trans' (by assumption)⟩

end Go.Proofs.YtibgjadnamgneaaDoor

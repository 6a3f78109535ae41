/- The law IdentZones of layer 6, walked: for any zone the call returns true. Conditions: the library's tables are laid. -/
import Derived.Test.YtibgjadnamgneaaDoorLaw06a
import Derived.Test.YtibgjadnamgneaaDoorIdent9
namespace Go.Proofs.YtibgjadnamgneaaDoor
set_option linter.unusedVariables false
set_option linter.unusedSimpArgs false
open Go.RowKit

abbrev zoneI (z : Int) : Idn := ⟨⟨#[65]⟩, ⟨#[]⟩, 0, z⟩
theorem zoneI_right (z : Int) : rightN (zoneI z) = zonedP z := by
  have h1 : calledP (⟨#[65]⟩ : ByteArray).data.toList = true := by kernel_rfl
  have h2 : calledP (⟨#[]⟩ : ByteArray).data.toList = true := called_empty
  unfold rightN
  simp only [h1, h2]
  simp
theorem itoa_zero : Lib.itoa 0 = [48] := by
  unfold Lib.itoa
  rw [if_neg (by decide), Pure.decDigits_small (by decide)]
  rfl
theorem zoneI_print (z : Int) : printN (zoneI z) = [65, 32, 60, 62, 32, 48, 32] ++ Pure.zoneS z := by
  unfold printN Pure.printL
  show (if [65] = [] then [] else [65] ++ [32]) ++ (60 :: ([] ++ (62 :: 32 :: (Lib.itoa 0 ++ (32 :: Pure.zoneS z))))) = _
  rw [itoa_zero]
  rfl

set_option maxRecDepth 100000 in
set_option maxHeartbeats 4000000 in
theorem law_IdentZones (z : Int) (w : World) (hz0 : -9223372036854775808 ≤ z) (hz1 : z ≤ 9223372036854775807) (hu : U8Ok w) (ht : TabOk w) :
    Calls Tryd.prog 4 #[.int .i64 z] w fun e w' => e = .returned (.bool true) ∧ Grew w w' := by
  have g0 : Grew w w := Below.refl _ _
  obtain ⟨V0, hV0, gw0, g00, q0, q1, q2, q3⟩ := boxedN w (zoneI z)
  have rr := Idn.range w (zoneI z)
  rw [hV0] at rr
  have nfi := infoIdn (zoneI z)
  simp only [Idn.cells] at hV0 rr nfi
  clear q0 q1 q2 q3
  have ca := (fun W g => awake06 W (u8_grew hu g) (ht.grew g) : ∀ W, Grew w W → _)
  have cR := (fun W g => ident_Right (zoneI z) W (by show (⟨#[65]⟩ : ByteArray).size ≤ _; decide) emptyB_le (u8_grew hu g) : ∀ W, Grew w W → _)
  have cP := (fun W g => ident_Print (zoneI z) W (by show (⟨#[65]⟩ : ByteArray).size ≤ _; decide) emptyB_le (u8_grew hu g) (ht.grew g) : ∀ W, Grew w W → _)
  rw [zoneI_right] at cR
  by_cases hin : Pure.zoneIn z
  · have hzp : zonedP z = true := by unfold zonedP; simp only [Bool.and_eq_true, decide_eq_true_eq]; exact hin
    obtain ⟨h1, h2⟩ := hin
    have f1 : decide (z < -840) = false := decide_eq_false (by omega)
    have f2 : decide (840 < z) = false := decide_eq_false (by omega)
    have hS : (printB (zoneI z)).data.toList = [65, 32, 60, 62, 32, 48, 32] ++ Pure.zoneS z := by
      unfold printB
      rw [zoneI_right, hzp, if_pos rfl, ← zoneI_print]
    generalize printB (zoneI z) = S at *
    have hSs : S.size = 12 := by rw [Lib.size_eq, hS, List.length_append, Pure.zoneS_len]; rfl
    have hE : (S.extract 7 12).data.toList = Pure.zoneS z := by
      rw [extract_list, hS]
      show List.take 5 (Pure.zoneS z) = _
      exact List.take_of_length_le (by rw [Pure.zoneS_len]; omega)
    have cZ := (fun W (g : Grew w W) => ident_Zone (S.extract 7 12) W (by rw [ByteArray.size_extract]; omega) : ∀ W, Grew w W → _)
    rw [hE, Pure.zoneF_S ⟨h1, h2⟩] at cZ
    simp only [zoneV] at cZ
    simp only [Idn.cells] at cR cP
    clear hu ht hS hE cR hzp
    go_enter Tryd.func4, Tryd.ntmps4
    go_wp2_with (first | (refine wpList_load_g (by rfl) 24 _ rfl _ _ rfl [Value.string ⟨#[65]⟩, Value.string ⟨#[]⟩, Value.int .i64 0, Value.int .i64 z] _ (rr _ (by assumption)) Tryd.underlying24 rfl nfi ?_) | (go_at_call 9; with_reducible refine (ca _ (gw0.trans' (by assumption))).mono ?_; rintro e1 W1 ⟨rfl, g1⟩; replace g1 := Grew.trans' (a := V0) (by assumption) g1) | (go_at_call 11; with_reducible refine (cP _ (gw0.trans' (by assumption))).mono ?_; rintro e1 W1 ⟨rfl, g1⟩; replace g1 := Grew.trans' (a := V0) (by assumption) g1) | (go_at_call 12; with_reducible refine (cZ _ (gw0.trans' (by assumption))).mono ?_; rintro e1 W1 ⟨rfl, g1⟩; replace g1 := Grew.trans' (a := V0) (by assumption) g1))
    go_ret
    exact ⟨rfl, gw0.trans' (by assumption)⟩
  · have hzp : zonedP z = false := by
      cases hq : zonedP z with
      | false => rfl
      | true => exact absurd (by unfold zonedP at hq; simp only [Bool.and_eq_true, decide_eq_true_eq] at hq; exact hq : Pure.zoneIn z) hin
    have hS : printB (zoneI z) = ⟨#[]⟩ := by
      unfold printB
      rw [zoneI_right, hzp]
      rfl
    rw [hS] at cP
    rw [hzp] at cR
    simp only [Idn.cells] at cR cP
    have hb : z < -840 ∨ (¬ z < -840 ∧ 840 < z) := by
      unfold Pure.zoneIn at hin
      omega
    clear hu ht hS hzp hin
    rcases hb with h | ⟨h, h'⟩
    · have f1 : decide (z < -840) = true := decide_eq_true h
      go_enter Tryd.func4, Tryd.ntmps4
      go_wp2_with (first | (refine wpList_load_g (by rfl) 24 _ rfl _ _ rfl [Value.string ⟨#[65]⟩, Value.string ⟨#[]⟩, Value.int .i64 0, Value.int .i64 z] _ (rr _ (by assumption)) Tryd.underlying24 rfl nfi ?_) | (go_at_call 9; with_reducible refine (ca _ (gw0.trans' (by assumption))).mono ?_; rintro e1 W1 ⟨rfl, g1⟩; replace g1 := Grew.trans' (a := V0) (by assumption) g1) | (go_at_call 11; with_reducible refine (cP _ (gw0.trans' (by assumption))).mono ?_; rintro e1 W1 ⟨rfl, g1⟩; replace g1 := Grew.trans' (a := V0) (by assumption) g1) | (go_at_call 10; with_reducible refine (cR _ (gw0.trans' (by assumption))).mono ?_; rintro e1 W1 ⟨rfl, g1⟩; replace g1 := Grew.trans' (a := V0) (by assumption) g1))
      go_ret
      exact ⟨rfl, gw0.trans' (by assumption)⟩
    · have f1 : decide (z < -840) = false := decide_eq_false h
      have f2 : decide (840 < z) = true := decide_eq_true h'
      go_enter Tryd.func4, Tryd.ntmps4
      go_wp2_with (first | (refine wpList_load_g (by rfl) 24 _ rfl _ _ rfl [Value.string ⟨#[65]⟩, Value.string ⟨#[]⟩, Value.int .i64 0, Value.int .i64 z] _ (rr _ (by assumption)) Tryd.underlying24 rfl nfi ?_) | (go_at_call 9; with_reducible refine (ca _ (gw0.trans' (by assumption))).mono ?_; rintro e1 W1 ⟨rfl, g1⟩; replace g1 := Grew.trans' (a := V0) (by assumption) g1) | (go_at_call 11; with_reducible refine (cP _ (gw0.trans' (by assumption))).mono ?_; rintro e1 W1 ⟨rfl, g1⟩; replace g1 := Grew.trans' (a := V0) (by assumption) g1) | (go_at_call 10; with_reducible refine (cR _ (gw0.trans' (by assumption))).mono ?_; rintro e1 W1 ⟨rfl, g1⟩; replace g1 := Grew.trans' (a := V0) (by assumption) g1))
      go_ret
      exact ⟨rfl, gw0.trans' (by assumption)⟩

end Go.Proofs.YtibgjadnamgneaaDoor

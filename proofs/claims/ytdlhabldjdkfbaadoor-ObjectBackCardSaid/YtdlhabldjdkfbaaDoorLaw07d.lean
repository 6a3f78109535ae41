/- The law ObjectBack of layer 7, walked: what is printed is parsed; what is parsed, printed again, is the same bytes; its id is their sum. Conditions: the library's tables are laid. -/
import Derived.Test.YtdlhabldjdkfbaaDoorLaw07c
namespace Go.Proofs.YtdlhabldjdkfbaaDoor
set_option linter.unusedVariables false
set_option linter.unusedSimpArgs false
open Go.RowKit

theorem pick_kind (m : Int) : ∃ K : Nat, wrap64 (1 + wrap64 ((IntKind.u64.wrap m).tmod 3)) = (K : Int) ∧ 1 ≤ K ∧ K ≤ 3 := by
  obtain ⟨K, hK, hlt⟩ := pick_wrap m 3 3 rfl (by decide) (by decide)
  refine ⟨K + 1, ?_, by omega, by omega⟩
  rw [hK]
  unfold wrap64
  omega

set_option maxRecDepth 100000 in
set_option maxHeartbeats 8000000 in
theorem law_ObjectBack (kind : Int) (p : Option Addr) (l : List UInt8) (cap : Nat) (q : Option Addr) (b : List UInt8) (cap2 : Nat) (w : World) (hk0 : -9223372036854775808 ≤ kind) (hk1 : kind ≤ 9223372036854775807) (hr : Rd w p l) (hl : l.length ≤ 9223372036854775807) (hb : Rd w q b) (hbl : b.length ≤ 9223372036854775807) (hq : q = none → cap2 = 0) (hbc : b.length ≤ cap2) (hT : TabOk w) (hM : MaxOk w) :
    Calls Tryd.prog 6 #[.int .i64 kind, .slice p l.length cap, .slice q b.length cap2] w fun e w' => e = .returned (.bool true) ∧ Grew w w' := by
  have g0 : Grew w w := Below.refl _ _
  have ca := (fun W (g : Grew w W) => awake07 W (hT.grew g) : ∀ W, Grew w W → _)
  by_cases h1 : 1500 < l.length ∨ 2000 < b.length
  · have hd : (decide (1500 < (l.length : Int)) = true) ∨ (decide (1500 < (l.length : Int)) = false ∧ decide (2000 < (b.length : Int)) = true) := by
      simp only [decide_eq_true_eq, decide_eq_false_iff_not]
      omega
    clear h1
    rcases hd with f1 | ⟨f1, f2⟩
    all_goals
      go_enter Tryd.func6, Tryd.ntmps6
      go_wp2_with (first | (go_at_call 8; with_reducible refine (ca _ (by assumption)).mono ?_; rintro e1 W1 ⟨rfl, g1⟩; replace g1 := Grew.trans' (a := w) (by assumption) g1))
      go_ret
      exact ⟨rfl, by assumption⟩
  have f1 : decide (1500 < (l.length : Int)) = false := decide_eq_false (by omega)
  have f2 : decide (2000 < (b.length : Int)) = false := decide_eq_false (by omega)
  obtain ⟨K, hK, hK1, hK3⟩ := pick_kind kind
  have hk3 : (K : Int) = 1 ∨ (K : Int) = 2 ∨ (K : Int) = 3 := by omega
  have hwne : Pure.wordO (K : Int) ≠ [] := by rcases hk3 with h | h | h <;> rw [h] <;> decide
  have hpr : printRO (K : Int) l = (Pure.bytesO (K : Int) l, 0) := by unfold printRO; rw [if_neg hwne, if_neg (by omega)]
  have hpa : parseRO (Pure.bytesO (K : Int) l) = ((K : Int), l, 0) := by unfold parseRO; rw [Pure.parse_bytes hk3 (by omega)]
  have hid : idO (K : Int) l = Pure.sumS (Pure.bytesO (K : Int) l) := if_neg (by rintro (h | h); exact hwne h; omega)
  have hlen := bytesO_len (K : Int) l (by omega)
  have hpos : 0 < (Pure.bytesO (K : Int) l).length := by unfold Pure.bytesO; simp; omega
  obtain ⟨BL, hBL⟩ : ∃ BL, Pure.bytesO (K : Int) l = BL := ⟨_, rfl⟩
  rw [hBL] at hpr hpa hid hlen hpos
  obtain ⟨V0, hV0, gw0, g00, hq0⟩ := boxed w #[.int .i64 (K : Int), .slice p l.length cap] 27
  have q0 := fun W g => hq0 W g 0 _ rfl
  have q1 := fun W g => hq0 W g 1 _ rfl
  have HR := Lib.hid hr
  have HB := Lib.hid hb
  have HM := Lib.hid hM
  have HT := Lib.hid hT
  have HID := Lib.hid hid
  have HPA := Lib.hid hpa
  have cP := object_Print (K : Int) p l cap V0 (by omega) (HR.out.below gw0 (Nat.le_refl _)) (HT.out.grew gw0)
  subst hV0
  have hl15 : l.length ≤ 1500 := by omega
  have hb20 : b.length ≤ 2000 := by omega
  clear hr hb hM hT hid hpa hq0 h1
  go_enter Tryd.func6, Tryd.ntmps6
  go_wp2_with fail
  go_fit cP
  intro e1 V1 h1
  obtain ⟨g1, px, cx, rfl, hrx, hcx, hnx⟩ := printO_view h1
  rw [hpr] at hrx hcx ⊢
  simp only at hrx hcx ⊢
  have gw1 := gw0.trans' g1
  clear h1 cP
  have cP := object_Parse px BL cx V1 hrx hnx hcx (by omega) (HM.out.grew gw1) (HT.out.grew gw1)
  go_wp2_with fail
  go_fit cP
  intro e2 V2 h2
  obtain ⟨g2, pu, cu, rfl, hru⟩ := parseO_view h2
  rw [HPA.out] at hru ⊢
  simp only at hru ⊢
  have g02 := g1.trans' g2
  clear h2 cP
  obtain ⟨V3, hV3, g3, g33, hq3⟩ := boxed V2 #[.int .i64 (K : Int), .slice pu l.length cu] 27
  have x0 := fun W g => hq3 W g 0 _ rfl
  have x1 := fun W g => hq3 W g 1 _ rfl
  subst hV3
  have g03 := g02.trans' g3
  have gw3 := gw0.trans' g03
  have g13 := g2.trans' g3
  have cA := fun W (g : Grew (V2.alloc (.cells #[.int .i64 (K : Int), .slice pu l.length cu] 27)) W) => ca W (gw3.trans' g)
  have cOb := fun W (g : Grew (V2.alloc (.cells #[.int .i64 (K : Int), .slice pu l.length cu] 27)) W) => help_Object (K : Int) (K : Int) pu p l l cu cap W (hru.below (g3.trans' g) (Nat.le_refl _)) (HR.out.below (gw3.trans' g) (Nat.le_refl _))
  have hll : (l == l) = true := by simp
  have hkk : ((K : Int) == (K : Int)) = true := by simp
  simp only [hll, hkk, Bool.and_self] at cOb
  have cI := fun W (g : Grew (V2.alloc (.cells #[.int .i64 (K : Int), .slice pu l.length cu] 27)) W) => object_Id (K : Int) p l cap W (by omega) (HR.out.below (gw3.trans' g) (Nat.le_refl _)) (HT.out.grew (gw3.trans' g))
  have cS := fun W (g : Grew (V2.alloc (.cells #[.int .i64 (K : Int), .slice pu l.length cu] 27)) W) => ref02_Sum px BL cx W (hrx.below (g13.trans' g) (Nat.le_refl _)) (by omega)
  simp only [HID.out] at cI
  obtain ⟨SB, hSB⟩ : ∃ SB, Pure.sumS BL = SB := ⟨_, rfl⟩
  have h20 : SB.length = 20 := by rw [← hSB]; exact Pure.sumS_len _
  simp only [hSB] at cI cS
  have hEq : ∀ W, (binOp .neq 30 (idV SB) (idV SB)).run Tryd.prog W = .ok (.bool false) W := fun W => by rw [show idV SB = .agg (Lib.byteCells SB).toArray from rfl, neq_id SB SB h20 h20 W, beq_self_eq_true]; rfl
  have hGd : ∀ x y W, (eqGuard .neq 30 x y (idV SB) (idV SB)).run Tryd.prog W = .ok () W := fun x y W => guard_id .neq x y SB SB W
  have z0 := fun W (g : Grew (V2.alloc (.cells #[.int .i64 (K : Int), .slice pu l.length cu] 27)) W) => q0 W (g03.trans' g)
  have z1 := fun W (g : Grew (V2.alloc (.cells #[.int .i64 (K : Int), .slice pu l.length cu] 27)) W) => q1 W (g03.trans' g)
  clear ca hq3 hSB h20 q0 q1 g00 g1 g2 g02 g13 hru hrx hcx hnx g0
  go_wp2_with (first | (go_at_call 8; with_reducible refine (cA _ (by assumption)).mono ?_; rintro e1 W1 ⟨rfl, g1⟩; replace g1 := Grew.trans' (a := (V2.alloc (.cells #[.int .i64 (K : Int), .slice pu l.length cu] 27))) (by assumption) g1) | (go_at_call 12; with_reducible refine (cOb _ (by assumption)).mono ?_; rintro e1 W1 ⟨rfl, g1⟩; replace g1 := Grew.trans' (a := (V2.alloc (.cells #[.int .i64 (K : Int), .slice pu l.length cu] 27))) (by assumption) g1) | (go_at_call 9; with_reducible refine (cI _ (by assumption)).mono ?_; rintro e1 W1 ⟨rfl, g1⟩; replace g1 := Grew.trans' (a := (V2.alloc (.cells #[.int .i64 (K : Int), .slice pu l.length cu] 27))) (by assumption) g1) | (go_at_call 21; with_reducible refine (cS _ (by assumption)).mono ?_; rintro e1 W1 ⟨rfl, g1⟩; replace g1 := Grew.trans' (a := (V2.alloc (.cells #[.int .i64 (K : Int), .slice pu l.length cu] 27))) (by assumption) g1))
  have gX1 : Grew (V2.alloc (.cells #[.int .i64 (K : Int), .slice pu l.length cu] 27)) W1 := by assumption
  have gw1' := gw3.trans' gX1
  have cP := object_Parse q b cap2 W1 (HB.out.below gw1' (Nat.le_refl _)) hq hbc (by omega) (HM.out.grew gw1') (HT.out.grew gw1')
  clear cA cOb cI cS hEq hGd z0 z1 x0 x1
  go_fit cP
  intro e5 V5 h5
  obtain ⟨g5, pv, cv, rfl, hrv⟩ := parseO_view h5
  have gw5 := gw1'.trans' g5
  clear h5 cP
  obtain ⟨⟨ky, ly, ey⟩, hEY⟩ : ∃ z, parseRO b = z := ⟨_, rfl⟩
  have hway : (ky = 0 ∧ ly = [] ∧ ey = 4) ∨ (ey = 0 ∧ (ky = 1 ∨ ky = 2 ∨ ky = 3) ∧ ly.length ≤ 65536 ∧ Pure.bytesO ky ly = b) := by
    unfold parseRO at hEY
    cases hp : Pure.parseO b with
    | none =>
      rw [hp] at hEY
      simp only [Prod.mk.injEq] at hEY
      exact .inl ⟨hEY.1.symm, hEY.2.1.symm, hEY.2.2.symm⟩
    | some z =>
      obtain ⟨k2, r2⟩ := z
      rw [hp] at hEY
      simp only [Prod.mk.injEq] at hEY
      obtain ⟨rfl, rfl, rfl⟩ := hEY
      obtain ⟨b1, b2, b3, -⟩ := Pure.parse_back hp
      exact .inr ⟨rfl, b1, b2, b3⟩
  rw [hEY] at hrv ⊢
  simp only at hrv ⊢
  have g55 : Grew V5 V5 := Below.refl _ _
  obtain ⟨V6, hV6, g6, g66, hq6⟩ := boxed V5 #[.int .i64 ky, .slice pv ly.length cv] 27
  have y0 := fun W g => hq6 W g 0 _ rfl
  have y1 := fun W g => hq6 W g 1 _ rfl
  have gw6 := gw5.trans' g6
  clear hq6 hEY
  subst hV6
  rcases hway with ⟨rfl, rfl, rfl⟩ | ⟨rfl, hk, hly, hbk⟩
  · simp only [List.length_nil] at gw6 y0 y1 g66 ⊢
    have cO2 := fun W (g : Grew (V5.alloc (.cells #[.int .i64 0, .slice pv 0 cv] 27)) W) => help_Object 0 0 pv none [] [] cv 0 W (.inl rfl) (.inl rfl)
    have hnn : (([] : List UInt8) == []) = true := rfl
    have hzz : ((0 : Int) == 0) = true := rfl
    simp only [hnn, hzz, Bool.and_self, List.length_nil] at cO2
    go_wp2_with (first | (go_at_call 12; with_reducible refine (cO2 _ (by assumption)).mono ?_; rintro e1 W1 ⟨rfl, g1⟩; replace g1 := Grew.trans' (a := (V5.alloc (.cells #[.int .i64 0, .slice pv 0 cv] 27))) (by assumption) g1))
    go_ret
    exact ⟨rfl, gw6.trans' (by assumption)⟩
  · have hwk : Pure.wordO ky ≠ [] := by rcases hk with h | h | h <;> rw [h] <;> decide
    have hpr2 : printRO ky ly = (b, 0) := by unfold printRO; rw [if_neg hwk, if_neg (by omega), hbk]
    have cP := object_Print ky pv ly cv _ (by omega) (hrv.below g6 (Nat.le_refl _)) (HT.out.grew gw6)
    clear hbk
    go_wp2_with fail
    go_fit cP
    intro e7 V7 h7
    obtain ⟨g7, pz, cz, rfl, hrz, -, -⟩ := printO_view h7
    rw [hpr2] at hrz ⊢
    simp only at hrz ⊢
    have gw7 := gw6.trans' g7
    clear h7 cP
    have cB := help_Bytes pz q b b cz cap2 V7 hrz (HB.out.below gw7 (Nat.le_refl _))
    have hbb : (b == b) = true := by simp
    rw [hbb] at cB
    go_wp2_with (first | (go_at_call 16; with_reducible refine cB.mono ?_; rintro e8 W8 ⟨rfl, h8⟩; subst W8))
    go_ret
    exact ⟨rfl, gw7⟩

end Go.Proofs.YtdlhabldjdkfbaaDoor

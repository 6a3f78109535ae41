/- The law MetaBack of layer 21, walked. Conditions: the library's tables are laid; each text of at most 2^20 bytes. -/
import Derived.Test.YtkdmhflcpfekfaaDoorFew21
namespace Go.Proofs.YtkdmhflcpfekfaaDoor
set_option linter.unusedVariables false
set_option linter.unusedSimpArgs false
open Go.RowKit

theorem fine_le {l : List Two} {N : Nat} (h : ∀ x ∈ l, SizesLe N x) (hN : N ≤ 1073741824) : ∀ x ∈ l, FineW x := fun x hx => ⟨Nat.le_trans (h x hx).1 hN, Nat.le_trans (h x hx).2 hN⟩
theorem trailer_small {l m : List Two} (hf : ∀ x ∈ l, SizesLe 3000 x) (hg : ∀ x ∈ m, SizesLe 3000 x) (hl : l.length ≤ 3000) (hm : m.length ≤ 3000) : (trailerP l m).length ≤ 1099511627776 := by
  have h := trailer_le hf hg
  have h1 : l.length * (8 + 4 * 3000) ≤ 3000 * 12008 := Nat.mul_le_mul hl (Nat.le_refl _)
  have h2 : m.length * (8 + 4 * 3000) ≤ 3000 * 12008 := Nat.mul_le_mul hm (Nat.le_refl _)
  omega
theorem pack_size {t s : List UInt8} {l m : List Two} (h : packP t l m = (s, 0)) (ht : t.length ≤ 3000) : s.length ≤ 32768 := by
  obtain ⟨-, -, ⟨-, rfl⟩ | ⟨-, -, h⟩⟩ := pack_shape h
  · omega
  · exact h

set_option maxRecDepth 100000 in
set_option maxHeartbeats 4000000 in
theorem law_MetaBack (t : ByteArray) (p : Option Addr) (l : List Two) (c : Nat) (q : Option Addr) (m : List Two) (d : Nat) (o : ByteArray) (w : World) (ht : t.size ≤ 1048576) (hr : RdG kExtra w p l) (hl : l.length ≤ 9223372036854775807) (hf : ∀ x ∈ l, SizesLe 1048576 x) (hq : RdG kCopy w q m) (hml : m.length ≤ 9223372036854775807) (hg : ∀ x ∈ m, SizesLe 1048576 x) (ho : o.size ≤ 1048576) (hm : MaxOk w) (hu : U8Ok w) (hF : FoldOk w) :
    Calls Tryd.prog 4 #[.string t, .slice p l.length c, .slice q m.length d, .string o] w fun e w' => e = .returned (.bool true) ∧ Grew w w' := by
  have g0 : Grew w w := Below.refl _ _
  have cF := few21 t p q l m c d w ht hl hml hr hq hf hg
  have ca := fun W (g : Grew w W) => awake21 W (hm.grew g) (u8_grew hu g) (hF.grew g)
  have HR := Lib.hid hr
  have HQ := Lib.hid hq
  have HM := Lib.hid hm
  have HU := Lib.hid hu
  have HFO := Lib.hid hF
  clear hm hu hF hr hq hf hg
  go_enter Tryd.func4, Tryd.ntmps4
  go_wp2_with fail
  refine Calls.mono cF ?_
  rintro e1 U ⟨⟨B, rfl, hB⟩, gU⟩
  have gUU : Grew U U := Below.refl _ _
  have caU := fun W (g : Grew U W) => ca W (gU.trans' g)
  clear cF ca
  cases B with
  | false =>
    clear hB
    go_wp2_with (first | (go_at_call 8; with_reducible refine (caU _ (by assumption)).mono ?_; rintro e1 W1 ⟨rfl, g1⟩; replace g1 := Grew.trans' (a := U) (by assumption) g1))
    go_ret
    exact ⟨rfl, gU.trans' (by assumption)⟩
  | true =>
    obtain ⟨hl5, hm5, ht3, hf3, hg3⟩ := hB rfl
    clear hB
    by_cases ho3 : 3000 < o.size
    · have f1 : decide (3000 < o.size) = true := decide_eq_true ho3
      have f2 : decide ((3000 : Int) < (o.size : Int)) = true := decide_eq_true (by omega)
      clear hf3 hg3
      go_wp2_with (first | (go_at_call 8; with_reducible refine (caU _ (by assumption)).mono ?_; rintro e1 W1 ⟨rfl, g1⟩; replace g1 := Grew.trans' (a := U) (by assumption) g1))
      go_ret
      exact ⟨rfl, gU.trans' (by assumption)⟩
    have f1 : decide (3000 < o.size) = false := decide_eq_false ho3
    have f2 : decide ((3000 : Int) < (o.size : Int)) = false := decide_eq_false (by omega)
    have hfl := fine_le hf3 (by decide)
    have hgl := fine_le hg3 (by decide)
    have htl : t.data.toList.length = t.size := Array.length_toList
    have hol : o.data.toList.length = o.size := Array.length_toList
    have cP := fun W (g : Grew U W) => meta_Pack t p q l m c d W (by omega) (by omega) (by omega) (HR.out.grew (gU.trans' g)) (HQ.out.grew (gU.trans' g)) hfl hgl (trailer_small hf3 hg3 (by omega) (by omega)) (HM.out.grew (gU.trans' g)) (u8_grew HU.out (gU.trans' g)) (HFO.out.grew (gU.trans' g))
    obtain ⟨⟨P0, E⟩, hPE⟩ : ∃ PE, packP t.data.toList l m = PE := ⟨_, rfl⟩
    simp only [hPE] at cP
    obtain ⟨P, hP⟩ : ∃ P : ByteArray, (⟨P0.toArray⟩ : ByteArray) = P := ⟨_, rfl⟩
    have hPl : P.data.toList = P0 := by rw [← hP]
    simp only [hP] at cP
    have cTo := fun W (g : Grew U W) => meta_Take o W (by omega) (HM.out.grew (gU.trans' g)) (u8_grew HU.out (gU.trans' g)) (HFO.out.grew (gU.trans' g))
    have HOL := Lib.hid hol
    have HTL := Lib.hid htl
    have HPE := Lib.hid hPE
    have HPL := Lib.hid hPl
    have hEE : (E = 0 ∧ (E == 0) = true) ∨ (E == 0) = false := by by_cases h : E = 0 <;> simp [h]
    clear hf3 hg3 hfl hgl hol htl hP hPE hPl
    rcases hEE with ⟨rfl, hE1⟩ | hE1
    · have hpe := HPE.out
      rw [← HPL.out] at hpe
      have hps := pack_size hpe (by rw [HTL.out]; omega)
      have hps2 : P.size ≤ 32768 := by rwa [show P.data.toList.length = P.size from Array.length_toList] at hps
      have cTP := fun W (g : Grew U W) => meta_Take P W (by omega) (HM.out.grew (gU.trans' g)) (u8_grew HU.out (gU.trans' g)) (HFO.out.grew (gU.trans' g))
      have HTK := Lib.hid (take_packed hpe)
      clear hpe hps
      go_wp2_with (first | (go_at_call 11; with_reducible refine (cP _ (by assumption)).mono ?_; rintro e1 W1 ⟨rfl, g1⟩; replace g1 := Grew.trans' (a := U) (by assumption) g1) | (go_at_call 13; with_reducible refine (cTP _ (by assumption)).mono ?_))
      have gP : Grew U W1 := by assumption
      rintro e2 V2 ⟨g2, xx, l', c', b, vv, uu, htk', rfl, hol, hoc, -, -, -, -⟩
      obtain ⟨rfl, rfl, rfl, rfl⟩ : t.data.toList = xx ∧ l = l' ∧ m = c' ∧ true = b := by
        have h := HTK.out.symm.trans htk'
        simp only [Prod.mk.injEq] at h
        exact h
      rw [mk_list]
      obtain ⟨pv, cv, rfl, hrv, -, -, -⟩ := hol.val
      obtain ⟨pu, cu, rfl, hru, -, -, -⟩ := hoc.val
      have gV2 := gP.trans' g2
      have g22 : Grew V2 V2 := Below.refl _ _
      have cP1 := fun W (g : Grew V2 W) => plain_Extra_eq pv p l cv c W (by omega) (fun _ _ => trivial) (hrv.grew g) (HR.out.grew ((gU.trans' gV2).trans' g))
      have cP2 := fun W (g : Grew V2 W) => plain_Copy_eq pu q m cu d W (by omega) (fun _ _ => trivial) (hru.grew g) (HQ.out.grew ((gU.trans' gV2).trans' g))
      clear cP cTP hol hoc htk' hrv hru HTK
      go_wp2_with (first | (go_at_call 15; with_reducible refine (cP1 _ (by assumption)).mono ?_; rintro e1 W1 ⟨rfl, g1⟩; replace g1 := Grew.trans' (a := V2) (by assumption) g1) | (go_at_call 16; with_reducible refine (cP2 _ (by assumption)).mono ?_; rintro e1 W1 ⟨rfl, g1⟩; replace g1 := Grew.trans' (a := V2) (by assumption) g1) | (go_at_call 13; with_reducible refine (cTo _ (gV2.trans' (by assumption))).mono ?_))
      have gX : Grew U W1 := gV2.trans' (by assumption)
      rintro e3 V3 ⟨g3, x, l', c', b, vv, uu, htk, rfl, hol, hoc, hs1, hs2, hxl, hln⟩
      have gX3 := gX.trans' g3
      have g33 : Grew V3 V3 := Below.refl _ _
      have caV := fun W (g : Grew V3 W) => caU W (gX3.trans' g)
      obtain ⟨pv3, cv3, rfl, hrv3, -, -, -⟩ := hol.val
      obtain ⟨pu3, cu3, rfl, hru3, -, -, -⟩ := hoc.val
      obtain ⟨X, hX⟩ : ∃ X : ByteArray, (⟨x.toArray⟩ : ByteArray) = X := ⟨_, rfl⟩
      rw [hX]
      cases b with
      | false =>
        obtain ⟨hx, rfl, rfl⟩ := take_false htk
        obtain rfl : X = o := by rw [← hX, hx, mk_list]
        clear cTo hol hoc htk hrv3 hru3 hX hx hs1 hs2 hxl hln caU
        go_wp2_with (first | (go_at_call 8; with_reducible refine (caV _ (by assumption)).mono ?_; rintro e1 W1 ⟨rfl, g1⟩; replace g1 := Grew.trans' (a := V3) (by assumption) g1))
        go_ret
        exact ⟨rfl, gU.trans' (gX3.trans' (by assumption))⟩
      | true =>
        have hpt := pack_taken htk
        have hXl : X.data.toList = x := by rw [← hX]
        have hol3 := HOL.out
        have hXs : X.size = x.length := by rw [← hXl]; exact Array.length_toList.symm
        rw [← hXl] at hpt
        have hSZ1 : ∀ y ∈ l', SizesLe 3000 y := fun y hy => (hs1 y hy).mono (by omega)
        have hSZ2 : ∀ y ∈ c', SizesLe 3000 y := fun y hy => (hs2 y hy).mono (by omega)
        have cZ := fun W (g : Grew V3 W) => meta_Pack X pv3 pu3 l' c' cv3 cu3 W (by omega) (by omega) (by omega) (hrv3.grew g) (hru3.grew g) (fine_le hSZ1 (by decide)) (fine_le hSZ2 (by decide)) (trailer_small hSZ1 hSZ2 (by omega) (by omega)) (HM.out.grew ((gU.trans' gX3).trans' g)) (u8_grew HU.out ((gU.trans' gX3).trans' g)) (HFO.out.grew ((gU.trans' gX3).trans' g))
        simp only [hpt, mk_list] at cZ
        clear cTo hol hoc htk hrv3 hru3 hX hXl hol3 hpt hs1 hs2 hSZ1 hSZ2 hxl hln caU
        go_wp2_with (first | (go_at_call 8; with_reducible refine (caV _ (by assumption)).mono ?_; rintro e1 W1 ⟨rfl, g1⟩; replace g1 := Grew.trans' (a := V3) (by assumption) g1) | (go_at_call 11; with_reducible refine (cZ _ (by assumption)).mono ?_; rintro e1 W1 ⟨rfl, g1⟩; replace g1 := Grew.trans' (a := V3) (by assumption) g1))
        go_ret
        exact ⟨rfl, gU.trans' (gX3.trans' (by assumption))⟩
    · go_wp2_with (first | (go_at_call 11; with_reducible refine (cP _ (by assumption)).mono ?_; rintro e1 W1 ⟨rfl, g1⟩; replace g1 := Grew.trans' (a := U) (by assumption) g1) | (go_at_call 13; with_reducible refine (cTo _ (by assumption)).mono ?_))
      have gX : Grew U W1 := by assumption
      rintro e3 V3 ⟨g3, x, l', c', b, vv, uu, htk, rfl, hol, hoc, hs1, hs2, hxl, hln⟩
      have gX3 := gX.trans' g3
      have g33 : Grew V3 V3 := Below.refl _ _
      have caV := fun W (g : Grew V3 W) => caU W (gX3.trans' g)
      obtain ⟨pv3, cv3, rfl, hrv3, -, -, -⟩ := hol.val
      obtain ⟨pu3, cu3, rfl, hru3, -, -, -⟩ := hoc.val
      obtain ⟨X, hX⟩ : ∃ X : ByteArray, (⟨x.toArray⟩ : ByteArray) = X := ⟨_, rfl⟩
      rw [hX]
      cases b with
      | false =>
        obtain ⟨hx, rfl, rfl⟩ := take_false htk
        obtain rfl : X = o := by rw [← hX, hx, mk_list]
        clear cTo hol hoc htk hrv3 hru3 hX hx hs1 hs2 hxl hln caU
        go_wp2_with (first | (go_at_call 8; with_reducible refine (caV _ (by assumption)).mono ?_; rintro e1 W1 ⟨rfl, g1⟩; replace g1 := Grew.trans' (a := V3) (by assumption) g1))
        go_ret
        exact ⟨rfl, gU.trans' (gX3.trans' (by assumption))⟩
      | true =>
        have hpt := pack_taken htk
        have hXl : X.data.toList = x := by rw [← hX]
        have hol3 := HOL.out
        have hXs : X.size = x.length := by rw [← hXl]; exact Array.length_toList.symm
        rw [← hXl] at hpt
        have hSZ1 : ∀ y ∈ l', SizesLe 3000 y := fun y hy => (hs1 y hy).mono (by omega)
        have hSZ2 : ∀ y ∈ c', SizesLe 3000 y := fun y hy => (hs2 y hy).mono (by omega)
        have cZ := fun W (g : Grew V3 W) => meta_Pack X pv3 pu3 l' c' cv3 cu3 W (by omega) (by omega) (by omega) (hrv3.grew g) (hru3.grew g) (fine_le hSZ1 (by decide)) (fine_le hSZ2 (by decide)) (trailer_small hSZ1 hSZ2 (by omega) (by omega)) (HM.out.grew ((gU.trans' gX3).trans' g)) (u8_grew HU.out ((gU.trans' gX3).trans' g)) (HFO.out.grew ((gU.trans' gX3).trans' g))
        simp only [hpt, mk_list] at cZ
        clear cTo hol hoc htk hrv3 hru3 hX hXl hol3 hpt hs1 hs2 hSZ1 hSZ2 hxl hln caU
        go_wp2_with (first | (go_at_call 8; with_reducible refine (caV _ (by assumption)).mono ?_; rintro e1 W1 ⟨rfl, g1⟩; replace g1 := Grew.trans' (a := V3) (by assumption) g1) | (go_at_call 11; with_reducible refine (cZ _ (by assumption)).mono ?_; rintro e1 W1 ⟨rfl, g1⟩; replace g1 := Grew.trans' (a := V3) (by assumption) g1))
        go_ret
        exact ⟨rfl, gU.trans' (gX3.trans' (by assumption))⟩

end Go.Proofs.YtkdmhflcpfekfaaDoor

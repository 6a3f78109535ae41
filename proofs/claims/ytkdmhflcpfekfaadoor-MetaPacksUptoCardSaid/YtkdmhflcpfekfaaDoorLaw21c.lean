/- The law MetaPacks of layer 21, walked. Conditions: the library's tables are laid; each text of at most 2^20 bytes. -/
import Derived.Test.YtkdmhflcpfekfaaDoorLaw21b
namespace Go.Proofs.YtkdmhflcpfekfaaDoor
set_option linter.unusedVariables false
set_option linter.unusedSimpArgs false
open Go.RowKit

def spoiltW : Two := ⟨⟨#[115, 112, 111, 105, 108, 116]⟩, ⟨#[]⟩⟩
theorem run_spoiltE (w : World) : (Instr.build 28 #[(0, .string ⟨#[115, 112, 111, 105, 108, 116]⟩)]).run Tryd.prog w = .ok (.agg spoiltW.cells.toArray) w := run_build w _ _ _ (by kernel_rfl)
theorem run_spoiltC (w : World) : (Instr.build 31 #[(0, .string ⟨#[115, 112, 111, 105, 108, 116]⟩)]).run Tryd.prog w = .ok (.agg spoiltW.cells.toArray) w := run_build w _ _ _ (by kernel_rfl)

set_option maxRecDepth 100000 in
set_option maxHeartbeats 4000000 in
theorem law_MetaPacks (t : ByteArray) (p : Option Addr) (l : List Two) (c : Nat) (q : Option Addr) (m : List Two) (d : Nat) (o k : ByteArray) (w : World) (ht : t.size ≤ 1048576) (hr : RdG kExtra w p l) (hl : l.length ≤ 9223372036854775807) (hf : ∀ x ∈ l, SizesLe 1048576 x) (hq : RdG kCopy w q m) (hml : m.length ≤ 9223372036854775807) (hg : ∀ x ∈ m, SizesLe 1048576 x) (ho : o.size ≤ 1048576) (hk : k.size ≤ 1048576) (hm : MaxOk w) (hu : U8Ok w) (hF : FoldOk w) :
    Calls Tryd.prog 3 #[.string t, .slice p l.length c, .slice q m.length d, .string o, .string k] w fun e w' => e = .returned (.bool true) ∧ Grew w w' := by
  have g0 : Grew w w := Below.refl _ _
  have cF := few21 t p q l m c d w ht hl hml hr hq hf hg
  have ca := fun W (g : Grew w W) => awake21 W (hm.grew g) (u8_grew hu g) (hF.grew g)
  have HR := Lib.hid hr
  have HQ := Lib.hid hq
  have HM := Lib.hid hm
  have HU := Lib.hid hu
  have HFO := Lib.hid hF
  clear hm hu hF hr hq hf hg
  go_enter Tryd.func3, Tryd.ntmps3
  go_wp2_with fail
  refine Calls.mono cF ?_
  rintro e1 U ⟨⟨B, rfl, hB⟩, gU⟩
  have gUU : Grew U U := Below.refl _ _
  have caU := fun W (g : Grew U W) => ca W (gU.trans' g)
  clear cF ca
  cases B with
  | false =>
    clear hB
    go_wp2_with (first | (go_at_call 8; with_reducible refine (caU _ (by assumption)).mono ?_; rintro e1 W1 ⟨rfl, g1⟩; replace g1 := Grew.trans' (a := U) (by assumption) g1))
    go_ret
    exact ⟨rfl, gU.trans' (by assumption)⟩
  | true =>
    obtain ⟨hl5, hm5, ht3, hf3, hg3⟩ := hB rfl
    clear hB
    by_cases ho3 : 3000 < o.size
    · have f1 : decide (3000 < o.size) = true := decide_eq_true ho3
      have f2 : decide ((3000 : Int) < (o.size : Int)) = true := decide_eq_true (by omega)
      clear hf3 hg3
      go_wp2_with (first | (go_at_call 8; with_reducible refine (caU _ (by assumption)).mono ?_; rintro e1 W1 ⟨rfl, g1⟩; replace g1 := Grew.trans' (a := U) (by assumption) g1))
      go_ret
      exact ⟨rfl, gU.trans' (by assumption)⟩
    have f1 : decide (3000 < o.size) = false := decide_eq_false ho3
    have f2 : decide ((3000 : Int) < (o.size : Int)) = false := decide_eq_false (by omega)
    by_cases hk3 : 300 < k.size
    · have f3 : decide (300 < k.size) = true := decide_eq_true hk3
      have f4 : decide ((300 : Int) < (k.size : Int)) = true := decide_eq_true (by omega)
      clear hf3 hg3
      go_wp2_with (first | (go_at_call 8; with_reducible refine (caU _ (by assumption)).mono ?_; rintro e1 W1 ⟨rfl, g1⟩; replace g1 := Grew.trans' (a := U) (by assumption) g1))
      go_ret
      exact ⟨rfl, gU.trans' (by assumption)⟩
    have f3 : decide (300 < k.size) = false := decide_eq_false hk3
    have f4 : decide ((300 : Int) < (k.size : Int)) = false := decide_eq_false (by omega)
    have hfl := fine_le hf3 (by decide)
    have hgl := fine_le hg3 (by decide)
    have hts := trailer_small hf3 hg3 (by omega) (by omega)
    have HFL := Lib.hid hfl
    have HGL := Lib.hid hgl
    have HTS := Lib.hid hts
    have cO := own_Extra p l c spoiltW U (by omega) (fun _ _ => trivial) trivial (HR.out.grew gU)
    clear hf3 hg3 hfl hgl hts
    go_wp2_with (first | (refine wpListExec rfl _ _ (execBuild 28 [(0, .const (.string ⟨#[115, 112, 111, 105, 108, 116]⟩))] rfl _ (run_spoiltE _)) ?_))
    refine Calls.mono cO ?_
    rintro e2 V1 ⟨gi, hgi, rfl, hblk, gA1⟩
    have hri : RdG kExtra V1 (some ⟨gi, 0, none⟩) (l ++ [spoiltW, spoiltW, spoiltW]) := rdG_block kExtra hblk (fun _ _ => trivial) (fun i v hv => by simpa using hv)
    have HRI := Lib.hid hri
    have gw1 := gU.trans' gA1
    have cO2 := own_Copy q m d spoiltW V1 (by omega) (fun _ _ => trivial) trivial (HQ.out.grew gw1)
    clear cO hblk hri hgi
    go_wp2_with (first | (refine wpListExec rfl _ _ (execBuild 31 [(0, .const (.string ⟨#[115, 112, 111, 105, 108, 116]⟩))] rfl _ (run_spoiltC _)) ?_))
    refine Calls.mono cO2 ?_
    rintro e3 V2 ⟨gj, hgj, rfl, hblk, gA2⟩
    have hrj : RdG kCopy V2 (some ⟨gj, 0, none⟩) (m ++ [spoiltW, spoiltW, spoiltW]) := rdG_block kCopy hblk (fun _ _ => trivial) (fun i v hv => by simpa using hv)
    have HRJ := Lib.hid hrj
    have gw2 := gw1.trans' gA2
    have g22 : Grew V2 V2 := Below.refl _ _
    clear cO2 hblk hrj hgj
    have cP := fun W (g : Grew V2 W) => meta_Pack t (some ⟨gi, 0, none⟩) (some ⟨gj, 0, none⟩) l m (l.length + 3) (m.length + 3) W (by omega) (by omega) (by omega) ((HRI.out.grew gA2).grew g).pre (HRJ.out.grew g).pre HFL.out HGL.out HTS.out (HM.out.grew (gw2.trans' g)) (u8_grew HU.out (gw2.trans' g)) (HFO.out.grew (gw2.trans' g))
    have cN := fun W (g : Grew V2 W) => ref21_Pack t p q l m c d W (by omega) (by omega) (by omega) (HR.out.grew (gw2.trans' g)) (HQ.out.grew (gw2.trans' g)) HFL.out HGL.out HTS.out (u8_grew HU.out (gw2.trans' g))
    obtain ⟨P, hP⟩ : ∃ P : ByteArray, (⟨(packP t.data.toList l m).1.toArray⟩ : ByteArray) = P := ⟨_, rfl⟩
    obtain ⟨E, hE⟩ : ∃ E, (packP t.data.toList l m).2 = E := ⟨_, rfl⟩
    simp only [hP, hE] at cP cN
    have cT := fun W (g : Grew V2 W) => meta_Take o W (by omega) (HM.out.grew (gw2.trans' g)) (u8_grew HU.out (gw2.trans' g)) (HFO.out.grew (gw2.trans' g))
    have cU := fun W (g : Grew w W) => ref21_Take o W (by omega) (u8_grew HU.out g)
    clear hP hE
    go_wp2_with (first | (go_at_call 11; with_reducible refine (cP _ (by assumption)).mono ?_; rintro e1 W1 ⟨rfl, g1⟩; replace g1 := Grew.trans' (a := V2) (by assumption) g1) | (go_at_call 12; with_reducible refine (cN _ (by assumption)).mono ?_; rintro e1 W1 ⟨rfl, g1⟩; replace g1 := Grew.trans' (a := V2) (by assumption) g1) | (go_at_call 13; with_reducible refine (cT _ (by assumption)).mono ?_))
    have gX : Grew V2 W1 := by assumption
    rintro e4 V4 ⟨g4, x, l', c', b, vv, uu, htk, rfl, hol, hoc, hs1, hs2, hxl, hln⟩
    have g24 := gX.trans' g4
    have gw4 := gw2.trans' g24
    have HTK := Lib.hid htk
    have hll : Hid (l'.length ≤ 1048576 ∧ c'.length ≤ 1048576) := by
      have : o.data.toList.length = o.size := Array.length_toList
      unfold Hid
      omega
    obtain ⟨pv, cv, rfl, hrv, -, -, -⟩ := hol.val
    obtain ⟨pu, cu, rfl, hru, -, -, -⟩ := hoc.val
    have HRV := Lib.hid hrv
    have HRU := Lib.hid hru
    clear cP cN cT hol hoc hs1 hs2 hxl hln htk hrv hru
    go_wp2_with (first | (go_at_call 14; with_reducible refine (cU _ gw4).mono ?_))
    rintro e5 V5 ⟨g5, x', l'', c'', b', vv, uu, htk, rfl, hol, hoc, -, -, -, -⟩
    obtain ⟨rfl, rfl, rfl, rfl⟩ : x = x' ∧ l' = l'' ∧ c' = c'' ∧ b = b' := by
      have h := HTK.out.symm.trans htk
      simp only [Prod.mk.injEq] at h
      exact h
    obtain ⟨pv', cv', rfl, hrv', -, -, -⟩ := hol.val
    obtain ⟨pu', cu', rfl, hru', -, -, -⟩ := hoc.val
    have gw5 := gw4.trans' g5
    have g25 := g24.trans' g5
    have g55 : Grew V5 V5 := Below.refl _ _
    have cA := fun W (g : Grew V5 W) => caU W ((gA1.trans' (gA2.trans' g25)).trans' g)
    have cE := fun W (g : Grew V5 W) => plain_Extra_eq pv pv' l' cv cv' W (by have := hll.out; omega) (fun _ _ => trivial) ((HRV.out.grew g5).grew g) (hrv'.grew g)
    have cC := fun W (g : Grew V5 W) => plain_Copy_eq pu pu' c' cu cu' W (by have := hll.out; omega) (fun _ _ => trivial) ((HRU.out.grew g5).grew g) (hru'.grew g)
    have cR1 := fun W => meta_Reserved k W
    have cR2 := fun W => ref21_Reserved k W
    have cB1 := fun W (g : Grew V5 W) => meta_Bears o W (by omega) (HM.out.grew (gw5.trans' g))
    have cB2 := fun W => ref21_Bears o W (by omega)
    have cK1 := fun W (g : Grew V5 W) => kept_Extra (some ⟨gi, 0, none⟩) p l c spoiltW W (by omega) (fun _ _ => trivial) trivial ((HRI.out.grew (gA2.trans' g25)).grew g) (HR.out.grew (gw5.trans' g))
    have cK2 := fun W (g : Grew V5 W) => kept_Copy (some ⟨gj, 0, none⟩) q m d spoiltW W (by omega) (fun _ _ => trivial) trivial ((HRJ.out.grew g25).grew g) (HQ.out.grew (gw5.trans' g))
    have hsp : (kExtra.cells spoiltW).toArray = #[.string ⟨#[115, 112, 111, 105, 108, 116]⟩, .string ⟨#[]⟩] := rfl
    have hsp2 : (kCopy.cells spoiltW).toArray = #[.string ⟨#[115, 112, 111, 105, 108, 116]⟩, .string ⟨#[]⟩] := rfl
    simp only [hsp] at cK1
    simp only [hsp2] at cK2
    generalize Lib.hasPrefix k.data.toList gitM = RB at cR1 cR2
    generalize bearsP o.data.toList = BB at cB1 cB2
    have h1 : (RB == RB) = true := by simp
    have h2 : (BB == BB) = true := by simp
    have h3 : (b == b) = true := by simp
    have h4 : (E == E) = true := by simp
    generalize (⟨x.toArray⟩ : ByteArray) = XX
    clear hsp hsp2 hol hoc htk HTK hrv' hru' cU caU
    go_wp2_with (first | (refine wpListExec rfl _ _ (execBuild 28 [(0, .const (.string ⟨#[115, 112, 111, 105, 108, 116]⟩))] rfl _ (run_spoiltE _)) ?_) | (refine wpListExec rfl _ _ (execBuild 31 [(0, .const (.string ⟨#[115, 112, 111, 105, 108, 116]⟩))] rfl _ (run_spoiltC _)) ?_) | (go_at_call 8; with_reducible refine (cA _ (by assumption)).mono ?_; rintro e1 W1 ⟨rfl, g1⟩; replace g1 := Grew.trans' (a := V5) (by assumption) g1) | (go_at_call 15; with_reducible refine (cE _ (by assumption)).mono ?_; rintro e1 W1 ⟨rfl, g1⟩; replace g1 := Grew.trans' (a := V5) (by assumption) g1) | (go_at_call 16; with_reducible refine (cC _ (by assumption)).mono ?_; rintro e1 W1 ⟨rfl, g1⟩; replace g1 := Grew.trans' (a := V5) (by assumption) g1) | (go_at_call 17; with_reducible refine (cR1 _).mono ?_; rintro e1 W1 ⟨rfl, h1⟩; subst W1) | (go_at_call 18; with_reducible refine (cR2 _).mono ?_; rintro e1 W1 ⟨rfl, h1⟩; subst W1) | (go_at_call 19; with_reducible refine (cB1 _ (by assumption)).mono ?_; rintro e1 W1 ⟨rfl, h1⟩; subst W1) | (go_at_call 20; with_reducible refine (cB2 _).mono ?_; rintro e1 W1 ⟨rfl, h1⟩; subst W1) | (go_at_call 21; with_reducible refine (cK1 _ (by assumption)).mono ?_; rintro e1 W1 ⟨rfl, g1⟩; replace g1 := Grew.trans' (a := V5) (by assumption) g1) | (go_at_call 22; with_reducible refine (cK2 _ (by assumption)).mono ?_; rintro e1 W1 ⟨rfl, g1⟩; replace g1 := Grew.trans' (a := V5) (by assumption) g1))
    go_ret
    exact ⟨rfl, gw5.trans' (by assumption)⟩

end Go.Proofs.YtkdmhflcpfekfaaDoor

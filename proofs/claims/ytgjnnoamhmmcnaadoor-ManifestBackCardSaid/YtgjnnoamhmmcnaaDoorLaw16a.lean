/- The laws of layer 16, walked: awake, ManifestPrints. Conditions: the library's tables are laid. -/
import Derived.Test.YtgjnnoamhmmcnaaDoorMan5
import Derived.Test.YtgjnnoamhmmcnaaDoorHelpFile
import Derived.Test.YtgjnnoamhmmcnaaDoorHelpBytes
import Derived.Test.YtgjnnoamhmmcnaaDoorM1
namespace Go.Proofs.YtgjnnoamhmmcnaaDoor
set_option linter.unusedVariables false
set_option linter.unusedSimpArgs false
open Go.RowKit

def fileA : Fil := ⟨⟨#[97]⟩, 2, [1, 0, 0, 0, 0, 0, 0, 0, 0, 0, 0, 0, 0, 0, 0, 0, 0, 0, 0, 0]⟩
theorem right_A : rightM [fileA] = true := by decide +kernel
theorem print_A : printF [fileA] = [97, 0, 48, 49, 48, 48, 48, 48, 48, 48, 48, 48, 48, 48, 48, 48, 48, 48, 48, 48, 48, 48, 48, 48, 48, 48, 48, 48, 48, 48, 48, 48, 48, 48, 48, 48, 48, 48, 48, 48, 48, 48, 120, 10] := by decide +kernel

set_option maxRecDepth 100000 in
set_option maxHeartbeats 1000000 in
theorem awake16 (w : World) (hm : MaxOk w) (hu : U8Ok w) (hF : FoldOk w) :
    Calls Tryd.prog 6 #[] w fun e w' => e = .returned (.bool true) ∧ Grew w w' := by
  obtain ⟨V, hV, gV, gVV, -, -, rV⟩ := boxedF w fileA
  have hr : RdG kFile V (some ⟨w.heap.size, 0, none⟩) [fileA] := .inr ⟨_, 0, rfl, fun k x hx => by
    have : k = 0 := by have := (List.getElem?_eq_some_iff.1 hx).1; simp at this; omega
    subst this
    cases hx
    exact rV V gVV⟩
  have cP := manifest_Print (some ⟨w.heap.size, 0, none⟩) [fileA] 1 V (by decide) hr (fun x hx => by simp at hx; subst hx; exact ⟨rfl, by decide⟩) (hm.grew gV) (u8_grew hu gV) (hF.grew gV)
  have hV2 : w.alloc (.cells #[.string ⟨#[97]⟩, .int .i64 2, .int .u8 1, .int .u8 0, .int .u8 0, .int .u8 0, .int .u8 0, .int .u8 0, .int .u8 0, .int .u8 0, .int .u8 0, .int .u8 0, .int .u8 0, .int .u8 0, .int .u8 0, .int .u8 0, .int .u8 0, .int .u8 0, .int .u8 0, .int .u8 0, .int .u8 0, .int .u8 0] 28) = V := hV
  have hl1 : [fileA].length = 1 := rfl
  rw [hl1] at cP
  clear hm hu hF hr rV hV hl1
  go_enter Tryd.func6, Tryd.ntmps6
  go_wp2_with fail
  refine Calls.mono cP ?_
  rintro e2 W2 ⟨g2, ⟨hb, _⟩ | ⟨_, hb, _⟩ | ⟨_, _, v, rfl, hown⟩⟩
  · rw [right_A] at hb; cases hb
  · rw [print_A] at hb; simp at hb
  rw [print_A] at hown
  obtain ⟨q, d, rfl, hrd, -, -⟩ := hown.val
  rcases hrd with h | ⟨b, o, rfl, -, hc⟩
  · cases h
  have e0 : W2.cell? ⟨b, o, none⟩ = some (.int .u8 97) := hc 0 (by decide)
  have e42 : W2.cell? ⟨b, o + 42, none⟩ = some (.int .u8 120) := hc 42 (by decide)
  clear hown cP hc
  go_wp2
  go_ret
  exact ⟨rfl, gV.trans' (by assumption)⟩

/-- What Print comes to: bytes, and an error. -/
def printRM (l : List Fil) : List UInt8 × Int := if rightM l = false then ([], 11) else if 65536 < (printF l).length then ([], 5) else (printF l, 0)
theorem OwnB.none_capF {w : World} {base : Nat} {v : Value} {l : List UInt8} (h : OwnB w base v l) : ∃ p cap, v = .slice p l.length cap ∧ Rd w p l ∧ l.length ≤ cap ∧ (p = none → cap = 0) := by
  obtain ⟨p, cap, e, h1, h2, -⟩ := h.val
  refine ⟨p, cap, e, h1, h2, ?_⟩
  rintro rfl
  rcases h with ⟨rfl, hl⟩ | ⟨g, cap', cur, fz, rfl, _⟩
  · injection e with e1 e2 e3; exact e3.symm
  · cases e
theorem print_viewM {l : List Fil} {w : World} {e : Ending} {w' : World} (h : PrintPostM l w e w') : Grew w w' ∧ ∃ p c, e = .returned (.tuple #[.slice p (printRM l).1.length c, .int .i64 (printRM l).2]) ∧ Rd w' p (printRM l).1 := by
  obtain ⟨g, h⟩ := h
  refine ⟨g, ?_⟩
  unfold printRM
  rcases h with ⟨h1, rfl⟩ | ⟨h1, h2, rfl⟩ | ⟨h1, h2, v, rfl, hown⟩
  · rw [if_pos h1]
    exact ⟨none, 0, rfl, .inl rfl⟩
  · rw [if_neg (by rw [h1]; decide), if_pos h2]
    exact ⟨none, 0, rfl, .inl rfl⟩
  · rw [if_neg (by rw [h1]; decide), if_neg (by omega)]
    obtain ⟨p, c, rfl, hr, -, -⟩ := hown.none_capF
    exact ⟨p, c, rfl, hr⟩
/-- What Parse comes to: files, and an error. -/
noncomputable def parseRM (b : List UInt8) : List Fil × Int := match parseM b with | none => ([], 4) | some z => (z, 0)
theorem parse_viewM {b : List UInt8} {w : World} {e : Ending} {w' : World} (h : ParsePostM b w e w') : Grew w w' ∧ ∃ p c, e = .returned (.tuple #[.slice p (parseRM b).1.length c, .int .i64 (parseRM b).2]) ∧ RdG kFile w' p (parseRM b).1 ∧ (∀ x ∈ (parseRM b).1, FineF x) ∧ (parseRM b).1.length ≤ 500 := by
  obtain ⟨g, h⟩ := h
  refine ⟨g, ?_⟩
  unfold parseRM
  rcases h with ⟨h1, rfl⟩ | ⟨z, v, hz, hf, rfl, hown⟩
  · rw [h1]
    exact ⟨none, 0, rfl, .inl rfl, by simp, by simp⟩
  · rw [hz]
    obtain ⟨p, c, rfl, hr, -⟩ := hown.val
    exact ⟨p, c, rfl, hr, hf, (rightM_parts (parseM_some hz).2.1).2.2.1⟩

def spoiltF : Fil := ⟨⟨#[115, 112, 111, 105, 108, 116]⟩, 0, zeros20⟩
theorem run_spoiltF (w : World) : (Instr.build 28 #[(0, .string ⟨#[115, 112, 111, 105, 108, 116]⟩)]).run Tryd.prog w = .ok (.agg spoiltF.cells.toArray) w := run_build w _ _ _ (by kernel_rfl)
/-- A file as an argument has it. -/
def ArgF (x : Fil) : Prop := x.id.length = 20 ∧ x.path.size ≤ 9223372036854775807

set_option maxRecDepth 100000 in
set_option maxHeartbeats 8000000 in
theorem law_ManifestPrints (p : Option Addr) (l : List Fil) (cap : Nat) (q : Option Addr) (b : List UInt8) (cap2 : Nat) (w : World) (hr : RdG kFile w p l) (hl : l.length ≤ 9223372036854775807) (ha : ∀ x ∈ l, ArgF x) (hlc : l.length ≤ cap) (hln : p = none → cap = 0) (hb : Rd w q b) (hbl : b.length ≤ 9223372036854775807) (hm : MaxOk w) (hu : U8Ok w) (hF : FoldOk w) :
    Calls Tryd.prog 3 #[.slice p l.length cap, .slice q b.length cap2] w fun e w' => e = .returned (.bool true) ∧ Grew w w' := by
  have g0 : Grew w w := Below.refl _ _
  have ca := fun W (g : Grew w W) => awake16 W (hm.grew g) (u8_grew hu g) (hF.grew g)
  by_cases h40 : 40 < l.length
  · have f1 : decide (40 < (l.length : Int)) = true := decide_eq_true (by omega)
    clear hm hu hF hr hb
    go_enter Tryd.func3, Tryd.ntmps3
    go_wp2_with (first | (go_at_call 6; with_reducible refine (ca _ (by assumption)).mono ?_; rintro e1 W1 ⟨rfl, g1⟩; replace g1 := Grew.trans' (a := w) (by assumption) g1))
    go_ret
    exact ⟨rfl, by assumption⟩
  have f1 : decide (40 < (l.length : Int)) = false := decide_eq_false (by omega)
  by_cases hb2 : 3000 < b.length
  · have f2 : decide (3000 < (b.length : Int)) = true := decide_eq_true (by omega)
    clear hm hu hF hr hb
    go_enter Tryd.func3, Tryd.ntmps3
    go_wp2_with (first | (go_at_call 6; with_reducible refine (ca _ (by assumption)).mono ?_; rintro e1 W1 ⟨rfl, g1⟩; replace g1 := Grew.trans' (a := w) (by assumption) g1))
    go_ret
    exact ⟨rfl, by assumption⟩
  have f2 : decide (3000 < (b.length : Int)) = false := decide_eq_false (by omega)
  have h20 : ∀ x ∈ l, x.id.length = 20 := fun x hx => (ha x hx).1
  have cO := own_File p l cap spoiltF w (by omega) h20 rfl hr
  have HM := Lib.hid hm
  have HU := Lib.hid hu
  have HFO := Lib.hid hF
  have HB := Lib.hid hb
  have HR := Lib.hid hr
  have H20 := Lib.hid h20
  clear hm hu hF hb hr ha h20
  go_enter Tryd.func3, Tryd.ntmps3
  go_wp2
  go_loopw [5] (fun i wr => ∃ k : Nat, i = .int .i64 (k : Int) ∧ k ≤ l.length ∧ w = wr ∧ Hid (∀ j x, j < k → l[j]? = some x → x.path.size ≤ 600)) (fun i _ => l.length - (intOf i).toNat)
  case atStart => exact ⟨0, rfl, Nat.zero_le _, (by first | trivial | rfl), fun j x h => by omega⟩
  case round =>
    obtain ⟨k, rfl, hk, rfl, hal⟩ := hrel
    by_cases hlt : k < l.length
    · obtain ⟨x, hx⟩ : ∃ x, l[k]? = some x := ⟨_, List.getElem?_eq_getElem hlt⟩
      rcases HR.out with h | ⟨bb, o, rfl, hc⟩
      · subst h; simp at hlt
      have q1 : w.cell? ⟨bb, o + k * 22, none⟩ = some (.string x.path) := (fil_range (hc k x hx)).1
      clear hc cO
      by_cases h6 : 600 < x.path.size
      · have f3 : decide (600 < (x.path.size : Int)) = true := decide_eq_true (by omega)
        go_wp2_with (first | (go_at_call 6; with_reducible refine (ca _ (by assumption)).mono ?_; rintro e1 W1 ⟨rfl, g1⟩; replace g1 := Grew.trans' (a := w) (by assumption) g1))
        go_ret
        exact ⟨rfl, by assumption⟩
      · have f3 : decide (600 < (x.path.size : Int)) = false := decide_eq_false (by omega)
        go_wp2
        go_roundw
        case rel =>
          refine ⟨k + 1, by go_num, by omega, (by first | trivial | rfl), fun j y h1 h2 => ?_⟩
          by_cases e : j = k
          · subst e; rw [hx] at h2; cases h2; omega
          · exact hal.out j y (by omega) h2
        case measure => simp [intOf]; omega
    · obtain rfl : k = l.length := by omega
      have hfine : ∀ x ∈ l, FineF x := fun x hx => by
        obtain ⟨j, hj⟩ := List.mem_iff_getElem?.1 hx
        have := hal.out j x (List.getElem?_eq_some_iff.1 hj).1 hj
        exact ⟨H20.out x hx, by omega⟩
      have HFI := Lib.hid hfine
      clear hfine hal f1 f2 hlt
      go_wp2_with (first | (refine wpListExec rfl _ _ (execBuild 28 [(0, .const (.string ⟨#[115, 112, 111, 105, 108, 116]⟩))] rfl _ (run_spoiltF _)) ?_))
      refine Calls.mono cO ?_
      rintro e1 V1 ⟨gi, hgi, rfl, hblk, g1⟩
      have cOb := own_bytes q b cap2 71 V1 (by omega) (HB.out.below g1 (Nat.le_refl _))
      clear cO
      go_wp2_with fail
      refine Calls.mono cOb ?_
      rintro e2 V2 ⟨rfl, hblk2, g12⟩
      obtain ⟨gb, hgb⟩ : ∃ gb, V1.heap.size = gb := ⟨_, rfl⟩
      rw [hgb] at hblk2 ⊢
      have g2 := g1.trans' g12
      have hri : RdG kFile V1 (some ⟨gi, 0, none⟩) (l ++ [spoiltF, spoiltF, spoiltF]) := rdG_block kFile hblk (by
        intro x hx
        rw [List.mem_append] at hx
        rcases hx with hx | hx
        · exact H20.out x hx
        · simp at hx; rcases hx with rfl | rfl | rfl <;> rfl) (fun i v hv => by simpa using hv)
      have HRI := Lib.hid (hri.grew g12)
      have HBK := Lib.hid hblk2
      have hrb : Rd V2 (some ⟨gb, 0, none⟩) b := .inr ⟨gb, 0, rfl, (Array.getElem?_eq_some_iff.1 hblk2).1, fun i hi => by
        rw [cell_of_row V2 gb _ _ _ (0, 0) hblk2]
        simp only [List.getElem?_toArray, Nat.zero_add]
        rw [List.getElem?_append_left (by rw [Lib.byteCells_length]; exact hi), byteCells_getElem?, List.getD_eq_getElem?_getD, List.getElem?_eq_getElem hi]; rfl⟩
      have HRB := Lib.hid hrb
      clear cOb hblk hblk2 hri hrb hgb hgi
      have cP := manifest_Print (some ⟨gi, 0, none⟩) l (l.length + 3) V2 (by omega) HRI.out.pre HFI.out (HM.out.grew g2) (u8_grew HU.out g2) (HFO.out.grew g2)
      go_wp2_with fail
      refine Calls.mono cP ?_
      intro e3 V3 h3
      obtain ⟨g23, px, cx, rfl, hrx⟩ := print_viewM h3
      have g3 := g2.trans' g23
      clear h3 cP
      have cP := ref16_Print p l cap V3 (by omega) (HR.out.grew g3) HFI.out (u8_grew HU.out g3)
      go_wp2_with fail
      refine Calls.mono cP ?_
      intro e4 V4 h4
      obtain ⟨g34, py, cy, rfl, hry⟩ := print_viewM h4
      have g4 := g3.trans' g34
      have g24 := g23.trans' g34
      clear h4 cP
      have cP := manifest_Parse (some ⟨gb, 0, none⟩) b (b.length + 3) V4 (HRB.out.below g24 (Nat.le_refl _)) (by omega) (HM.out.grew g4) (u8_grew HU.out g4) (HFO.out.grew g4)
      go_wp2_with fail
      refine Calls.mono cP ?_
      intro e5 V5 h5
      obtain ⟨g45, pu, cu, rfl, hru, huf, hul⟩ := parse_viewM h5
      have g5 := g4.trans' g45
      clear h5 cP
      have cP := ref16_Parse q b cap2 V5 (HB.out.below g5 (Nat.le_refl _)) (by omega) (u8_grew HU.out g5)
      go_wp2_with fail
      refine Calls.mono cP ?_
      intro e6 V6 h6
      obtain ⟨g56, pv, cv, rfl, hrv, -, -⟩ := parse_viewM h6
      have g6 := g5.trans' g56
      clear h6 cP
      obtain ⟨LX, EX⟩ : ∃ LX, printRM l = LX := ⟨_, rfl⟩
      obtain ⟨lx, ex⟩ := LX
      obtain ⟨LU, EU⟩ : ∃ LU, parseRM b = LU := ⟨_, rfl⟩
      obtain ⟨lu, eu⟩ := LU
      rw [EX] at hrx hry ⊢
      rw [EU] at hru hrv huf hul ⊢
      simp only at hrx hry hru hrv huf hul ⊢
      clear EX EU
      have g46 := g45.trans' g56
      have g26 := g24.trans' g46
      have g66 : Grew V6 V6 := Below.refl _ _
      have cA := fun W (g : Grew V6 W) => ca W (g6.trans' g)
      have cB := fun W (g : Grew V6 W) => help_Bytes px py lx lx cx cy W (hrx.below ((g34.trans' g46).trans' g) (Nat.le_refl _)) (hry.below (g46.trans' g) (Nat.le_refl _))
      have hbb : (lx == lx) = true := by simp
      simp only [hbb] at cB
      have cPl := fun W (g : Grew V6 W) => plain_File_eq pu pv lu cu cv W (by omega) (fun x hx => (huf x hx).1) (hru.grew (g56.trans' g)) (hrv.grew g)
      have cK1 := fun W (g : Grew V6 W) => kept_File (some ⟨gi, 0, none⟩) p l cap spoiltF W (by omega) H20.out rfl ((HRI.out.grew g26).grew g) (HR.out.grew (g6.trans' g))
      have hsp : (kFile.cells spoiltF).toArray = #[.string ⟨#[115, 112, 111, 105, 108, 116]⟩, .int .i64 0, .int .u8 0, .int .u8 0, .int .u8 0, .int .u8 0, .int .u8 0, .int .u8 0, .int .u8 0, .int .u8 0, .int .u8 0, .int .u8 0, .int .u8 0, .int .u8 0, .int .u8 0, .int .u8 0, .int .u8 0, .int .u8 0, .int .u8 0, .int .u8 0, .int .u8 0, .int .u8 0] := rfl
      simp only [hsp] at cK1
      clear hsp
      have cK2 := fun W (g : Grew V6 W) => kept_bytes gb q b cap2 71 W (by omega) (((g26.trans' g).block gb (Array.getElem?_eq_some_iff.1 HBK.out).1).trans HBK.out) (HB.out.below (g6.trans' g) (Nat.le_refl _))
      have hee : (ex == ex) = true := by simp
      have huu : (eu == eu) = true := by simp
      clear ca hrx hry hru hrv huf hul hbb
      go_wp2_with (first | (refine wpListExec rfl _ _ (execBuild 28 [(0, .const (.string ⟨#[115, 112, 111, 105, 108, 116]⟩))] rfl _ (run_spoiltF _)) ?_) | (go_at_call 6; with_reducible refine (cA _ (by assumption)).mono ?_; rintro e1 W1 ⟨rfl, g1⟩; replace g1 := Grew.trans' (a := V6) (by assumption) g1) | (go_at_call 13; with_reducible refine (cB _ (by assumption)).mono ?_; rintro e1 W1 ⟨rfl, h1⟩; subst W1) | (go_at_call 14; with_reducible refine (cPl _ (by assumption)).mono ?_; rintro e1 W1 ⟨rfl, g1⟩; replace g1 := Grew.trans' (a := V6) (by assumption) g1) | (go_at_call 15; with_reducible refine (cK1 _ (by assumption)).mono ?_; rintro e1 W1 ⟨rfl, g1⟩; replace g1 := Grew.trans' (a := V6) (by assumption) g1) | (go_at_call 16; with_reducible refine (cK2 _ (by assumption)).mono ?_; rintro e1 W1 ⟨rfl, g1⟩; replace g1 := Grew.trans' (a := V6) (by assumption) g1))
      go_ret
      exact ⟨rfl, g6.trans' (by assumption)⟩

end Go.Proofs.YtgjnnoamhmmcnaaDoor

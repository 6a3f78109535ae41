/- The law TreePrints of layer 8, walked. Conditions: the library's tables are laid. -/
import Derived.Test.YtpgcjljaokopaaaDoorLaw08b
import Derived.Test.YtpgcjljaokopaaaDoorTree8
namespace Go.Proofs.YtpgcjljaokopaaaDoor
set_option linter.unusedVariables false
set_option linter.unusedSimpArgs false
open Go.RowKit

/-- What Print comes to: bytes, and an error. -/
def printR (l : List Itm) : List UInt8 × Int := if l ≠ [] ∧ rightI l = false then ([], 11) else if 65536 < (printI l).length then ([], 5) else (printI l, 0)
theorem print_view {l : List Itm} {w : World} {e : Ending} {w' : World} (h : PrintPostI l w e w') : Grew w w' ∧ ∃ p c, e = .returned (.tuple #[.slice p (printR l).1.length c, .int .i64 (printR l).2]) ∧ Rd w' p (printR l).1 := by
  obtain ⟨g, h⟩ := h
  refine ⟨g, ?_⟩
  unfold printR
  rcases h with ⟨h1, h2, rfl⟩ | ⟨h1, h2, rfl⟩ | ⟨h1, h2, v, rfl, hown⟩
  · rw [if_pos ⟨h1, h2⟩]
    exact ⟨none, 0, rfl, .inl rfl⟩
  · have hn : ¬ (l ≠ [] ∧ rightI l = false) := by
      rintro ⟨a, b⟩
      rcases h1 with h | h
      · exact a h
      · rw [h] at b; cases b
    rw [if_neg hn, if_pos h2]
    exact ⟨none, 0, rfl, .inl rfl⟩
  · have hn : ¬ (l ≠ [] ∧ rightI l = false) := by
      rintro ⟨a, b⟩
      rcases h1 with h | h
      · exact a h
      · rw [h] at b; cases b
    rw [if_neg hn, if_neg (by omega)]
    obtain ⟨p, c, rfl, hr, -, -⟩ := hown.none_cap
    exact ⟨p, c, rfl, hr⟩
/-- What Parse comes to: items, and an error. -/
def parseRI (b : List UInt8) : List Itm × Int := if 65536 < b.length then ([], 5) else match parseT b with | none => ([], 4) | some z => (z, 0)
theorem parse_view {b : List UInt8} {w : World} {e : Ending} {w' : World} (h : ParsePostI b w e w') : Grew w w' ∧ ∃ p c, e = .returned (.tuple #[.slice p (parseRI b).1.length c, .int .i64 (parseRI b).2]) ∧ RdI w' p (parseRI b).1 ∧ (∀ x ∈ (parseRI b).1, x.id.length = 20) ∧ (parseRI b).1.length ≤ 1073741824 := by
  obtain ⟨g, h⟩ := h
  refine ⟨g, ?_⟩
  unfold parseRI
  rcases h with ⟨h1, rfl⟩ | ⟨h1, h2, rfl⟩ | ⟨h1, z, v, hz, hf, rfl, hown⟩
  · rw [if_pos h1]
    exact ⟨none, 0, rfl, .inl rfl, by simp, by simp⟩
  · rw [if_neg (by omega), h2]
    exact ⟨none, 0, rfl, .inl rfl, by simp, by simp⟩
  · rw [if_neg (by omega), hz]
    obtain ⟨p, c, rfl, hr, -⟩ := hown.none_cap
    refine ⟨p, c, rfl, hr, fun x hx => (hf x hx).1, ?_⟩
    obtain ⟨_, hr⟩ := parse_back hz
    show z.length ≤ _
    rcases hr with rfl | h
    · simp
    · unfold rightI at h; simp only [Bool.and_eq_true, decide_eq_true_eq] at h; have := h.2; omega

def spoilt : Itm := ⟨0, ⟨#[115, 112, 111, 105, 108, 116]⟩, zeros20⟩
theorem run_spoilt (w : World) : (Instr.build 25 #[(1, .string ⟨#[115, 112, 111, 105, 108, 116]⟩)]).run Tryd.prog w = .ok (.agg spoilt.cells.toArray) w := run_build w _ _ _ (by kernel_rfl)

set_option maxRecDepth 100000 in
set_option maxHeartbeats 8000000 in
theorem law_TreePrints (p : Option Addr) (l : List Itm) (cap : Nat) (q : Option Addr) (b : List UInt8) (cap2 : Nat) (w : World) (hr : RdI w p l) (hl : l.length ≤ 9223372036854775807) (ha : ∀ x ∈ l, ArgI x) (hb : Rd w q b) (hbl : b.length ≤ 9223372036854775807) (hq : q = none → cap2 = 0) (hbc : b.length ≤ cap2) (hm : MaxOk w) (hu : U8Ok w) (hF : FoldOk w) :
    Calls Tryd.prog 5 #[.slice p l.length cap, .slice q b.length cap2] w fun e w' => e = .returned (.bool true) ∧ Grew w w' := by
  have g0 : Grew w w := Below.refl _ _
  have ca := fun W (g : Grew w W) => awake08 W (hm.grew g) (u8_grew hu g) (hF.grew g)
  have cf := fun W (g : Grew w W) => few_items p l cap W hl (hr.grew g)
  obtain ⟨F, hFw⟩ : ∃ F, fewI l = F := ⟨_, rfl⟩
  simp only [hFw] at cf
  cases F with
  | false =>
    clear hm hu hF hr hb
    go_enter Tryd.func5, Tryd.ntmps5
    go_wp2_with (first | (go_at_call 16; with_reducible refine (cf _ (by assumption)).mono ?_; rintro e1 W1 ⟨rfl, h1⟩; subst W1) | (go_at_call 9; with_reducible refine (ca _ (by assumption)).mono ?_; rintro e1 W1 ⟨rfl, g1⟩; replace g1 := Grew.trans' (a := w) (by assumption) g1))
    go_ret
    exact ⟨rfl, by assumption⟩
  | true =>
    by_cases hb2 : 2000 < b.length
    · have f1 : decide (2000 < (b.length : Int)) = true := decide_eq_true (by omega)
      clear hm hu hF hr hb
      go_enter Tryd.func5, Tryd.ntmps5
      go_wp2_with (first | (go_at_call 16; with_reducible refine (cf _ (by assumption)).mono ?_; rintro e1 W1 ⟨rfl, h1⟩; subst W1) | (go_at_call 9; with_reducible refine (ca _ (by assumption)).mono ?_; rintro e1 W1 ⟨rfl, g1⟩; replace g1 := Grew.trans' (a := w) (by assumption) g1))
      go_ret
      exact ⟨rfl, by assumption⟩
    have f1 : decide (2000 < (b.length : Int)) = false := decide_eq_false (by omega)
    have hfine := few_fine hFw ha
    have hlen := few_len hFw
    have h20 : ∀ x ∈ l, x.id.length = 20 := fun x hx => (ha x hx).1
    have cO := own_items p l cap spoilt w (by omega) h20 rfl hr
    have HFI := Lib.hid hfine
    have HM := Lib.hid hm
    have HU := Lib.hid hu
    have HFO := Lib.hid hF
    have HB := Lib.hid hb
    have HR := Lib.hid hr
    have H20 := Lib.hid h20
    clear hm hu hF hb hr hfine hFw ha h20
    go_enter Tryd.func5, Tryd.ntmps5
    go_wp2_with (first | (go_at_call 16; with_reducible refine (cf _ (by assumption)).mono ?_; rintro e1 W1 ⟨rfl, h1⟩; subst W1) | (refine wpList_exec rfl _ _ (exec_build _ [(1, .const (.string ⟨#[115, 112, 111, 105, 108, 116]⟩))] rfl _ (run_spoilt _)) ?_))
    refine Calls.mono cO ?_
    rintro e1 V1 ⟨rfl, hblk, g1⟩
    obtain ⟨gi, hgi⟩ : ∃ gi, (w.alloc (.cells spoilt.cells.toArray 25)).heap.size = gi := ⟨_, rfl⟩
    rw [hgi] at hblk ⊢
    have cOb := own_bytes q b cap2 71 V1 (by omega) (HB.out.below g1 (Nat.le_refl _))
    clear cO cf hgi
    go_wp2_with fail
    refine Calls.mono cOb ?_
    rintro e2 V2 ⟨rfl, hblk2, g12⟩
    obtain ⟨gb, hgb⟩ : ∃ gb, V1.heap.size = gb := ⟨_, rfl⟩
    rw [hgb] at hblk2 ⊢
    have g2 := g1.trans' g12
    have hri : RdI V1 (some ⟨gi, 0, none⟩) (l ++ [spoilt, spoilt, spoilt]) := rdI_block hblk (by
      intro x hx
      rw [List.mem_append] at hx
      rcases hx with hx | hx
      · exact H20.out x hx
      · simp at hx; rcases hx with rfl | rfl | rfl <;> rfl) (fun i v hv => by simpa using hv)
    have HRI := Lib.hid (hri.grew g12)
    have HBK := Lib.hid hblk2
    have hrb : Rd V2 (some ⟨gb, 0, none⟩) b := .inr ⟨gb, 0, rfl, (Array.getElem?_eq_some_iff.1 hblk2).1, fun i hi => by
      rw [cell_of_row V2 gb _ _ _ (0, 0) hblk2]
      simp only [List.getElem?_toArray, Nat.zero_add]
      rw [List.getElem?_append_left (by rw [Lib.byteCells_length]; exact hi), byteCells_getElem?, List.getD_eq_getElem?_getD, List.getElem?_eq_getElem hi]; rfl⟩
    have HRB := Lib.hid hrb
    clear cOb hblk hblk2 hri hrb hgb
    have cP := tree_Print (some ⟨gi, 0, none⟩) l (l.length + 3) V2 (by omega) HRI.out.pre HFI.out (HM.out.grew g2) (u8_grew HU.out g2) (HFO.out.grew g2)
    go_wp2_with fail
    refine Calls.mono cP ?_
    intro e3 V3 h3
    obtain ⟨g23, px, cx, rfl, hrx⟩ := print_view h3
    have g3 := g2.trans' g23
    clear h3 cP
    have cP := ref08_Print p l cap V3 (by omega) (HR.out.grew g3) HFI.out (u8_grew HU.out g3)
    go_wp2_with fail
    refine Calls.mono cP ?_
    intro e4 V4 h4
    obtain ⟨g34, py, cy, rfl, hry⟩ := print_view h4
    have g4 := g3.trans' g34
    have g24 := g23.trans' g34
    clear h4 cP
    have cP := tree_Parse (some ⟨gb, 0, none⟩) b (b.length + 3) V4 (HRB.out.below g24 (Nat.le_refl _)) (fun h => by cases h) (by omega) (by omega) (HM.out.grew g4) (u8_grew HU.out g4) (HFO.out.grew g4)
    go_wp2_with fail
    refine Calls.mono cP ?_
    intro e5 V5 h5
    obtain ⟨g45, pu, cu, rfl, hru, hu20, hul⟩ := parse_view h5
    have g5 := g4.trans' g45
    clear h5 cP
    have cP := ref08_Parse q b cap2 V5 (HB.out.below g5 (Nat.le_refl _)) hbc (by omega) (u8_grew HU.out g5)
    go_wp2_with fail
    refine Calls.mono cP ?_
    intro e6 V6 h6
    obtain ⟨g56, pv, cv, rfl, hrv, -, -⟩ := parse_view h6
    have g6 := g5.trans' g56
    clear h6 cP
    obtain ⟨LX, EX⟩ : ∃ LX, printR l = LX := ⟨_, rfl⟩
    obtain ⟨lx, ex⟩ := LX
    obtain ⟨LU, EU⟩ : ∃ LU, parseRI b = LU := ⟨_, rfl⟩
    obtain ⟨lu, eu⟩ := LU
    rw [EX] at hrx hry ⊢
    rw [EU] at hru hrv hu20 hul ⊢
    simp only at hrx hry hru hrv hu20 hul ⊢
    clear EX EU
    have g46 := g45.trans' g56
    have g26 := g24.trans' g46
    have g66 : Grew V6 V6 := Below.refl _ _
    have cA := fun W (g : Grew V6 W) => ca W (g6.trans' g)
    have cR1 := fun W (g : Grew V6 W) => tree_Right (some ⟨gi, 0, none⟩) l (l.length + 3) W (by omega) ((HRI.out.pre.grew g26).grew g) HFI.out (HM.out.grew (g6.trans' g)) (u8_grew HU.out (g6.trans' g)) (HFO.out.grew (g6.trans' g))
    have cR2 := fun W (g : Grew V6 W) => ref08_Right p l cap W (by omega) (HR.out.grew (g6.trans' g)) HFI.out (u8_grew HU.out (g6.trans' g))
    have cB := fun W (g : Grew V6 W) => help_Bytes px py lx lx cx cy W (hrx.below ((g34.trans' g46).trans' g) (Nat.le_refl _)) (hry.below (g46.trans' g) (Nat.le_refl _))
    have hbb : (lx == lx) = true := by simp
    simp only [hbb] at cB
    have cPl := fun W (g : Grew V6 W) => plain_items_eq pu pv lu cu cv W hul hu20 (hru.grew (g56.trans' g)) (hrv.grew g)
    have cK1 := fun W (g : Grew V6 W) => kept_items (some ⟨gi, 0, none⟩) p l cap spoilt W (by omega) H20.out rfl ((HRI.out.grew g26).grew g) (HR.out.grew (g6.trans' g))
    have hsp : spoilt.cells.toArray = #[.int .i64 0, .string ⟨#[115, 112, 111, 105, 108, 116]⟩, .int .u8 0, .int .u8 0, .int .u8 0, .int .u8 0, .int .u8 0, .int .u8 0, .int .u8 0, .int .u8 0, .int .u8 0, .int .u8 0, .int .u8 0, .int .u8 0, .int .u8 0, .int .u8 0, .int .u8 0, .int .u8 0, .int .u8 0, .int .u8 0, .int .u8 0, .int .u8 0] := rfl
    simp only [hsp] at cK1
    clear hsp
    have cK2 := fun W (g : Grew V6 W) => kept_bytes gb q b cap2 71 W (by omega) (((g26.trans' g).block gb (Array.getElem?_eq_some_iff.1 HBK.out).1).trans HBK.out) (HB.out.below (g6.trans' g) (Nat.le_refl _))
    have hee : (ex == ex) = true := by simp
    have huu : (eu == eu) = true := by simp
    generalize rightI l = R at cR1 cR2
    have hRR : (R == R) = true := by simp
    clear ca hrx hry hru hrv hu20 hul hbb
    go_wp2_with (first | (refine wpList_exec rfl _ _ (exec_build _ [(1, .const (.string ⟨#[115, 112, 111, 105, 108, 116]⟩))] rfl _ (run_spoilt _)) ?_) | (go_at_call 9; with_reducible refine (cA _ (by assumption)).mono ?_; rintro e1 W1 ⟨rfl, g1⟩; replace g1 := Grew.trans' (a := V6) (by assumption) g1) | (go_at_call 14; with_reducible refine (cR1 _ (by assumption)).mono ?_; rintro e1 W1 ⟨rfl, g1⟩; replace g1 := Grew.trans' (a := V6) (by assumption) g1) | (go_at_call 22; with_reducible refine (cR2 _ (by assumption)).mono ?_; rintro e1 W1 ⟨rfl, g1⟩; replace g1 := Grew.trans' (a := V6) (by assumption) g1) | (go_at_call 23; with_reducible refine (cB _ (by assumption)).mono ?_; rintro e1 W1 ⟨rfl, h1⟩; subst W1) | (go_at_call 24; with_reducible refine (cPl _ (by assumption)).mono ?_; rintro e1 W1 ⟨rfl, g1⟩; replace g1 := Grew.trans' (a := V6) (by assumption) g1) | (go_at_call 25; with_reducible refine (cK1 _ (by assumption)).mono ?_; rintro e1 W1 ⟨rfl, g1⟩; replace g1 := Grew.trans' (a := V6) (by assumption) g1) | (go_at_call 26; with_reducible refine (cK2 _ (by assumption)).mono ?_; rintro e1 W1 ⟨rfl, g1⟩; replace g1 := Grew.trans' (a := V6) (by assumption) g1))
    go_ret
    exact ⟨rfl, g6.trans' (by assumption)⟩

end Go.Proofs.YtpgcjljaokopaaaDoor

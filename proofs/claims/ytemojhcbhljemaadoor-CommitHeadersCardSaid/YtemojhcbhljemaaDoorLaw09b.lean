/- The law CommitParents of layer 9, walked. Conditions: the library's tables are laid. -/
import Derived.Test.YtemojhcbhljemaaDoorLaw09a
import Derived.Test.YtemojhcbhljemaaDoorStill
import Derived.Test.YtemojhcbhljemaaDoorM1
namespace Go.Proofs.YtemojhcbhljemaaDoor
set_option linter.unusedVariables false
set_option linter.unusedSimpArgs false
open Go.RowKit

theorem rec_set (r : Rec) (v u : Value) (h : r.tree.length = 20) : (r.cells v).toArray.setIfInBounds 20 u = (r.cells u).toArray := by
  apply Array.ext'
  rw [Array.toList_setIfInBounds]
  unfold Rec.cells
  show (Lib.byteCells r.tree ++ _).set 20 u = _
  rw [List.set_append_right _ _ (by rw [Lib.byteCells_length, h]; exact Nat.le_refl _), Lib.byteCells_length, h, Nat.sub_self, List.set_cons_zero]
theorem rec_at (r : Rec) (v : Value) (h : r.tree.length = 20) : (r.cells v).toArray[20]? = some v := by
  unfold Rec.cells
  rw [List.getElem?_toArray, List.getElem?_append_right (by rw [Lib.byteCells_length, h]; exact Nat.le_refl _), Lib.byteCells_length, h, Nat.sub_self]
  rfl
theorem rec_one (r : Rec) (v : Value) (hv : v.oneCell' = true) : ∀ u ∈ r.cells v, u.oneCell' = true := by
  intro u hu
  unfold Rec.cells at hu
  simp only [List.mem_append, List.mem_cons, List.not_mem_nil, or_false, Idn.cells] at hu
  rcases hu with hu | rfl | hu | hu | rfl
  · exact one_bytes' _ u hu
  · exact hv
  · rcases hu with rfl | rfl | rfl | rfl <;> rfl
  · rcases hu with rfl | rfl | rfl | rfl <;> rfl
  · rfl
theorem byId_cells (k : Nat) (hk : k < 200) : Lib.byteCells (byId (k + 1)) = [.int .u8 ((k : Int) + 1), .int .u8 0, .int .u8 0, .int .u8 0, .int .u8 0, .int .u8 0, .int .u8 0, .int .u8 0, .int .u8 0, .int .u8 0, .int .u8 0, .int .u8 0, .int .u8 0, .int .u8 0, .int .u8 0, .int .u8 0, .int .u8 0, .int .u8 0, .int .u8 0, .int .u8 0] := by
  have h : ((UInt8.ofNat (k + 1)).toNat : Int) = (k : Int) + 1 := by rw [UInt8.toNat_ofNat']; omega
  show Value.int .u8 ((UInt8.ofNat (k + 1)).toNat : Int) :: Lib.byteCells (List.replicate 19 0) = _
  rw [h]
  rfl
theorem recN_cells : ((recN [] ⟨#[]⟩).cells (.slice none 0 0)).toArray = #[.int .u8 1, .int .u8 0, .int .u8 0, .int .u8 0, .int .u8 0, .int .u8 0, .int .u8 0, .int .u8 0, .int .u8 0, .int .u8 0, .int .u8 0, .int .u8 0, .int .u8 0, .int .u8 0, .int .u8 0, .int .u8 0, .int .u8 0, .int .u8 0, .int .u8 0, .int .u8 0, .slice none 0 0, .string ⟨#[65]⟩, .string ⟨#[97]⟩, .int .i64 0, .int .i64 0, .string ⟨#[65]⟩, .string ⟨#[97]⟩, .int .i64 0, .int .i64 0, .string ⟨#[]⟩] := by
  unfold Rec.cells recN byId whoA Idn.cells
  rfl
theorem plZ_no (l : List (List UInt8)) (n : Nat) : plZ l false n = l := rfl
theorem plT_no (l : List (List UInt8)) (n : Nat) : plT l false n = l := rfl

set_option maxRecDepth 100000 in
set_option maxHeartbeats 8000000 in
theorem law_CommitParents (n0 : Int) (z t : Bool) (w : World) (hn0 : -9223372036854775808 ≤ n0) (hn1 : n0 ≤ 9223372036854775807) (hu : U8Ok w) (hm : MaxOk w) (ht : TabOk w) :
    Calls Tryd.prog 3 #[.int .i64 n0, .bool z, .bool t] w fun e w' => e = .returned (.bool true) ∧ Grew w w' := by
  obtain ⟨K, hK, hK19⟩ := pick_wrap n0 19 19 rfl (by decide) (by decide)
  have HW := Lib.hid (want_right K hK19)
  have hs1 : (w.alloc (.cells #[.string ⟨#[65]⟩, .string ⟨#[97]⟩, .int .i64 0, .int .i64 0] 24)).heap.size = w.heap.size + 1 := by simp
  have nfR : (Tryd.prog.info? 29).map (·.size) = some ([.int .u8 1, .int .u8 0, .int .u8 0, .int .u8 0, .int .u8 0, .int .u8 0, .int .u8 0, .int .u8 0, .int .u8 0, .int .u8 0, .int .u8 0, .int .u8 0, .int .u8 0, .int .u8 0, .int .u8 0, .int .u8 0, .int .u8 0, .int .u8 0, .int .u8 0, .int .u8 0, .slice none 0 0, .string ⟨#[65]⟩, .string ⟨#[97]⟩, .int .i64 0, .int .i64 0, .string ⟨#[65]⟩, .string ⟨#[97]⟩, .int .i64 0, .int .i64 0, .string ⟨#[]⟩] : List Value).length := by kernel_rfl
  have oneR : ∀ v ∈ ([.int .u8 1, .int .u8 0, .int .u8 0, .int .u8 0, .int .u8 0, .int .u8 0, .int .u8 0, .int .u8 0, .int .u8 0, .int .u8 0, .int .u8 0, .int .u8 0, .int .u8 0, .int .u8 0, .int .u8 0, .int .u8 0, .int .u8 0, .int .u8 0, .int .u8 0, .int .u8 0, .slice none 0 0, .string ⟨#[65]⟩, .string ⟨#[97]⟩, .int .i64 0, .int .i64 0, .string ⟨#[65]⟩, .string ⟨#[97]⟩, .int .i64 0, .int .i64 0, .string ⟨#[]⟩] : List Value), v.oneCell' = true := by
    have h := rec_one (recN [] ⟨#[]⟩) (.slice none 0 0) rfl
    have e := congrArg Array.toList recN_cells
    simp only [List.toList_toArray] at e
    rw [e] at h
    exact h
  go_enter Tryd.func3, Tryd.ntmps3
  go_wp2_with (refine wpList_store_newH rfl 29 _ _ rfl (w.alloc (.cells #[.string ⟨#[65]⟩, .string ⟨#[97]⟩, .int .i64 0, .int .i64 0] 24)) _ rfl [.int .u8 1, .int .u8 0, .int .u8 0, .int .u8 0, .int .u8 0, .int .u8 0, .int .u8 0, .int .u8 0, .int .u8 0, .int .u8 0, .int .u8 0, .int .u8 0, .int .u8 0, .int .u8 0, .int .u8 0, .int .u8 0, .int .u8 0, .int .u8 0, .int .u8 0, .int .u8 0, .slice none 0 0, .string ⟨#[65]⟩, .string ⟨#[97]⟩, .int .i64 0, .int .i64 0, .string ⟨#[65]⟩, .string ⟨#[97]⟩, .int .i64 0, .int .i64 0, .string ⟨#[]⟩] (by rw [hs1]; rfl) rfl rfl nfR oneR ?_; intro V gV sV hblk)
  rw [hs1] at sV hblk
  have hblk : V.heap[w.heap.size + 1]? = some (.cells ((recN [] ⟨#[]⟩).cells (.slice none 0 0)).toArray 29 (0, 0)) := by rw [recN_cells]; exact hblk
  have gwV : Grew w V := Grew.trans' ((Below.refl _ _ : Grew w w).alloc (Nat.le_refl _) _) gV
  obtain ⟨gC, hgC2⟩ : ∃ g, w.heap.size + 1 = g := ⟨_, rfl⟩
  rw [hgC2] at sV hblk
  try rw [hgC2]
  have hwC : w.heap.size ≤ gC := by omega
  obtain ⟨B, hB⟩ : ∃ B, V.heap.size = B := ⟨_, rfl⟩
  have hCB : gC < B := by omega
  have hVB : w.heap.size ≤ B := by omega
  have HBV := Lib.hid hB
  clear hgC2 sV hB gV hs1 nfR oneR
  go_loopw [9] (fun i wr => ∃ (k : Nat) (v : Value), i = .int .i64 k ∧ k ≤ K ∧ Grew w wr ∧ B ≤ wr.heap.size ∧ OwnG kId wr B v (idsN k) ∧ wr.heap[gC]? = some (.cells ((recN [] ⟨#[]⟩).cells v).toArray 29 (0, 0))) (fun i _ => K - (intOf i).toNat)
  case atStart => exact ⟨0, _, rfl, Nat.zero_le _, gwV, by have := HBV.out; omega, OwnG.nil _ _ _, hblk⟩
  case round =>
    obtain ⟨k, v, rfl, hk, hgw, hBs, hown, hbl⟩ := hrel
    clear hblk gwV
    by_cases hlt : k < K
    · have hc20 : wr.cell? ⟨gC, 20, none⟩ = some v := by rw [cell_of_row wr gC 20 _ _ (0, 0) hbl]; exact rec_at _ _ rfl
      have hlk : decide ((k : Int) < (K : Int)) = true := decide_eq_true (by omega)
      have hby := byId_cells k (by omega)
      have hwb : IntKind.u8.wrap ((k : Int) + 1) = (k : Int) + 1 := by show ((k : Int) + 1) % 256 = _; omega
      have hal : Grew wr (wr.alloc (.cells #[.int .u8 ((k : Int) + 1), .int .u8 0, .int .u8 0, .int .u8 0, .int .u8 0, .int .u8 0, .int .u8 0, .int .u8 0, .int .u8 0, .int .u8 0, .int .u8 0, .int .u8 0, .int .u8 0, .int .u8 0, .int .u8 0, .int .u8 0, .int .u8 0, .int .u8 0, .int .u8 0, .int .u8 0] 26)) := (Below.refl _ _).alloc (Nat.le_refl _) _
      have hrow : (wr.alloc (.cells #[.int .u8 ((k : Int) + 1), .int .u8 0, .int .u8 0, .int .u8 0, .int .u8 0, .int .u8 0, .int .u8 0, .int .u8 0, .int .u8 0, .int .u8 0, .int .u8 0, .int .u8 0, .int .u8 0, .int .u8 0, .int .u8 0, .int .u8 0, .int .u8 0, .int .u8 0, .int .u8 0, .int .u8 0] 26)).rangeAt wr.heap.size 0 (kId.cells (byId (k + 1))) := by
        show World.rangeAt _ _ _ (Lib.byteCells (byId (k + 1)))
        rw [hby]
        have := range_row (heap_alloc_new wr (.cells #[.int .u8 ((k : Int) + 1), .int .u8 0, .int .u8 0, .int .u8 0, .int .u8 0, .int .u8 0, .int .u8 0, .int .u8 0, .int .u8 0, .int .u8 0, .int .u8 0, .int .u8 0, .int .u8 0, .int .u8 0, .int .u8 0, .int .u8 0, .int .u8 0, .int .u8 0, .int .u8 0, .int .u8 0] 26))
        simpa using this
      have hnx := idsN_next k
      have HNX := Lib.hid hnx
      clear hnx hby
      go_wp2_with (at_builtin; refine wpList_append_G kId rfl _ _ rfl B v (idsN k) (byId (k + 1)) wr.heap.size rfl rfl (hown.below hal) (byId_len _) hrow (Nat.le_trans hBs hal.size) (by rw [idsN_len]; omega) ?_)
      intro v5 W5 hown5 hb5 hg5
      rw [← HNX.out] at hown5
      have hbl5 := (hb5.block gC hCB).trans ((hal.block gC (Array.getElem?_eq_some_iff.1 hbl).1).trans hbl)
      have hgw5 : Grew w W5 := (hgw.trans' hal).trans (hb5.mono hVB)
      have c5 : W5.cell? ⟨gC, 20, none⟩ = some v := by rw [cell_of_row W5 gC 20 _ _ (0, 0) hbl5]; exact rec_at _ _ rfl
      have f5 : W5.frozen? ⟨gC, 20, none⟩ = false := by simp [World.frozen?, hbl5]
      have hne : v5.ownBlock ≠ some gC := fun e => by have := (hown5.lt _ e).1; omega
      have hown6 := hown5.set ⟨gC, 20, none⟩ v5 hne
      have hbl6 := set_cell_any W5 gC 20 _ _ _ v5 hbl5
      rw [rec_set _ _ _ rfl] at hbl6
      have hgw6 : Grew w (W5.setCell ⟨gC, 20, none⟩ v5) := hgw5.setCell (p := ⟨gC, 20, none⟩) hwC _
      have hBs6 : B ≤ (W5.setCell ⟨gC, 20, none⟩ v5).heap.size := by have h1 := hb5.size; have h2 := hal.size; simp; omega
      obtain ⟨p5, cp5, rfl, -⟩ := hown5.val
      clear hown hown5 hbl hbl5 hb5 hg5 hal hrow hne hc20
      go_wp2
      go_roundw
      case rel => exact ⟨k + 1, _, by go_num, by omega, hgw6, hBs6, hown6, hbl6⟩
      case measure => simp [intOf]; omega
    · obtain rfl : k = K := by omega
      have HU := Lib.hid hu
      have HM := Lib.hid hm
      have HT := Lib.hid ht
      clear hu hm ht hBs hVB
      have hz3 : z = false ∨ (z = true ∧ ¬ 0 < k) ∨ (z = true ∧ 0 < k) := by cases z <;> simp <;> omega
      have ht3 : t = false ∨ (t = true ∧ k ≤ 1) ∨ (t = true ∧ 1 < k) := by cases t <;> simp <;> omega
      rcases hz3 with rfl | ⟨rfl, hkz⟩ | ⟨rfl, hkz⟩
      · have hzz : True := trivial
        obtain ⟨p, c, hv, hrE, hcE, -, -⟩ := hown.val
        have hl := idsN_len k
        have hokE := idsN_20 k
        rcases ht3 with rfl | ⟨rfl, hk1⟩ | ⟨rfl, hk1⟩
        · subst hv
          have hwant : rightR (recN (idsN k) ⟨#[]⟩) = decide (k ≤ 16) := by have h := HW.out false false; simpa [plN, plZ, plT, hzz] using h
          obtain ⟨PL, hPLe⟩ : ∃ PL, idsN k = PL := ⟨_, rfl⟩
          rw [hPLe] at hwant hl hown hrE hcE hbl hokE
          have hblE := hbl
          have hownE := hown
          have hgwE := hgw
          clear hbl hown hgw hPLe
          have hbnd : PL.length ≤ 1000 := by rw [hl]; exact Nat.le_trans (Nat.le_of_lt hK19) (by decide)
          have rR : wr.rangeAt gC 0 ((recN PL ⟨#[]⟩).cells (.slice p PL.length c)) := by have h := range_row hblE; simp only [List.toList_toArray] at h; exact h
          have nfR := infoRec (.slice p PL.length c) (recN PL ⟨#[]⟩) rfl
          have cP := commit_Print p c (recN PL ⟨#[]⟩) wr (fine_recN PL ⟨#[]⟩ hokE hbnd (by decide)) hcE hrE (u8_grew HU.out hgwE) (HM.out.grew hgwE) (HT.out.grew hgwE)
          have cR : ∀ W, Grew wr W → Calls Tryd.prog 8 #[.agg ((recN PL ⟨#[]⟩).cells (.slice p PL.length c)).toArray] W fun e w' => e = .returned (.bool (rightR (recN PL ⟨#[]⟩))) ∧ Grew W w' := fun W gg => commit_Right p c (recN PL ⟨#[]⟩) W (fine_recN PL ⟨#[]⟩ hokE hbnd (by decide)) hcE (hrE.grew gg) (u8_grew HU.out (hgwE.trans' gg)) (HM.out.grew (hgwE.trans' gg))
          have cA := fun W (g : Grew wr W) => awake09 W (u8_grew HU.out (hgwE.trans' g)) (HM.out.grew (hgwE.trans' g)) (HT.out.grew (hgwE.trans' g))
          rw [show (recN PL ⟨#[]⟩).par.length = PL.length from rfl] at cP
          have rRg := fun W (g : Grew wr W) => range_grew rR g
          have gEE : Grew wr wr := Below.refl _ _
          generalize hRC : (recN PL ⟨#[]⟩).cells (.slice p PL.length c) = RC at *
          unfold PrintPostR at cP
          simp only [hwant] at cP cR
          clear hblE hRC hownE
          go_wp2_with (refine wpList_load_mid rfl 29 _ rfl gC 0 rfl RC _ rR Tryd.underlying29 rfl nfR ?_)
          go_fit cP
          rintro e1 W1 ⟨g1, ⟨hn, rfl⟩ | ⟨hn, v1, rfl, -⟩⟩
          · have f16 : decide ((k : Int) ≤ 16) = false := by rw [← hn]; exact decide_eq_decide.2 (by omega)
            rw [hn] at cR
            clear cP hn rR
            go_wp2_with (first | (go_at_call 7; with_reducible refine (cA _ (by assumption)).mono ?_; rintro e1 W1 ⟨rfl, g1⟩; replace g1 := Grew.trans' (a := wr) (by assumption) g1) | (refine wpList_load_g (by rfl) 29 (.tmp 8) rfl gC 0 rfl RC _ (rRg _ (by assumption)) Tryd.underlying29 rfl nfR ?_) | (go_at_call 8; with_reducible refine (cR _ (by assumption)).mono ?_; rintro e1 W1 ⟨rfl, g1⟩; replace g1 := Grew.trans' (a := wr) (by assumption) g1))
            go_ret
            exact ⟨rfl, hgwE.trans' (by assumption)⟩
          · have f16 : decide ((k : Int) ≤ 16) = true := by rw [← hn]; exact decide_eq_decide.2 (by omega)
            rw [hn] at cR
            clear cP hn rR
            go_wp2_with (first | (go_at_call 7; with_reducible refine (cA _ (by assumption)).mono ?_; rintro e1 W1 ⟨rfl, g1⟩; replace g1 := Grew.trans' (a := wr) (by assumption) g1) | (refine wpList_load_g (by rfl) 29 (.tmp 8) rfl gC 0 rfl RC _ (rRg _ (by assumption)) Tryd.underlying29 rfl nfR ?_) | (go_at_call 8; with_reducible refine (cR _ (by assumption)).mono ?_; rintro e1 W1 ⟨rfl, g1⟩; replace g1 := Grew.trans' (a := wr) (by assumption) g1))
            go_ret
            exact ⟨rfl, hgwE.trans' (by assumption)⟩
        · have f1 : decide (1 < (k : Int)) = false := decide_eq_false (by omega)
          subst hv
          have hwant : rightR (recN (idsN k) ⟨#[]⟩) = decide (k ≤ 16) := by have h := HW.out false true; simpa [plN, plZ, plT, hzz, hk1, show ¬ 1 < k by omega] using h
          clear hk1
          obtain ⟨PL, hPLe⟩ : ∃ PL, idsN k = PL := ⟨_, rfl⟩
          rw [hPLe] at hwant hl hown hrE hcE hbl hokE
          have hblE := hbl
          have hownE := hown
          have hgwE := hgw
          clear hbl hown hgw hPLe
          have hbnd : PL.length ≤ 1000 := by rw [hl]; exact Nat.le_trans (Nat.le_of_lt hK19) (by decide)
          have rR : wr.rangeAt gC 0 ((recN PL ⟨#[]⟩).cells (.slice p PL.length c)) := by have h := range_row hblE; simp only [List.toList_toArray] at h; exact h
          have nfR := infoRec (.slice p PL.length c) (recN PL ⟨#[]⟩) rfl
          have cP := commit_Print p c (recN PL ⟨#[]⟩) wr (fine_recN PL ⟨#[]⟩ hokE hbnd (by decide)) hcE hrE (u8_grew HU.out hgwE) (HM.out.grew hgwE) (HT.out.grew hgwE)
          have cR : ∀ W, Grew wr W → Calls Tryd.prog 8 #[.agg ((recN PL ⟨#[]⟩).cells (.slice p PL.length c)).toArray] W fun e w' => e = .returned (.bool (rightR (recN PL ⟨#[]⟩))) ∧ Grew W w' := fun W gg => commit_Right p c (recN PL ⟨#[]⟩) W (fine_recN PL ⟨#[]⟩ hokE hbnd (by decide)) hcE (hrE.grew gg) (u8_grew HU.out (hgwE.trans' gg)) (HM.out.grew (hgwE.trans' gg))
          have cA := fun W (g : Grew wr W) => awake09 W (u8_grew HU.out (hgwE.trans' g)) (HM.out.grew (hgwE.trans' g)) (HT.out.grew (hgwE.trans' g))
          rw [show (recN PL ⟨#[]⟩).par.length = PL.length from rfl] at cP
          have rRg := fun W (g : Grew wr W) => range_grew rR g
          have gEE : Grew wr wr := Below.refl _ _
          generalize hRC : (recN PL ⟨#[]⟩).cells (.slice p PL.length c) = RC at *
          unfold PrintPostR at cP
          simp only [hwant] at cP cR
          clear hblE hRC hownE
          go_wp2_with (refine wpList_load_mid rfl 29 _ rfl gC 0 rfl RC _ rR Tryd.underlying29 rfl nfR ?_)
          go_fit cP
          rintro e1 W1 ⟨g1, ⟨hn, rfl⟩ | ⟨hn, v1, rfl, -⟩⟩
          · have f16 : decide ((k : Int) ≤ 16) = false := by rw [← hn]; exact decide_eq_decide.2 (by omega)
            rw [hn] at cR
            clear cP hn rR
            go_wp2_with (first | (go_at_call 7; with_reducible refine (cA _ (by assumption)).mono ?_; rintro e1 W1 ⟨rfl, g1⟩; replace g1 := Grew.trans' (a := wr) (by assumption) g1) | (refine wpList_load_g (by rfl) 29 (.tmp 8) rfl gC 0 rfl RC _ (rRg _ (by assumption)) Tryd.underlying29 rfl nfR ?_) | (go_at_call 8; with_reducible refine (cR _ (by assumption)).mono ?_; rintro e1 W1 ⟨rfl, g1⟩; replace g1 := Grew.trans' (a := wr) (by assumption) g1))
            go_ret
            exact ⟨rfl, hgwE.trans' (by assumption)⟩
          · have f16 : decide ((k : Int) ≤ 16) = true := by rw [← hn]; exact decide_eq_decide.2 (by omega)
            rw [hn] at cR
            clear cP hn rR
            go_wp2_with (first | (go_at_call 7; with_reducible refine (cA _ (by assumption)).mono ?_; rintro e1 W1 ⟨rfl, g1⟩; replace g1 := Grew.trans' (a := wr) (by assumption) g1) | (refine wpList_load_g (by rfl) 29 (.tmp 8) rfl gC 0 rfl RC _ (rRg _ (by assumption)) Tryd.underlying29 rfl nfR ?_) | (go_at_call 8; with_reducible refine (cR _ (by assumption)).mono ?_; rintro e1 W1 ⟨rfl, g1⟩; replace g1 := Grew.trans' (a := wr) (by assumption) g1))
            go_ret
            exact ⟨rfl, hgwE.trans' (by assumption)⟩
        · have hk1d : decide (1 < (k : Int)) = true := decide_eq_true (by omega)
          obtain ⟨g, cp, hv2, hgB, hglt, hcap⟩ := hown.form (by rw [hl]; omega)
          rw [hv] at hv2
          simp only [Value.slice.injEq] at hv2
          obtain ⟨rfl, -, rfl⟩ := hv2
          subst hv
          obtain ⟨L1, hL1⟩ : ∃ L1, idsN k = L1 := ⟨_, rfl⟩
          rw [hL1] at hown hl hokE hbl hrE hcE
          obtain ⟨x1, hx1⟩ : ∃ x, L1[1]? = some x := ⟨_, List.getElem?_eq_getElem (by omega)⟩
          have h201 : x1.length = 20 := hokE x1 (List.mem_of_getElem? hx1)
          have hgd : L1.getD 1 [] = x1 := by rw [List.getD_eq_getElem?_getD, hx1]; rfl
          have hownd := hown.below (Below.drew (Below.refl _ wr))
          obtain ⟨cur3, hcur3, hfit3, hown3⟩ := OwnG.store hownd 0 (by omega) x1 h201
          change wr.drew.heap[g]? = some (.cells cur3 26 (0, 0)) at hcur3
          rw [Nat.zero_mul] at hfit3 hown3
          have hrow1 : wr.drew.rangeAt g 20 (Lib.byteCells x1) := by have := OwnG.range hownd hx1; rwa [show 1 * kId.n = 20 from rfl] at this
          have nf1 := infoId' h201
          have d20 : wr.drew.cell? ⟨gC, 20, none⟩ = some (.slice (some ⟨g, 0, none⟩) L1.length c) := by rw [cell_of_row wr.drew gC 20 _ _ (0, 0) (show wr.drew.heap[gC]? = _ from hbl)]; exact rec_at _ _ rfl
          have hneC3 : gC ≠ g := by omega
          have hset3 := setRow_other wr.drew g gC (cur3.toList.take 0 ++ Lib.byteCells x1 ++ cur3.toList.drop (0 + (Lib.byteCells x1).length)).toArray hneC3
          have hbl3 := hset3.trans (show wr.drew.heap[gC]? = _ from hbl)
          have hgw3 : Grew w (wr.drew.setRow g (cur3.toList.take 0 ++ Lib.byteCells x1 ++ cur3.toList.drop (0 + (Lib.byteCells x1).length)).toArray) := below_setRow hgw.drew (g := g) (by omega) _
          change OwnG kId (wr.drew.setRow g (cur3.toList.take 0 ++ Lib.byteCells x1 ++ cur3.toList.drop (0 + (Lib.byteCells x1).length)).toArray) _ _ _ at hown3
          obtain ⟨W3, hW3⟩ : ∃ W3, wr.drew.setRow g (cur3.toList.take 0 ++ Lib.byteCells x1 ++ cur3.toList.drop (0 + (Lib.byteCells x1).length)).toArray = W3 := ⟨_, rfl⟩
          rw [hW3] at hbl3 hgw3 hown3
          have HW3 := Lib.hid hW3
          have hl3 : (L1.set 0 x1).length = k := by rw [List.length_set]; exact hl
          have hok3 : ∀ y ∈ L1.set 0 x1, y.length = 20 := fun y hy => by
            rcases List.mem_or_eq_of_mem_set hy with h | h
            · exact hokE y h
            · rw [h]; exact h201
          have hwant : rightR (recN (L1.set 0 x1) ⟨#[]⟩) = false := by
            have h := HW.out false true
            rw [← hL1] at hgd
            have e : plN k false true = L1.set 0 x1 := by unfold plN; rw [show plZ (idsN k) false k = idsN k from rfl]; unfold plT; rw [if_pos (by simp; omega), hgd, hL1]
            rw [e] at h
            rw [h]
            simp [hk1]
          have hcd : (0 : Int) < (L1.length : Int) := by omega
          have hcd1 : (1 : Int) < (L1.length : Int) := by omega
          have h1k : (1 : Int) < (k : Int) := by omega
          have h0k : (0 : Int) < (k : Int) := by omega
          have h0kn : 0 < k := by omega
          clear hown hownd hset3 hW3 hgd hx1
          go_wp2_with fail
          refine wp_region_still_tail 7 (by kernel_rfl) (by kernel_rfl) ?_
          simp only [List.take_succ_cons, List.take_zero, List.drop_succ_cons, List.drop_zero]
          change wpStill _ _ wr.drew _ _ _
          repeat still_step
          refine wpStill_load_row rfl 26 _ rfl g 20 rfl (Lib.byteCells x1) _ hrow1 Tryd.underlying26 rfl nf1 ?_
          repeat still_step
          refine wpStill_nil ?_
          change wpList _ _ _ _ _ wr.drew
          refine wpList_store_G rfl 26 _ _ rfl g 0 _ _ (Lib.byteCells x1) (by first | rfl | simp) rfl hcur3 hfit3 nf1 (one_bytes' _) ?_
          rw [HW3.out]
          obtain ⟨p, c, hv, hrE, hcE, -, -⟩ := hown3.val
          simp only [Value.slice.injEq] at hv
          obtain ⟨rfl, -, rfl⟩ := hv
          clear hrow1 d20 hcur3 hfit3
          have hLL : L1.length = (L1.set 0 x1).length := by rw [List.length_set]
          rw [hLL] at hbl3 hown3
          obtain ⟨PL, hPLe⟩ : ∃ PL, L1.set 0 x1 = PL := ⟨_, rfl⟩
          rw [hPLe] at hwant hl3 hown3 hrE hcE hbl3 hok3
          clear hPLe hLL
          have hbnd : PL.length ≤ 1000 := by rw [hl3]; exact Nat.le_trans (Nat.le_of_lt hK19) (by decide)
          have rR : W3.rangeAt gC 0 ((recN PL ⟨#[]⟩).cells (.slice (some ⟨g, 0, none⟩) PL.length c)) := by have h := range_row hbl3; simp only [List.toList_toArray] at h; exact h
          have nfR := infoRec (.slice (some ⟨g, 0, none⟩) PL.length c) (recN PL ⟨#[]⟩) rfl
          have cP := commit_Print (some ⟨g, 0, none⟩) c (recN PL ⟨#[]⟩) W3 (fine_recN PL ⟨#[]⟩ hok3 hbnd (by decide)) hcE hrE (u8_grew HU.out hgw3) (HM.out.grew hgw3) (HT.out.grew hgw3)
          have cR : ∀ W, Grew W3 W → Calls Tryd.prog 8 #[.agg ((recN PL ⟨#[]⟩).cells (.slice (some ⟨g, 0, none⟩) PL.length c)).toArray] W fun e w' => e = .returned (.bool (rightR (recN PL ⟨#[]⟩))) ∧ Grew W w' := fun W gg => commit_Right (some ⟨g, 0, none⟩) c (recN PL ⟨#[]⟩) W (fine_recN PL ⟨#[]⟩ hok3 hbnd (by decide)) hcE (hrE.grew gg) (u8_grew HU.out (hgw3.trans' gg)) (HM.out.grew (hgw3.trans' gg))
          have cA := fun W (g : Grew W3 W) => awake09 W (u8_grew HU.out (hgw3.trans' g)) (HM.out.grew (hgw3.trans' g)) (HT.out.grew (hgw3.trans' g))
          rw [show (recN PL ⟨#[]⟩).par.length = PL.length from rfl] at cP
          have rRg := fun W (g : Grew W3 W) => range_grew rR g
          have gEE : Grew W3 W3 := Below.refl _ _
          generalize hRC : (recN PL ⟨#[]⟩).cells (.slice (some ⟨g, 0, none⟩) PL.length c) = RC at *
          unfold PrintPostR at cP
          simp only [hwant] at cP cR
          clear hbl3 hRC hown3
          go_wp2_with (refine wpList_load_mid rfl 29 _ rfl gC 0 rfl RC _ rR Tryd.underlying29 rfl nfR ?_)
          go_fit cP
          rintro e1 W1 ⟨g1, ⟨hn, rfl⟩ | ⟨hn, v1, rfl, -⟩⟩
          · clear cP hn rR
            go_wp2_with (first | (go_at_call 7; with_reducible refine (cA _ (by assumption)).mono ?_; rintro e1 W1 ⟨rfl, g1⟩; replace g1 := Grew.trans' (a := W3) (by assumption) g1) | (refine wpList_load_g (by rfl) 29 (.tmp 8) rfl gC 0 rfl RC _ (rRg _ (by assumption)) Tryd.underlying29 rfl nfR ?_) | (go_at_call 8; with_reducible refine (cR _ (by assumption)).mono ?_; rintro e1 W1 ⟨rfl, g1⟩; replace g1 := Grew.trans' (a := W3) (by assumption) g1))
            go_ret
            exact ⟨rfl, hgw3.trans' (by assumption)⟩
          · cases hn
      · have hzz : ¬ 0 < k := by omega
        have f0 : decide (0 < (k : Int)) = false := decide_eq_false (by omega)
        obtain ⟨p, c, hv, hrE, hcE, -, -⟩ := hown.val
        have hl := idsN_len k
        have hokE := idsN_20 k
        rcases ht3 with rfl | ⟨rfl, hk1⟩ | ⟨rfl, hk1⟩
        · subst hv
          have hwant : rightR (recN (idsN k) ⟨#[]⟩) = decide (k ≤ 16) := by have h := HW.out true false; simpa [plN, plZ, plT, hzz] using h
          obtain ⟨PL, hPLe⟩ : ∃ PL, idsN k = PL := ⟨_, rfl⟩
          rw [hPLe] at hwant hl hown hrE hcE hbl hokE
          have hblE := hbl
          have hownE := hown
          have hgwE := hgw
          clear hbl hown hgw hPLe
          have hbnd : PL.length ≤ 1000 := by rw [hl]; exact Nat.le_trans (Nat.le_of_lt hK19) (by decide)
          have rR : wr.rangeAt gC 0 ((recN PL ⟨#[]⟩).cells (.slice p PL.length c)) := by have h := range_row hblE; simp only [List.toList_toArray] at h; exact h
          have nfR := infoRec (.slice p PL.length c) (recN PL ⟨#[]⟩) rfl
          have cP := commit_Print p c (recN PL ⟨#[]⟩) wr (fine_recN PL ⟨#[]⟩ hokE hbnd (by decide)) hcE hrE (u8_grew HU.out hgwE) (HM.out.grew hgwE) (HT.out.grew hgwE)
          have cR : ∀ W, Grew wr W → Calls Tryd.prog 8 #[.agg ((recN PL ⟨#[]⟩).cells (.slice p PL.length c)).toArray] W fun e w' => e = .returned (.bool (rightR (recN PL ⟨#[]⟩))) ∧ Grew W w' := fun W gg => commit_Right p c (recN PL ⟨#[]⟩) W (fine_recN PL ⟨#[]⟩ hokE hbnd (by decide)) hcE (hrE.grew gg) (u8_grew HU.out (hgwE.trans' gg)) (HM.out.grew (hgwE.trans' gg))
          have cA := fun W (g : Grew wr W) => awake09 W (u8_grew HU.out (hgwE.trans' g)) (HM.out.grew (hgwE.trans' g)) (HT.out.grew (hgwE.trans' g))
          rw [show (recN PL ⟨#[]⟩).par.length = PL.length from rfl] at cP
          have rRg := fun W (g : Grew wr W) => range_grew rR g
          have gEE : Grew wr wr := Below.refl _ _
          generalize hRC : (recN PL ⟨#[]⟩).cells (.slice p PL.length c) = RC at *
          unfold PrintPostR at cP
          simp only [hwant] at cP cR
          clear hblE hRC hownE
          go_wp2_with (refine wpList_load_mid rfl 29 _ rfl gC 0 rfl RC _ rR Tryd.underlying29 rfl nfR ?_)
          go_fit cP
          rintro e1 W1 ⟨g1, ⟨hn, rfl⟩ | ⟨hn, v1, rfl, -⟩⟩
          · have f16 : decide ((k : Int) ≤ 16) = false := by rw [← hn]; exact decide_eq_decide.2 (by omega)
            rw [hn] at cR
            clear cP hn rR
            go_wp2_with (first | (go_at_call 7; with_reducible refine (cA _ (by assumption)).mono ?_; rintro e1 W1 ⟨rfl, g1⟩; replace g1 := Grew.trans' (a := wr) (by assumption) g1) | (refine wpList_load_g (by rfl) 29 (.tmp 8) rfl gC 0 rfl RC _ (rRg _ (by assumption)) Tryd.underlying29 rfl nfR ?_) | (go_at_call 8; with_reducible refine (cR _ (by assumption)).mono ?_; rintro e1 W1 ⟨rfl, g1⟩; replace g1 := Grew.trans' (a := wr) (by assumption) g1))
            go_ret
            exact ⟨rfl, hgwE.trans' (by assumption)⟩
          · have f16 : decide ((k : Int) ≤ 16) = true := by rw [← hn]; exact decide_eq_decide.2 (by omega)
            rw [hn] at cR
            clear cP hn rR
            go_wp2_with (first | (go_at_call 7; with_reducible refine (cA _ (by assumption)).mono ?_; rintro e1 W1 ⟨rfl, g1⟩; replace g1 := Grew.trans' (a := wr) (by assumption) g1) | (refine wpList_load_g (by rfl) 29 (.tmp 8) rfl gC 0 rfl RC _ (rRg _ (by assumption)) Tryd.underlying29 rfl nfR ?_) | (go_at_call 8; with_reducible refine (cR _ (by assumption)).mono ?_; rintro e1 W1 ⟨rfl, g1⟩; replace g1 := Grew.trans' (a := wr) (by assumption) g1))
            go_ret
            exact ⟨rfl, hgwE.trans' (by assumption)⟩
        · have f1 : decide (1 < (k : Int)) = false := decide_eq_false (by omega)
          subst hv
          have hwant : rightR (recN (idsN k) ⟨#[]⟩) = decide (k ≤ 16) := by have h := HW.out true true; simpa [plN, plZ, plT, hzz, hk1, show ¬ 1 < k by omega] using h
          clear hk1
          obtain ⟨PL, hPLe⟩ : ∃ PL, idsN k = PL := ⟨_, rfl⟩
          rw [hPLe] at hwant hl hown hrE hcE hbl hokE
          have hblE := hbl
          have hownE := hown
          have hgwE := hgw
          clear hbl hown hgw hPLe
          have hbnd : PL.length ≤ 1000 := by rw [hl]; exact Nat.le_trans (Nat.le_of_lt hK19) (by decide)
          have rR : wr.rangeAt gC 0 ((recN PL ⟨#[]⟩).cells (.slice p PL.length c)) := by have h := range_row hblE; simp only [List.toList_toArray] at h; exact h
          have nfR := infoRec (.slice p PL.length c) (recN PL ⟨#[]⟩) rfl
          have cP := commit_Print p c (recN PL ⟨#[]⟩) wr (fine_recN PL ⟨#[]⟩ hokE hbnd (by decide)) hcE hrE (u8_grew HU.out hgwE) (HM.out.grew hgwE) (HT.out.grew hgwE)
          have cR : ∀ W, Grew wr W → Calls Tryd.prog 8 #[.agg ((recN PL ⟨#[]⟩).cells (.slice p PL.length c)).toArray] W fun e w' => e = .returned (.bool (rightR (recN PL ⟨#[]⟩))) ∧ Grew W w' := fun W gg => commit_Right p c (recN PL ⟨#[]⟩) W (fine_recN PL ⟨#[]⟩ hokE hbnd (by decide)) hcE (hrE.grew gg) (u8_grew HU.out (hgwE.trans' gg)) (HM.out.grew (hgwE.trans' gg))
          have cA := fun W (g : Grew wr W) => awake09 W (u8_grew HU.out (hgwE.trans' g)) (HM.out.grew (hgwE.trans' g)) (HT.out.grew (hgwE.trans' g))
          rw [show (recN PL ⟨#[]⟩).par.length = PL.length from rfl] at cP
          have rRg := fun W (g : Grew wr W) => range_grew rR g
          have gEE : Grew wr wr := Below.refl _ _
          generalize hRC : (recN PL ⟨#[]⟩).cells (.slice p PL.length c) = RC at *
          unfold PrintPostR at cP
          simp only [hwant] at cP cR
          clear hblE hRC hownE
          go_wp2_with (refine wpList_load_mid rfl 29 _ rfl gC 0 rfl RC _ rR Tryd.underlying29 rfl nfR ?_)
          go_fit cP
          rintro e1 W1 ⟨g1, ⟨hn, rfl⟩ | ⟨hn, v1, rfl, -⟩⟩
          · have f16 : decide ((k : Int) ≤ 16) = false := by rw [← hn]; exact decide_eq_decide.2 (by omega)
            rw [hn] at cR
            clear cP hn rR
            go_wp2_with (first | (go_at_call 7; with_reducible refine (cA _ (by assumption)).mono ?_; rintro e1 W1 ⟨rfl, g1⟩; replace g1 := Grew.trans' (a := wr) (by assumption) g1) | (refine wpList_load_g (by rfl) 29 (.tmp 8) rfl gC 0 rfl RC _ (rRg _ (by assumption)) Tryd.underlying29 rfl nfR ?_) | (go_at_call 8; with_reducible refine (cR _ (by assumption)).mono ?_; rintro e1 W1 ⟨rfl, g1⟩; replace g1 := Grew.trans' (a := wr) (by assumption) g1))
            go_ret
            exact ⟨rfl, hgwE.trans' (by assumption)⟩
          · have f16 : decide ((k : Int) ≤ 16) = true := by rw [← hn]; exact decide_eq_decide.2 (by omega)
            rw [hn] at cR
            clear cP hn rR
            go_wp2_with (first | (go_at_call 7; with_reducible refine (cA _ (by assumption)).mono ?_; rintro e1 W1 ⟨rfl, g1⟩; replace g1 := Grew.trans' (a := wr) (by assumption) g1) | (refine wpList_load_g (by rfl) 29 (.tmp 8) rfl gC 0 rfl RC _ (rRg _ (by assumption)) Tryd.underlying29 rfl nfR ?_) | (go_at_call 8; with_reducible refine (cR _ (by assumption)).mono ?_; rintro e1 W1 ⟨rfl, g1⟩; replace g1 := Grew.trans' (a := wr) (by assumption) g1))
            go_ret
            exact ⟨rfl, hgwE.trans' (by assumption)⟩
        · exact absurd hk1 (by omega)
      · obtain ⟨g, cp, hv, hgB, hglt, hcap⟩ := hown.form (by rw [idsN_len]; omega)
        subst hv
        rw [idsN_len] at hown hbl hcap
        obtain ⟨cur, hcur, hfit, hown2⟩ := OwnG.store (l := idsN k) (by rw [idsN_len]; exact hown) (k - 1) (by rw [idsN_len]; omega) zeros20 rfl
        change wr.heap[g]? = some (.cells cur 26 (0, 0)) at hcur
        change (k - 1) * 20 + (Lib.byteCells zeros20).length ≤ cur.size at hfit
        have hc20 : wr.cell? ⟨gC, 20, none⟩ = some (.slice (some ⟨g, 0, none⟩) k cp) := by rw [cell_of_row wr gC 20 _ _ (0, 0) hbl]; exact rec_at _ _ rfl
        have nfI := infoId' (l := zeros20) rfl
        have hz0 : decide (0 < (k : Int)) = true := decide_eq_true (by omega)
        have hk1 : (k : Int) - 1 = ((k - 1 : Nat) : Int) := by omega
        have hi1 : ((k - 1 : Nat) : Int) < (k : Int) := by omega
        have hneC : gC ≠ g := by omega
        have hset := setRow_other wr g gC (cur.toList.take ((k - 1) * 20) ++ Lib.byteCells zeros20 ++ cur.toList.drop ((k - 1) * 20 + (Lib.byteCells zeros20).length)).toArray hneC
        have hbl2 := hset.trans hbl
        have hgw2 := below_setRow hgw (g := g) (by omega) (cur.toList.take ((k - 1) * 20) ++ Lib.byteCells zeros20 ++ cur.toList.drop ((k - 1) * 20 + (Lib.byteCells zeros20).length)).toArray
        replace hgw2 : Grew w _ := hgw2
        change OwnG kId (wr.setRow g (cur.toList.take ((k - 1) * 20) ++ Lib.byteCells zeros20 ++ cur.toList.drop ((k - 1) * 20 + (Lib.byteCells zeros20).length)).toArray) _ _ _ at hown2
        rw [idsN_len] at hown2
        obtain ⟨W2, hW2⟩ : ∃ W2, wr.setRow g (cur.toList.take ((k - 1) * 20) ++ Lib.byteCells zeros20 ++ cur.toList.drop ((k - 1) * 20 + (Lib.byteCells zeros20).length)).toArray = W2 := ⟨_, rfl⟩
        rw [hW2] at hown2 hbl2 hgw2
        have HW2 := Lib.hid hW2
        clear hW2 hset
        obtain ⟨g0, rfl⟩ : ∃ g0, g0 = g := ⟨_, rfl⟩
        have hzz : 0 < k := by omega
        clear hown hbl
        have hgw := hgw2
        have hl : ((idsN k).set (k - 1) zeros20).length = k := by rw [List.length_set, idsN_len]
        have hokE : ∀ y ∈ (idsN k).set (k - 1) zeros20, y.length = 20 := fun y hy => by
          rcases List.mem_or_eq_of_mem_set hy with h | h
          · exact idsN_20 k y h
          · rw [h]; rfl
        have hown : OwnG kId W2 B (.slice (some ⟨g0, 0, none⟩) ((idsN k).set (k - 1) zeros20).length cp) ((idsN k).set (k - 1) zeros20) := by rw [hl]; exact hown2
        have hbl : W2.heap[gC]? = some (.cells ((recN [] ⟨#[]⟩).cells (.slice (some ⟨g0, 0, none⟩) ((idsN k).set (k - 1) zeros20).length cp)).toArray 29 (0, 0)) := by rw [hl]; exact hbl2
        clear hown2 hbl2 hgw2
        obtain ⟨p, c, hv, hrE, hcE, -, -⟩ := hown.val
        simp only [Value.slice.injEq, true_and] at hv
        obtain ⟨rfl, rfl⟩ := hv
        rcases ht3 with rfl | ⟨rfl, hk1⟩ | ⟨rfl, hk1⟩
        · skip
          have hwant : rightR (recN ((idsN k).set (k - 1) zeros20) ⟨#[]⟩) = false := by have h := HW.out true false; simpa [plN, plZ, plT, hzz] using h
          obtain ⟨PL, hPLe⟩ : ∃ PL, (idsN k).set (k - 1) zeros20 = PL := ⟨_, rfl⟩
          rw [hPLe] at hwant hl hown hrE hcE hbl hokE
          have hblE := hbl
          have hownE := hown
          have hgwE := hgw
          clear hbl hown hgw hPLe
          have hbnd : PL.length ≤ 1000 := by rw [hl]; exact Nat.le_trans (Nat.le_of_lt hK19) (by decide)
          have rR : W2.rangeAt gC 0 ((recN PL ⟨#[]⟩).cells (.slice (some ⟨g0, 0, none⟩) PL.length cp)) := by have h := range_row hblE; simp only [List.toList_toArray] at h; exact h
          have nfR := infoRec (.slice (some ⟨g0, 0, none⟩) PL.length cp) (recN PL ⟨#[]⟩) rfl
          have cP := commit_Print (some ⟨g0, 0, none⟩) cp (recN PL ⟨#[]⟩) W2 (fine_recN PL ⟨#[]⟩ hokE hbnd (by decide)) hcE hrE (u8_grew HU.out hgwE) (HM.out.grew hgwE) (HT.out.grew hgwE)
          have cR : ∀ W, Grew W2 W → Calls Tryd.prog 8 #[.agg ((recN PL ⟨#[]⟩).cells (.slice (some ⟨g0, 0, none⟩) PL.length cp)).toArray] W fun e w' => e = .returned (.bool (rightR (recN PL ⟨#[]⟩))) ∧ Grew W w' := fun W gg => commit_Right (some ⟨g0, 0, none⟩) cp (recN PL ⟨#[]⟩) W (fine_recN PL ⟨#[]⟩ hokE hbnd (by decide)) hcE (hrE.grew gg) (u8_grew HU.out (hgwE.trans' gg)) (HM.out.grew (hgwE.trans' gg))
          have cA := fun W (g : Grew W2 W) => awake09 W (u8_grew HU.out (hgwE.trans' g)) (HM.out.grew (hgwE.trans' g)) (HT.out.grew (hgwE.trans' g))
          rw [show (recN PL ⟨#[]⟩).par.length = PL.length from rfl] at cP
          have rRg := fun W (g : Grew W2 W) => range_grew rR g
          have gEE : Grew W2 W2 := Below.refl _ _
          generalize hRC : (recN PL ⟨#[]⟩).cells (.slice (some ⟨g0, 0, none⟩) PL.length cp) = RC at *
          unfold PrintPostR at cP
          simp only [hwant] at cP cR
          clear hblE hRC hownE
          go_wp2_with (first | (refine wpList_store_G rfl 26 _ _ rfl g0 ((k - 1) * 20) _ _ (Lib.byteCells zeros20) (by first | rfl | simp) rfl hcur hfit nfI (one_bytes' _) ?_; rw [HW2.out]) | refine wpList_load_mid rfl 29 _ rfl gC 0 rfl RC _ rR Tryd.underlying29 rfl nfR ?_)
          go_fit cP
          rintro e1 W1 ⟨g1, ⟨hn, rfl⟩ | ⟨hn, v1, rfl, -⟩⟩
          · clear cP hn rR
            go_wp2_with (first | (go_at_call 7; with_reducible refine (cA _ (by assumption)).mono ?_; rintro e1 W1 ⟨rfl, g1⟩; replace g1 := Grew.trans' (a := W2) (by assumption) g1) | (refine wpList_load_g (by rfl) 29 (.tmp 8) rfl gC 0 rfl RC _ (rRg _ (by assumption)) Tryd.underlying29 rfl nfR ?_) | (go_at_call 8; with_reducible refine (cR _ (by assumption)).mono ?_; rintro e1 W1 ⟨rfl, g1⟩; replace g1 := Grew.trans' (a := W2) (by assumption) g1))
            go_ret
            exact ⟨rfl, hgwE.trans' (by assumption)⟩
          · cases hn
        · have f1 : decide (1 < (k : Int)) = false := decide_eq_false (by omega)
          skip
          have hwant : rightR (recN ((idsN k).set (k - 1) zeros20) ⟨#[]⟩) = false := by have h := HW.out true true; simpa [plN, plZ, plT, hzz, hk1, show ¬ 1 < k by omega] using h
          clear hk1
          obtain ⟨PL, hPLe⟩ : ∃ PL, (idsN k).set (k - 1) zeros20 = PL := ⟨_, rfl⟩
          rw [hPLe] at hwant hl hown hrE hcE hbl hokE
          have hblE := hbl
          have hownE := hown
          have hgwE := hgw
          clear hbl hown hgw hPLe
          have hbnd : PL.length ≤ 1000 := by rw [hl]; exact Nat.le_trans (Nat.le_of_lt hK19) (by decide)
          have rR : W2.rangeAt gC 0 ((recN PL ⟨#[]⟩).cells (.slice (some ⟨g0, 0, none⟩) PL.length cp)) := by have h := range_row hblE; simp only [List.toList_toArray] at h; exact h
          have nfR := infoRec (.slice (some ⟨g0, 0, none⟩) PL.length cp) (recN PL ⟨#[]⟩) rfl
          have cP := commit_Print (some ⟨g0, 0, none⟩) cp (recN PL ⟨#[]⟩) W2 (fine_recN PL ⟨#[]⟩ hokE hbnd (by decide)) hcE hrE (u8_grew HU.out hgwE) (HM.out.grew hgwE) (HT.out.grew hgwE)
          have cR : ∀ W, Grew W2 W → Calls Tryd.prog 8 #[.agg ((recN PL ⟨#[]⟩).cells (.slice (some ⟨g0, 0, none⟩) PL.length cp)).toArray] W fun e w' => e = .returned (.bool (rightR (recN PL ⟨#[]⟩))) ∧ Grew W w' := fun W gg => commit_Right (some ⟨g0, 0, none⟩) cp (recN PL ⟨#[]⟩) W (fine_recN PL ⟨#[]⟩ hokE hbnd (by decide)) hcE (hrE.grew gg) (u8_grew HU.out (hgwE.trans' gg)) (HM.out.grew (hgwE.trans' gg))
          have cA := fun W (g : Grew W2 W) => awake09 W (u8_grew HU.out (hgwE.trans' g)) (HM.out.grew (hgwE.trans' g)) (HT.out.grew (hgwE.trans' g))
          rw [show (recN PL ⟨#[]⟩).par.length = PL.length from rfl] at cP
          have rRg := fun W (g : Grew W2 W) => range_grew rR g
          have gEE : Grew W2 W2 := Below.refl _ _
          generalize hRC : (recN PL ⟨#[]⟩).cells (.slice (some ⟨g0, 0, none⟩) PL.length cp) = RC at *
          unfold PrintPostR at cP
          simp only [hwant] at cP cR
          clear hblE hRC hownE
          go_wp2_with (first | (refine wpList_store_G rfl 26 _ _ rfl g0 ((k - 1) * 20) _ _ (Lib.byteCells zeros20) (by first | rfl | simp) rfl hcur hfit nfI (one_bytes' _) ?_; rw [HW2.out]) | refine wpList_load_mid rfl 29 _ rfl gC 0 rfl RC _ rR Tryd.underlying29 rfl nfR ?_)
          go_fit cP
          rintro e1 W1 ⟨g1, ⟨hn, rfl⟩ | ⟨hn, v1, rfl, -⟩⟩
          · clear cP hn rR
            go_wp2_with (first | (go_at_call 7; with_reducible refine (cA _ (by assumption)).mono ?_; rintro e1 W1 ⟨rfl, g1⟩; replace g1 := Grew.trans' (a := W2) (by assumption) g1) | (refine wpList_load_g (by rfl) 29 (.tmp 8) rfl gC 0 rfl RC _ (rRg _ (by assumption)) Tryd.underlying29 rfl nfR ?_) | (go_at_call 8; with_reducible refine (cR _ (by assumption)).mono ?_; rintro e1 W1 ⟨rfl, g1⟩; replace g1 := Grew.trans' (a := W2) (by assumption) g1))
            go_ret
            exact ⟨rfl, hgwE.trans' (by assumption)⟩
          · cases hn
        · have hk1d : decide (1 < (k : Int)) = true := decide_eq_true (by omega)
          obtain ⟨g, rfl⟩ : ∃ g, g = g0 := ⟨_, rfl⟩
          obtain ⟨L1, hL1⟩ : ∃ L1, (idsN k).set (k - 1) zeros20 = L1 := ⟨_, rfl⟩
          rw [hL1] at hown hl hokE hbl hrE hcE
          obtain ⟨x1, hx1⟩ : ∃ x, L1[1]? = some x := ⟨_, List.getElem?_eq_getElem (by omega)⟩
          have h201 : x1.length = 20 := hokE x1 (List.mem_of_getElem? hx1)
          have hgd : L1.getD 1 [] = x1 := by rw [List.getD_eq_getElem?_getD, hx1]; rfl
          have hownd := hown.below (Below.drew (Below.refl _ W2))
          obtain ⟨cur3, hcur3, hfit3, hown3⟩ := OwnG.store hownd 0 (by omega) x1 h201
          change W2.drew.heap[g]? = some (.cells cur3 26 (0, 0)) at hcur3
          rw [Nat.zero_mul] at hfit3 hown3
          have hrow1 : W2.drew.rangeAt g 20 (Lib.byteCells x1) := by have := OwnG.range hownd hx1; rwa [show 1 * kId.n = 20 from rfl] at this
          have nf1 := infoId' h201
          have d20 : W2.drew.cell? ⟨gC, 20, none⟩ = some (.slice (some ⟨g, 0, none⟩) L1.length cp) := by rw [cell_of_row W2.drew gC 20 _ _ (0, 0) (show W2.drew.heap[gC]? = _ from hbl)]; exact rec_at _ _ rfl
          have hneC3 : gC ≠ g := by omega
          have hset3 := setRow_other W2.drew g gC (cur3.toList.take 0 ++ Lib.byteCells x1 ++ cur3.toList.drop (0 + (Lib.byteCells x1).length)).toArray hneC3
          have hbl3 := hset3.trans (show W2.drew.heap[gC]? = _ from hbl)
          have hgw3 : Grew w (W2.drew.setRow g (cur3.toList.take 0 ++ Lib.byteCells x1 ++ cur3.toList.drop (0 + (Lib.byteCells x1).length)).toArray) := below_setRow hgw.drew (g := g) (by omega) _
          change OwnG kId (W2.drew.setRow g (cur3.toList.take 0 ++ Lib.byteCells x1 ++ cur3.toList.drop (0 + (Lib.byteCells x1).length)).toArray) _ _ _ at hown3
          obtain ⟨W3, hW3⟩ : ∃ W3, W2.drew.setRow g (cur3.toList.take 0 ++ Lib.byteCells x1 ++ cur3.toList.drop (0 + (Lib.byteCells x1).length)).toArray = W3 := ⟨_, rfl⟩
          rw [hW3] at hbl3 hgw3 hown3
          have HW3 := Lib.hid hW3
          have hl3 : (L1.set 0 x1).length = k := by rw [List.length_set]; exact hl
          have hok3 : ∀ y ∈ L1.set 0 x1, y.length = 20 := fun y hy => by
            rcases List.mem_or_eq_of_mem_set hy with h | h
            · exact hokE y h
            · rw [h]; exact h201
          have hwant : rightR (recN (L1.set 0 x1) ⟨#[]⟩) = false := by
            have h := HW.out true true
            rw [← hL1] at hgd
            have e : plN k true true = L1.set 0 x1 := by unfold plN; rw [show plZ (idsN k) true k = (idsN k).set (k - 1) zeros20 by simp [plZ, hzz]]; unfold plT; rw [if_pos (by simp; omega), hgd, hL1]
            rw [e] at h
            rw [h]
            simp [hk1]
          have hcd : (0 : Int) < (L1.length : Int) := by omega
          have hcd1 : (1 : Int) < (L1.length : Int) := by omega
          have h1k : (1 : Int) < (k : Int) := by omega
          have h0k : (0 : Int) < (k : Int) := by omega
          have h0kn : 0 < k := by omega
          clear hown hownd hset3 hW3 hgd hx1
          go_wp2_with ((refine wpList_store_G rfl 26 _ _ rfl g ((k - 1) * 20) _ _ (Lib.byteCells zeros20) (by first | rfl | simp) rfl hcur hfit nfI (one_bytes' _) ?_; rw [HW2.out]))
          refine wp_region_still_tail 7 (by kernel_rfl) (by kernel_rfl) ?_
          simp only [List.take_succ_cons, List.take_zero, List.drop_succ_cons, List.drop_zero]
          change wpStill _ _ W2.drew _ _ _
          repeat still_step
          refine wpStill_load_row rfl 26 _ rfl g 20 rfl (Lib.byteCells x1) _ hrow1 Tryd.underlying26 rfl nf1 ?_
          repeat still_step
          refine wpStill_nil ?_
          change wpList _ _ _ _ _ W2.drew
          refine wpList_store_G rfl 26 _ _ rfl g 0 _ _ (Lib.byteCells x1) (by first | rfl | simp) rfl hcur3 hfit3 nf1 (one_bytes' _) ?_
          rw [HW3.out]
          obtain ⟨p, c, hv, hrE, hcE, -, -⟩ := hown3.val
          simp only [Value.slice.injEq] at hv
          obtain ⟨rfl, -, rfl⟩ := hv
          clear hrow1 d20 hcur3 hfit3
          have hLL : L1.length = (L1.set 0 x1).length := by rw [List.length_set]
          rw [hLL] at hbl3 hown3
          obtain ⟨PL, hPLe⟩ : ∃ PL, L1.set 0 x1 = PL := ⟨_, rfl⟩
          rw [hPLe] at hwant hl3 hown3 hrE hcE hbl3 hok3
          clear hPLe hLL
          have hbnd : PL.length ≤ 1000 := by rw [hl3]; exact Nat.le_trans (Nat.le_of_lt hK19) (by decide)
          have rR : W3.rangeAt gC 0 ((recN PL ⟨#[]⟩).cells (.slice (some ⟨g, 0, none⟩) PL.length cp)) := by have h := range_row hbl3; simp only [List.toList_toArray] at h; exact h
          have nfR := infoRec (.slice (some ⟨g, 0, none⟩) PL.length cp) (recN PL ⟨#[]⟩) rfl
          have cP := commit_Print (some ⟨g, 0, none⟩) cp (recN PL ⟨#[]⟩) W3 (fine_recN PL ⟨#[]⟩ hok3 hbnd (by decide)) hcE hrE (u8_grew HU.out hgw3) (HM.out.grew hgw3) (HT.out.grew hgw3)
          have cR : ∀ W, Grew W3 W → Calls Tryd.prog 8 #[.agg ((recN PL ⟨#[]⟩).cells (.slice (some ⟨g, 0, none⟩) PL.length cp)).toArray] W fun e w' => e = .returned (.bool (rightR (recN PL ⟨#[]⟩))) ∧ Grew W w' := fun W gg => commit_Right (some ⟨g, 0, none⟩) cp (recN PL ⟨#[]⟩) W (fine_recN PL ⟨#[]⟩ hok3 hbnd (by decide)) hcE (hrE.grew gg) (u8_grew HU.out (hgw3.trans' gg)) (HM.out.grew (hgw3.trans' gg))
          have cA := fun W (g : Grew W3 W) => awake09 W (u8_grew HU.out (hgw3.trans' g)) (HM.out.grew (hgw3.trans' g)) (HT.out.grew (hgw3.trans' g))
          rw [show (recN PL ⟨#[]⟩).par.length = PL.length from rfl] at cP
          have rRg := fun W (g : Grew W3 W) => range_grew rR g
          have gEE : Grew W3 W3 := Below.refl _ _
          generalize hRC : (recN PL ⟨#[]⟩).cells (.slice (some ⟨g, 0, none⟩) PL.length cp) = RC at *
          unfold PrintPostR at cP
          simp only [hwant] at cP cR
          clear hbl3 hRC hown3
          go_wp2_with (refine wpList_load_mid rfl 29 _ rfl gC 0 rfl RC _ rR Tryd.underlying29 rfl nfR ?_)
          go_fit cP
          rintro e1 W1 ⟨g1, ⟨hn, rfl⟩ | ⟨hn, v1, rfl, -⟩⟩
          · clear cP hn rR
            go_wp2_with (first | (go_at_call 7; with_reducible refine (cA _ (by assumption)).mono ?_; rintro e1 W1 ⟨rfl, g1⟩; replace g1 := Grew.trans' (a := W3) (by assumption) g1) | (refine wpList_load_g (by rfl) 29 (.tmp 8) rfl gC 0 rfl RC _ (rRg _ (by assumption)) Tryd.underlying29 rfl nfR ?_) | (go_at_call 8; with_reducible refine (cR _ (by assumption)).mono ?_; rintro e1 W1 ⟨rfl, g1⟩; replace g1 := Grew.trans' (a := W3) (by assumption) g1))
            go_ret
            exact ⟨rfl, hgw3.trans' (by assumption)⟩
          · cases hn

end Go.Proofs.YtemojhcbhljemaaDoor

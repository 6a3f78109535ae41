/- The reference's Sum: one text's sum. Conditions: at most 2^40 bytes. -/
import Derived.Test.YtdlhabldjdkfbaaDoorSha5
namespace Go.Proofs.YtdlhabldjdkfbaaDoor
set_option linter.unusedVariables false
set_option linter.unusedSimpArgs false
open Go.RowKit

theorem OwnB.at {w : World} {base : Nat} {v : Value} {l : List UInt8} (h : OwnB w base v l) (h0 : 0 < l.length) : ∃ b o c, v = .slice (some ⟨b, o, none⟩) l.length c ∧ l.length ≤ c ∧ base ≤ b ∧ b < w.heap.size ∧ ∀ i, i < l.length → w.cell? ⟨b, o + i, none⟩ = some (.int .u8 ((l.getD i 0).toNat : Int)) := by
  obtain ⟨p, c, rfl, hr, hc, ha⟩ := h.val
  rcases hr with hr | ⟨b, o, rfl, hlt, hcell⟩
  · rw [hr] at h0; exact absurd h0 (by simp)
  · exact ⟨b, o, c, rfl, hc, (ha _ rfl).1, hlt, hcell⟩

set_option maxRecDepth 100000 in
set_option maxHeartbeats 8000000 in
theorem ref02_Sum (p : Option Addr) (L : List UInt8) (cap : Nat) (w : World) (hr : Rd w p L) (hl : L.length ≤ 1099511627776) :
    Calls Tryd.prog 21 #[.slice p L.length cap] w fun e w' => e = .returned (idV (Pure.sumS L)) ∧ Grew w w' := by
  obtain ⟨V0, hV0⟩ : ∃ V0, w.alloc (.cells #[.int .u8 0, .int .u8 0, .int .u8 0, .int .u8 0, .int .u8 0, .int .u8 0, .int .u8 0, .int .u8 0, .int .u8 0, .int .u8 0, .int .u8 0, .int .u8 0, .int .u8 0, .int .u8 0, .int .u8 0, .int .u8 0, .int .u8 0, .int .u8 0, .int .u8 0, .int .u8 0] 30) = V0 := ⟨_, rfl⟩
  have g0 : Grew w V0 := by rw [← hV0]; exact (Below.refl _ _).alloc (Nat.le_refl _) _
  have hg0 : V0.heap.size = w.heap.size + 1 := by rw [← hV0]; simp
  have hres : V0.heap[w.heap.size]? = some (.cells #[.int .u8 0, .int .u8 0, .int .u8 0, .int .u8 0, .int .u8 0, .int .u8 0, .int .u8 0, .int .u8 0, .int .u8 0, .int .u8 0, .int .u8 0, .int .u8 0, .int .u8 0, .int .u8 0, .int .u8 0, .int .u8 0, .int .u8 0, .int .u8 0, .int .u8 0, .int .u8 0] 30 (0, 0)) := by rw [← hV0]; exact heap_alloc_new w _
  obtain ⟨V1, hV1⟩ : ∃ V1, V0.alloc (.cells #[.int .u32 1732584193, .int .u32 4023233417, .int .u32 2562383102, .int .u32 271733878, .int .u32 3285377520] tSt) = V1 := ⟨_, rfl⟩
  have g1 : Grew V0 V1 := by rw [← hV1]; exact (Below.refl _ _).alloc (Nat.le_refl _) _
  have hg1 : V1.heap.size = V0.heap.size + 1 := by rw [← hV1]; simp
  have hst1 : V1.heap[V0.heap.size]? = some (.cells (stCells (Pure.blocksS [] 0)).toArray tSt (0, 0)) := by rw [← hV1]; exact heap_alloc_new V0 _
  have hr1 := (hr.below g0 (Nat.le_refl _)).below g1 (Nat.le_refl _)
  have HR := Lib.hid hres
  have HST := Lib.hid hst1
  have hl0 : L.length ≤ 140737488355328 - 200 := by omega
  have hA0 := padA_zero L
  have hAs := padA_succ L
  have hAl := padA_len L
  have HA0 := Lib.hid hA0
  have HAs := Lib.hid hAs
  have HAl := Lib.hid hAl
  have HG0 := Lib.hid hg0
  have HG1 := Lib.hid hg1
  clear hA0 hAs hAl hres hst1 hg0 hg1
  go_enter Tryd.func21, Tryd.ntmps21
  go_wp2_with (at_builtin; refine wpList_append_B rfl _ _ rfl V1.heap.size _ [] L p cap rfl rfl (OwnB.nil _ _) hr1 (Nat.le_refl _) (by simp; omega) ?_)
  intro v1 W1 how1 hb1 hgb1
  obtain ⟨p1, c1, rfl, -, -, -⟩ := how1.val
  go_wp2_with (at_builtin; refine wpList_append_B rfl _ _ rfl V1.heap.size _ L [128] _ 1 rfl rfl (how1.below ((Below.refl _ _).alloc (Nat.le_refl _) _)) (Rd.one W1 128 _) (by have := hb1.size; simp; omega) (by simp; omega) ?_)
  intro v2 W2 how2 hb2 hgb2
  have gv2 : Grew V1 W2 := (Grew.trans' (show Grew V1 W1 from hb1) ((Below.refl _ _).alloc (Nat.le_refl _) _)).trans hb2
  rw [← HA0.out] at how2
  clear how1 hb1 hb2 hgb1 hgb2 HA0 hr hr1
  obtain ⟨B, hB⟩ : ∃ B, V1.heap.size = B := ⟨_, rfl⟩
  rw [hB] at how2
  have HB := Lib.hid hB
  clear hB
  go_wp2_with fail
  obtain ⟨N, hN⟩ : ∃ N, Pure.padN L.length = N := ⟨_, rfl⟩
  have hN64 : N < 64 := by rw [← hN]; unfold Pure.padN; omega
  have hends := pad_ends L.length
  rw [hN] at hends
  have HE := Lib.hid hends
  have HN := Lib.hid hN
  clear hN hends
  go_loopw [4] (fun v wr => ∃ j : Nat, j ≤ N ∧ OwnB wr B v (padA L j) ∧ Grew V1 wr) (fun v _ => (L.length + 1 + N) - slLen v)
  case atStart => exact ⟨0, by omega, how2, gv2⟩
  case round =>
    obtain ⟨j, hj, how, hgv⟩ := hrel
    obtain ⟨p3, c3, rfl, hr3, hlc3, hat3⟩ := how.val
    have hal := HAl.out j
    rw [hal] at hlc3 ⊢
    by_cases hjN : j < N
    · have hne : ¬ (((L.length + 1 + j : Nat) : Int) % 64 = 56) := by
        have := (HE.out j hj).1
        omega
      have hAs := HAs.out j
      have HAS := Lib.hid hAs
      have HAL := Lib.hid hal
      clear hr3 hat3 hal hAs how2 gv2
      go_wp2_with (at_builtin; refine wpList_append_B rfl _ _ rfl B _ (padA L j) [0] _ 1 (by rw [HAL.out]; rfl) rfl (how.below ((Below.refl _ _).alloc (Nat.le_refl _) _)) (Rd.one wr 0 _) (by have := hgv.size; have := HB.out; simp; omega) (by rw [HAL.out]; simp; omega) ?_)
      intro v5 W5 how5 hb5 hgb5
      have gv5 : Grew V1 W5 := (hgv.trans' ((Below.refl _ _).alloc (Nat.le_refl _) _)).trans (by rw [← HB.out] at hb5; exact hb5)
      rw [← HAS.out] at how5
      obtain ⟨p5, c5, rfl, hr5, hlc5, hat5⟩ := how5.val
      have hal5 := HAl.out (j + 1)
      have HAL5 := Lib.hid hal5
      clear hb5 hgb5 hr5 hat5 hal5
      go_wp2
      go_roundw
      case rel => exact ⟨j + 1, by omega, how5, gv5⟩
      case measure =>
        simp only [slLen]
        have := HAL5.out
        have := HAL.out
        omega
    · obtain rfl : j = N := by omega
      have heq : ((L.length + 1 + j : Nat) : Int) % 64 = 56 := by
        have := (HE.out j hj).2 rfl
        omega
      have hbne : (((L.length : Int) + 1 + (j : Int)) % 64 != 56) = false := by
        have := (HE.out j hj).2 rfl
        rw [bne_eq_false_iff_eq]
        omega
      have h0 : padB L 0 = padA L j := by rw [padB_zero, HN.out]
      have how0 := how
      rw [← h0] at how0
      have hps := padB_succ L
      have hpl := padB_len L
      rw [HN.out] at hpl
      have hpe := padB_last L
      have HP := Lib.hid hps
      have HPL := Lib.hid hpl
      have HPE := Lib.hid hpe
      have HH0 := Lib.hid h0
      have hsz0 : L.length + 1 + j = (padB L 0).length := by rw [h0, hal]
      have HSZ0 := Lib.hid hsz0
      clear hsz0 h0 hps hpl hpe hr3 hat3 hal how how2 gv2
      go_wp2_with fail
      go_loopw [4, 6] (fun v k wr => ∃ i : Nat, i ≤ 8 ∧ k = .int .i64 (7 - (i : Int)) ∧ OwnB wr B v (padB L i) ∧ Grew V1 wr) (fun _ k _ => (intOf k + 1).toNat)
      case atStart => exact ⟨0, by omega, rfl, by rw [HSZ0.out]; exact how0, hgv⟩
      case round =>
        obtain ⟨i, hi, rfl, how, hgv⟩ := hrel
        obtain ⟨p6, c6, rfl, hr6, hlc6, hat6⟩ := how.val
        have hpl := HPL.out i hi
        have hi9 : i = 0 ∨ i = 1 ∨ i = 2 ∨ i = 3 ∨ i = 4 ∨ i = 5 ∨ i = 6 ∨ i = 7 ∨ i = 8 := by omega
        have HI := Lib.hid hpl
        have hsz := hgv.size
        have hszB := HB.out
        by_cases hi8 : i < 8
        · have hps := HP.out i hi8
          obtain ⟨x, hx⟩ : ∃ x, UInt8.ofNat (L.length * 8 / 2 ^ (56 - 8 * i)) = x := ⟨_, rfl⟩
          have hxi : ∀ d : Nat, 2 ^ (56 - 8 * i) = d → ((L.length : Int) * 8 / (d : Int)) % 256 = (x.toNat : Int) := by
            intro d hd
            rw [hd] at hx
            rw [← hx, ← byte_of, Int.natCast_ediv]
            rfl
          rw [hx] at hps
          have HPS := Lib.hid hps
          have HXI := Lib.hid hxi
          have hpl2 : (padB L i).length ≤ 1099511627776 + 200 := by omega
          clear hps hx hxi hr6 hat6 hpl how0
          rcases hi9 with rfl | rfl | rfl | rfl | rfl | rfl | rfl | rfl | rfl
          · have hv : ((L.length : Int) * 8 / 72057594037927936) % 256 = (x.toNat : Int) := HXI.out 72057594037927936 rfl
            go_wp2_with (at_builtin; refine wpList_append_B rfl _ _ rfl B _ (padB L 0) [x] _ 1 rfl rfl (how.below ((Below.refl _ _).alloc (Nat.le_refl _) _)) (Rd.oneZ wr _ x _ (by clear hpl2; omega)) (by simp; omega) (by simp; omega) ?_)
            intro v7 W7 how7 hb7 hgb7
            have gv7 : Grew V1 W7 := (hgv.trans' ((Below.refl _ _).alloc (Nat.le_refl _) _)).trans (by rw [← HB.out] at hb7; exact hb7)
            rw [← HPS.out] at how7
            clear hb7 hgb7
            go_wp2
            go_roundw
            case rel => exact ⟨1, by omega, by rfl, how7, gv7⟩
            case measure => simp [intOf]
          · have hv : ((L.length : Int) * 8 / 281474976710656) % 256 = (x.toNat : Int) := HXI.out 281474976710656 rfl
            go_wp2_with (at_builtin; refine wpList_append_B rfl _ _ rfl B _ (padB L 1) [x] _ 1 rfl rfl (how.below ((Below.refl _ _).alloc (Nat.le_refl _) _)) (Rd.oneZ wr _ x _ (by clear hpl2; omega)) (by simp; omega) (by simp; omega) ?_)
            intro v7 W7 how7 hb7 hgb7
            have gv7 : Grew V1 W7 := (hgv.trans' ((Below.refl _ _).alloc (Nat.le_refl _) _)).trans (by rw [← HB.out] at hb7; exact hb7)
            rw [← HPS.out] at how7
            clear hb7 hgb7
            go_wp2
            go_roundw
            case rel => exact ⟨2, by omega, by rfl, how7, gv7⟩
            case measure => simp [intOf]
          · have hv : ((L.length : Int) * 8 / 1099511627776) % 256 = (x.toNat : Int) := HXI.out 1099511627776 rfl
            go_wp2_with (at_builtin; refine wpList_append_B rfl _ _ rfl B _ (padB L 2) [x] _ 1 rfl rfl (how.below ((Below.refl _ _).alloc (Nat.le_refl _) _)) (Rd.oneZ wr _ x _ (by clear hpl2; omega)) (by simp; omega) (by simp; omega) ?_)
            intro v7 W7 how7 hb7 hgb7
            have gv7 : Grew V1 W7 := (hgv.trans' ((Below.refl _ _).alloc (Nat.le_refl _) _)).trans (by rw [← HB.out] at hb7; exact hb7)
            rw [← HPS.out] at how7
            clear hb7 hgb7
            go_wp2
            go_roundw
            case rel => exact ⟨3, by omega, by rfl, how7, gv7⟩
            case measure => simp [intOf]
          · have hv : ((L.length : Int) * 8 / 4294967296) % 256 = (x.toNat : Int) := HXI.out 4294967296 rfl
            go_wp2_with (at_builtin; refine wpList_append_B rfl _ _ rfl B _ (padB L 3) [x] _ 1 rfl rfl (how.below ((Below.refl _ _).alloc (Nat.le_refl _) _)) (Rd.oneZ wr _ x _ (by clear hpl2; omega)) (by simp; omega) (by simp; omega) ?_)
            intro v7 W7 how7 hb7 hgb7
            have gv7 : Grew V1 W7 := (hgv.trans' ((Below.refl _ _).alloc (Nat.le_refl _) _)).trans (by rw [← HB.out] at hb7; exact hb7)
            rw [← HPS.out] at how7
            clear hb7 hgb7
            go_wp2
            go_roundw
            case rel => exact ⟨4, by omega, by rfl, how7, gv7⟩
            case measure => simp [intOf]
          · have hv : ((L.length : Int) * 8 / 16777216) % 256 = (x.toNat : Int) := HXI.out 16777216 rfl
            go_wp2_with (at_builtin; refine wpList_append_B rfl _ _ rfl B _ (padB L 4) [x] _ 1 rfl rfl (how.below ((Below.refl _ _).alloc (Nat.le_refl _) _)) (Rd.oneZ wr _ x _ (by clear hpl2; omega)) (by simp; omega) (by simp; omega) ?_)
            intro v7 W7 how7 hb7 hgb7
            have gv7 : Grew V1 W7 := (hgv.trans' ((Below.refl _ _).alloc (Nat.le_refl _) _)).trans (by rw [← HB.out] at hb7; exact hb7)
            rw [← HPS.out] at how7
            clear hb7 hgb7
            go_wp2
            go_roundw
            case rel => exact ⟨5, by omega, by rfl, how7, gv7⟩
            case measure => simp [intOf]
          · have hv : ((L.length : Int) * 8 / 65536) % 256 = (x.toNat : Int) := HXI.out 65536 rfl
            go_wp2_with (at_builtin; refine wpList_append_B rfl _ _ rfl B _ (padB L 5) [x] _ 1 rfl rfl (how.below ((Below.refl _ _).alloc (Nat.le_refl _) _)) (Rd.oneZ wr _ x _ (by clear hpl2; omega)) (by simp; omega) (by simp; omega) ?_)
            intro v7 W7 how7 hb7 hgb7
            have gv7 : Grew V1 W7 := (hgv.trans' ((Below.refl _ _).alloc (Nat.le_refl _) _)).trans (by rw [← HB.out] at hb7; exact hb7)
            rw [← HPS.out] at how7
            clear hb7 hgb7
            go_wp2
            go_roundw
            case rel => exact ⟨6, by omega, by rfl, how7, gv7⟩
            case measure => simp [intOf]
          · have hv : ((L.length : Int) * 8 / 256) % 256 = (x.toNat : Int) := HXI.out 256 rfl
            go_wp2_with (at_builtin; refine wpList_append_B rfl _ _ rfl B _ (padB L 6) [x] _ 1 rfl rfl (how.below ((Below.refl _ _).alloc (Nat.le_refl _) _)) (Rd.oneZ wr _ x _ (by clear hpl2; omega)) (by simp; omega) (by simp; omega) ?_)
            intro v7 W7 how7 hb7 hgb7
            have gv7 : Grew V1 W7 := (hgv.trans' ((Below.refl _ _).alloc (Nat.le_refl _) _)).trans (by rw [← HB.out] at hb7; exact hb7)
            rw [← HPS.out] at how7
            clear hb7 hgb7
            go_wp2
            go_roundw
            case rel => exact ⟨7, by omega, by rfl, how7, gv7⟩
            case measure => simp [intOf]
          · have hv : ((L.length : Int) * 8 / 1) % 256 = (x.toNat : Int) := HXI.out 1 rfl
            go_wp2_with (at_builtin; refine wpList_append_B rfl _ _ rfl B _ (padB L 7) [x] _ 1 rfl rfl (how.below ((Below.refl _ _).alloc (Nat.le_refl _) _)) (Rd.oneZ wr _ x _ (by clear hpl2; omega)) (by simp; omega) (by simp; omega) ?_)
            intro v7 W7 how7 hb7 hgb7
            have gv7 : Grew V1 W7 := (hgv.trans' ((Below.refl _ _).alloc (Nat.le_refl _) _)).trans (by rw [← HB.out] at hb7; exact hb7)
            rw [← HPS.out] at how7
            clear hb7 hgb7
            go_wp2
            go_roundw
            case rel => exact ⟨8, by omega, by rfl, how7, gv7⟩
            case measure => simp [intOf]
          · omega
        · obtain rfl : i = 8 := by omega
          have hlast := HPE.out
          rw [hlast] at how
          have hpl8 : (Pure.padded L).length ≤ 1099511627776 + 200 := by rw [← hlast]; omega
          have hlenM : (padB L 8).length = (Pure.padded L).length := by rw [hlast]
          have hposM : 0 < (Pure.padded L).length := by rw [← hlast]; omega
          have hmod := Pure.padded_len L
          have hsum : Pure.sumS L = (List.range 20).map (Pure.byteS (Pure.blocksS (Pure.padded L) ((Pure.padded L).length / 64))) := rfl
          obtain ⟨b, o, c7, hv7, hlc7, hBb, hbw, hcell⟩ := how.at hposM
          simp only [Value.slice.injEq] at hv7
          obtain ⟨rfl, -, rfl⟩ := hv7
          rw [hlenM]
          obtain ⟨M, hM⟩ : ∃ M, Pure.padded L = M := ⟨_, rfl⟩
          rw [hM] at hpl8 hposM hmod hsum hcell hlc7 ⊢
          have HSUM := Lib.hid hsum
          have hbs : ∀ k, Pure.blocksS M (k + 1) = Pure.blockS (Pure.blocksS M k) ((M.drop (64 * k)).take 64) := fun k => rfl
          have HBS := Lib.hid hbs
          have hcap7 := how.cap
          obtain ⟨nM, hnM⟩ : ∃ nM, M.length = nM := ⟨_, rfl⟩
          obtain ⟨nb, hnb⟩ : ∃ nb, M.length / 64 = nb := ⟨_, rfl⟩
          have hM64 : nM = 64 * nb := by omega
          rw [hnb] at HSUM
          rw [hnM] at hpl8 hposM hmod hlc7 hcell ⊢
          have HNM := Lib.hid hnM
          obtain ⟨gH, hgH⟩ : ∃ g, V0.heap.size = g := ⟨_, rfl⟩
          have hst0 : wr.heap[gH]? = some (.cells (stCells (Pure.blocksS M 0)).toArray tSt (0, 0)) := by rw [← hgH]; exact (hgv.block V0.heap.size (by have := HG1.out; omega)).trans HST.out
          have hgm : Grew V0 wr := g1.trans' hgv
          have hbH : b ≠ gH := by have := HB.out; have := HG1.out; omega
          have hgH0 : V0.heap.size ≤ gH := by omega
          rw [show ((7 : Int) - ((8 : Nat) : Int)) = -1 by rfl]
          clear hM hsum hlenM hlast how how0 hr6 hat6 hpl hi9 hbs hmod hnb hnM hlc6
          go_wp2_with fail
          rw [hgH]
          have HGH := Lib.hid hgH
          have hcell0 : ∀ i, i < nM → wr.cell? ⟨b, o + i, none⟩ = some (.int .u8 ((M.getD i 0).toNat : Int)) := hcell
          have hlH : gH < wr.heap.size := (Array.getElem?_eq_some_iff.1 hst0).1
          have HM64 := Lib.hid hM64
          clear hgH hcell hM64
          go_loopw [7] (fun x wr => ∃ k A : Nat, A = 64 * k ∧ k ≤ nb ∧ x = .int .i64 (A : Int) ∧ Grew V0 wr ∧ wr.heap[gH]? = some (.cells (stCells (Pure.blocksS M k)).toArray tSt (0, 0)) ∧ b < wr.heap.size ∧ ∀ i, i < nM → wr.cell? ⟨b, o + i, none⟩ = some (.int .u8 ((M.getD i 0).toNat : Int))) (fun x _ => nM - (intOf x).toNat)
          case atStart => exact ⟨0, 0, by omega, by omega, rfl, hgm, hst0, hbw, hcell0⟩
          case round =>
            obtain ⟨k, A, hA64, hk, rfl, hgw, hblk, hbw2, hcl⟩ := hrel
            clear hgm hst0 hbw hcell0 hlH hgv
            obtain ⟨wo, rfl⟩ : ∃ wo, wo = wr := ⟨_, rfl⟩
            have hM64 := HM64.out
            by_cases hkn : k < nb
            · skip
              have hAn : (A : Int) < (nM : Int) := by omega
              have hAd : decide ((A : Int) < (nM : Int)) = true := decide_eq_true hAn
              have hbk := HBS.out k
              obtain ⟨s, hs⟩ : ∃ s, Pure.blocksS M k = s := ⟨_, rfl⟩
              rw [hs] at hblk hbk
              obtain ⟨m, hm⟩ : ∃ m, (M.drop (64 * k)).take 64 = m := ⟨_, rfl⟩
              rw [hm] at hbk
              obtain ⟨s2, hs2⟩ : ∃ s2, Pure.blocksS M (k + 1) = s2 := ⟨_, rfl⟩
              rw [hs2] at hbk
              have HBK := Lib.hid hbk
              have HS2 := Lib.hid hs2
              have hml : m.length = 64 := by rw [← hm]; simp; have := HNM.out; omega
              have hmc : ∀ j, j < 64 → wo.cell? ⟨b, o + (A + j), none⟩ = some (.int .u8 ((m.getD j 0).toNat : Int)) := by
                intro j hj
                rw [hcl (A + j) (by omega), ← hm]
                simp [List.getD_eq_getElem?_getD, List.getElem?_take, List.getElem?_drop, hj, hA64]
              have HML := Lib.hid hml
              have HMC := Lib.hid hmc
              have HCL := Lib.hid hcl
              have hlH := (Array.getElem?_eq_some_iff.1 hblk).1
              obtain ⟨gW, hgW⟩ : ∃ g, wo.heap.size = g := ⟨_, rfl⟩
              have hW0 : (wo.alloc (.cells Tryd.zeroCells62 tW80)).heap[gW]? = some (.cells (arr80 m 0).toArray tW80 (0, 0)) := by rw [← hgW, ← zero80 m]; exact heap_alloc_new wo _
              have gW0 : Grew wo (wo.alloc (.cells Tryd.zeroCells62 tW80)) := (Below.refl _ _).alloc (Nat.le_refl _) _
              have hgWle : wo.heap.size ≤ gW := by omega
              have HBLK := Lib.hid hblk
              have hbW : b < gW := by omega
              have hHW : gH < gW := by omega
              have HA64 := Lib.hid hA64
              clear hbk hs hs2 hm hml hmc hcl hblk hA64 hM64
              go_wp2_with fail
              have HGW := Lib.hid hgW
              clear hgW
              go_loopw [9] (fun x wr => ∃ t : Nat, t ≤ 80 ∧ x = .int .i64 (t : Int) ∧ Grew wo wr ∧ wr.heap[gW]? = some (.cells (arr80 m t).toArray tW80 (0, 0))) (fun x _ => 80 - (intOf x).toNat)
              case atStart => exact ⟨0, by omega, rfl, gW0, hW0⟩
              case round =>
                obtain ⟨t, ht, rfl, hgt, hrowW⟩ := hrel
                clear hW0 gW0
                by_cases ht80 : t < 80
                · have f1 : decide ((t : Int) < 80) = true := decide_eq_true (by omega)
                  have i80 : (t : Int) < 80 := by omega
                  have dW : wr.drew.heap[gW]? = some (.cells (arr80 m t).toArray tW80 (0, 0)) := hrowW
                  have hgtd : Grew wo wr.drew := hgt.drew
                  by_cases ht16 : t < 16
                  · have f2 : decide ((t : Int) < 16) = true := decide_eq_true (by omega)
                    obtain ⟨P, hP⟩ : ∃ P, A + 4 * t = P := ⟨_, rfl⟩
                    have hPi : (A : Int) + 4 * (t : Int) = (P : Int) := by omega
                    have hcc : ∀ j, j < 4 → wr.drew.cell? ⟨b, o + (P + j), none⟩ = some (.int .u8 (((m.drop (4 * t)).getD j 0).toNat : Int)) := by
                      intro j hj
                      have h1 := (hgtd.cell (p := ⟨b, o + (A + (4 * t + j)), none⟩) hbw2).trans (HMC.out (4 * t + j) (by omega))
                      rw [show o + (P + j) = o + (A + (4 * t + j)) by omega, h1]
                      simp [List.getD_eq_getElem?_getD, List.getElem?_drop]
                    have hnx := Pure.sched_lo m t ht16
                    obtain ⟨x, hx⟩ : ∃ x, Pure.word4 (m.drop (4 * t)) = x := ⟨_, rfl⟩
                    rw [hx] at hnx
                    have hset := arr80_next m t ht80 x hnx
                    have hxv := hx
                    unfold Pure.word4 at hxv
                    have c0 := hcc 0 (by omega)
                    have c1' := hcc 1 (by omega)
                    have c2' := hcc 2 (by omega)
                    have c3' := hcc 3 (by omega)
                    rw [Nat.add_zero] at c0
                    generalize (m.drop (4 * t)).getD 0 0 = x0 at *
                    generalize (m.drop (4 * t)).getD 1 0 = x1 at *
                    generalize (m.drop (4 * t)).getD 2 0 = x2 at *
                    generalize (m.drop (4 * t)).getD 3 0 = x3 at *
                    have hwv := word_val x0 x1 x2 x3
                    have hxv2 : (x0.toUInt32 <<< 24 ||| x1.toUInt32 <<< 16 ||| x2.toUInt32 <<< 8 ||| x3.toUInt32) = x := hxv
                    rw [hxv2] at hwv
                    have hA64 := HA64.out
                    have hM64 := HM64.out
                    have i0 : (P : Int) < (nM : Int) := by omega
                    have i1 : (P : Int) + 1 < (nM : Int) := by omega
                    have i2 : (P : Int) + 2 < (nM : Int) := by omega
                    have i3 : (P : Int) + 3 < (nM : Int) := by omega
                    have w1 : IntKind.i64.wrap ((P : Int) + 1) = (P : Int) + 1 := IntWalk.i64_in _ (by omega)
                    have w2 : IntKind.i64.wrap ((P : Int) + 2) = (P : Int) + 2 := IntWalk.i64_in _ (by omega)
                    have w3 : IntKind.i64.wrap ((P : Int) + 3) = (P : Int) + 3 := IntWalk.i64_in _ (by omega)
                    have j1 : (0 : Int) ≤ (P : Int) + 1 := by omega
                    have j2 : (0 : Int) ≤ (P : Int) + 2 := by omega
                    have j3 : (0 : Int) ≤ (P : Int) + 3 := by omega
                    have n1 : ((P : Int) + 1).toNat = P + 1 := by omega
                    have n2 : ((P : Int) + 2).toNat = P + 2 := by omega
                    have n3 : ((P : Int) + 3).toNat = P + 3 := by omega
                    obtain ⟨v0, hv0⟩ : ∃ v, (arr80 m t)[t]? = some v := ⟨_, List.getElem?_eq_getElem (by rw [arr80_len m _ ht]; exact ht80)⟩
                    have hck : wr.drew.cell? ⟨gW, t, none⟩ = some v0 := by rw [cell_of_row wr.drew gW _ _ _ (0, 0) dW]; simpa using hv0
                    have hfk : wr.drew.frozen? ⟨gW, t, none⟩ = false := by simp [World.frozen?, dW]
                    have hset2 := set_cell_any wr.drew gW t _ _ _ (u32V x) dW
                    rw [hset] at hset2
                    have hgrow : Grew wo (wr.drew.setCell ⟨gW, t, none⟩ (u32V x)) := hgtd.setCell (p := ⟨gW, t, none⟩) hgWle _
                    have HSET := Lib.hid hset2
                    clear hA64 hM64
                    clear hset hset2 hnx hx hxv hxv2 hcc hv0 hrowW dW hgt
                    go_wp2_with fail
                    refine wp_region_still_tail 31 (by kernel_rfl) (by kernel_rfl) ?_
                    simp only [List.take_succ_cons, List.take_zero, List.drop_succ_cons, List.drop_zero]
                    change wpStill _ _ wr.drew _ _ _
                    repeat still_step
                    refine wpStill_nil ?_
                    change wpList _ _ _ _ _ wr.drew
                    clear hwv c0 c1' c2' c3'
                    generalize wr.drew = wd at *
                    go_wp2
                    go_roundw
                    case rel => exact ⟨t + 1, by omega, by go_num, hgrow, HSET.out⟩
                    case measure => simp [intOf]; omega
                  · obtain ⟨q, rfl⟩ : ∃ q, t = q + 16 := ⟨t - 16, by omega⟩
                    have f2 : decide (((q + 16 : Nat) : Int) < 16) = false := decide_eq_false (by omega)
                    have f2' : decide ((q : Int) + 16 < 16) = false := decide_eq_false (by omega)
                    have f1' : decide ((q : Int) + 16 < 80) = true := decide_eq_true (by omega)
                    have hnx := Pure.sched_hi m (q + 16) ht16
                    rw [show q + 16 - 3 = q + 13 by omega, show q + 16 - 8 = q + 8 by omega, show q + 16 - 14 = q + 2 by omega, show q + 16 - 16 = q by omega] at hnx
                    have hc : ∀ j, j < q + 16 → wr.drew.cell? ⟨gW, j, none⟩ = some (u32V ((Pure.sched m (q + 16)).getD j 0)) := by
                      intro j hj
                      rw [cell_of_row wr.drew gW j _ _ (0, 0) dW]
                      simpa using arr80_get m (q + 16) j hj
                    obtain ⟨x3, h3⟩ : ∃ x, (Pure.sched m (q + 16)).getD (q + 13) 0 = x := ⟨_, rfl⟩
                    obtain ⟨x8, h8⟩ : ∃ x, (Pure.sched m (q + 16)).getD (q + 8) 0 = x := ⟨_, rfl⟩
                    obtain ⟨x14, h14⟩ : ∃ x, (Pure.sched m (q + 16)).getD (q + 2) 0 = x := ⟨_, rfl⟩
                    obtain ⟨x16, h16⟩ : ∃ x, (Pure.sched m (q + 16)).getD q 0 = x := ⟨_, rfl⟩
                    rw [h3, h8, h14, h16] at hnx
                    obtain ⟨y1, hy1⟩ : ∃ y, x3 ^^^ x8 = y := ⟨_, rfl⟩
                    obtain ⟨y2, hy2⟩ : ∃ y, y1 ^^^ x14 = y := ⟨_, rfl⟩
                    obtain ⟨y3, hy3⟩ : ∃ y, y2 ^^^ x16 = y := ⟨_, rfl⟩
                    obtain ⟨y, hy⟩ : ∃ y, Pure.rotl y3 (UInt32.ofNat 1) = y := ⟨_, rfl⟩
                    have e1 := w_xor x3 x8
                    rw [hy1] at e1
                    have e2 := w_xor y1 x14
                    rw [hy2] at e2
                    have e3 := w_xor y2 x16
                    rw [hy3] at e3
                    rw [hy1, hy2, hy3, show Pure.rotl y3 1 = y from hy] at hnx
                    have cL : ∀ W, Calls Tryd.prog 33 #[.int .u32 (y3.toNat : Int), .int .i64 1] W fun e w' => e = .returned (u32V (Pure.rotl y3 (UInt32.ofNat 1))) ∧ w' = W := fun W => (ref_left y3 1 (.inl rfl) W).mono fun _ _ h => ⟨h.1, h.2.symm⟩
                    rw [hy] at cL
                    have c3' := hc (q + 13) (by omega)
                    have c8 := hc (q + 8) (by omega)
                    have c14 := hc (q + 2) (by omega)
                    have c16 := hc q (by omega)
                    rw [h3] at c3'
                    rw [h8] at c8
                    rw [h14] at c14
                    rw [h16] at c16
                    have hset := arr80_next m (q + 16) ht80 y hnx
                    have hset2 := set_cell_any wr.drew gW (q + 16) _ _ _ (u32V y) dW
                    rw [hset] at hset2
                    have hgrow : Grew wo (wr.drew.setCell ⟨gW, q + 16, none⟩ (u32V y)) := hgtd.setCell (p := ⟨gW, q + 16, none⟩) hgWle _
                    obtain ⟨v0, hv0⟩ : ∃ v, (arr80 m (q + 16))[q + 16]? = some v := ⟨_, List.getElem?_eq_getElem (by rw [arr80_len m _ ht]; exact ht80)⟩
                    have hck : wr.drew.cell? ⟨gW, q + 16, none⟩ = some v0 := by rw [cell_of_row wr.drew gW _ _ _ (0, 0) dW]; simpa using hv0
                    have hfk : wr.drew.frozen? ⟨gW, q + 16, none⟩ = false := by simp [World.frozen?, dW]
                    have i13 : (q : Int) + 13 < 80 := by omega
                    have i8 : (q : Int) + 8 < 80 := by omega
                    have i2 : (q : Int) + 2 < 80 := by omega
                    have i0 : (q : Int) < 80 := by omega
                    have i16 : (q : Int) + 16 < 80 := by omega
                    have s3 : (q : Int) + 16 - 3 = (q : Int) + 13 := by omega
                    have s8 : (q : Int) + 16 - 8 = (q : Int) + 8 := by omega
                    have s14 : (q : Int) + 16 - 14 = (q : Int) + 2 := by omega
                    have w13 : IntKind.i64.wrap ((q : Int) + 13) = (q : Int) + 13 := IntWalk.i64_in _ (by omega)
                    have w8 : IntKind.i64.wrap ((q : Int) + 8) = (q : Int) + 8 := IntWalk.i64_in _ (by omega)
                    have w2 : IntKind.i64.wrap ((q : Int) + 2) = (q : Int) + 2 := IntWalk.i64_in _ (by omega)
                    have w0 : IntKind.i64.wrap (q : Int) = (q : Int) := IntWalk.i64_in _ (by omega)
                    have j13 : (0 : Int) ≤ (q : Int) + 13 := by omega
                    have n13 : ((q : Int) + 13).toNat = q + 13 := by omega
                    have j8 : (0 : Int) ≤ (q : Int) + 8 := by omega
                    have n8 : ((q : Int) + 8).toNat = q + 8 := by omega
                    have j2 : (0 : Int) ≤ (q : Int) + 2 := by omega
                    have n2 : ((q : Int) + 2).toNat = q + 2 := by omega
                    have j16 : (0 : Int) ≤ (q : Int) + 16 := by omega
                    have n16 : ((q : Int) + 16).toNat = q + 16 := by omega
                    have HSET := Lib.hid hset2
                    clear hset hset2 hnx hc h3 h8 h14 h16 hy1 hy2 hy3 hy hv0 hrowW dW hgt
                    go_wp2_with fail
                    refine wp_region_still_tail 22 (by kernel_rfl) (by kernel_rfl) ?_
                    simp only [List.take_succ_cons, List.take_zero, List.drop_succ_cons, List.drop_zero]
                    change wpStill _ _ wr.drew _ _ _
                    repeat still_step
                    still_call (cL _)
                    repeat still_step
                    refine wpStill_nil ?_
                    change wpList _ _ _ _ _ wr.drew
                    clear c3' c8 c14 c16 cL
                    generalize wr.drew = wd at *
                    go_wp2
                    go_roundw
                    case rel => exact ⟨q + 16 + 1, by omega, by go_num, hgrow, HSET.out⟩
                    case measure => simp [intOf]; omega
                · obtain rfl : t = 80 := by omega
                  obtain ⟨wb, rfl⟩ : ∃ wb, wb = wr := ⟨_, rfl⟩
                  have hblkB := (hgt.block gH (by have := HGW.out; omega)).trans HBLK.out
                  have hrow := range_row hblkB
                  simp only [List.toList_toArray] at hrow
                  have h80 : arr80 m 80 = wCells (Pure.sched m 80) := by unfold arr80; simp
                  rw [h80] at hrowW
                  obtain ⟨ws, hws⟩ : ∃ ws, Pure.sched m 80 = ws := ⟨_, rfl⟩
                  have hwl : ws.length = 80 := by rw [← hws]; exact Pure.sched_len m 80
                  rw [hws] at hrowW
                  have hbk := HBK.out
                  have hbk2 : s2 = Pure.addS s (Pure.roundsS ws 80 s) := by rw [hbk, ← hws]; rfl
                  have HBK2 := Lib.hid hbk2
                  have nfS := infoSt s
                  have one1 := stCells_one s
                  have hcw : ∀ t, t < 80 → wb.cell? ⟨gW, t, none⟩ = some (u32V (ws.getD t 0)) := by
                    intro t ht
                    rw [cell_of_row wb gW t _ _ (0, 0) hrowW]
                    unfold wCells
                    rw [List.getElem?_toArray, List.getElem?_map, List.getD_eq_getElem?_getD, List.getElem?_eq_getElem (by omega)]
                    rfl
                  have hWlt : gW < wb.heap.size := (Array.getElem?_eq_some_iff.1 hrowW).1
                  have HCW := Lib.hid hcw
                  have hgs := hgt.size
                  have HGWO := HGW.out
                  have HWO : wo.heap.size ≤ wb.heap.size := hgs
                  clear hcw hbk2 hbk hws h80 hgs
                  go_wp2_with (first | (refine wpList_load_mid rfl tSt _ rfl gH 0 rfl (stCells s) _ hrow Tryd.underlying61 rfl nfS ?_) | (refine wpList_store_newS rfl tSt _ _ rfl wb _ rfl (stCells s) rfl rfl rfl nfS one1 ?_; intro V3 g23 hA3))
                  obtain ⟨gV, hgV⟩ : ∃ g, wb.heap.size = g := ⟨_, rfl⟩
                  rw [hgV] at hA3 ⊢
                  have hWV : gW < gV := by omega
                  have hVb : wb.heap.size ≤ gV := by omega
                  have HGV := Lib.hid hgV
                  clear hgV hrow one1 nfS hrowW
                  go_loopw [12] (fun x wr => ∃ t : Nat, t ≤ 80 ∧ x = .int .i64 (t : Int) ∧ Grew wb wr ∧ wr.heap[gV]? = some (.cells (stCells (Pure.roundsS ws t s)).toArray tSt (0, 0))) (fun x _ => 80 - (intOf x).toNat)
                  case atStart => exact ⟨0, by omega, rfl, g23, hA3⟩
                  case round =>
                    obtain ⟨t, ht, rfl, hgt2, hblk⟩ := hrel
                    clear g23 hA3
                    by_cases ht80 : t < 80
                    · skip
                      have f1 : decide ((t : Int) < 80) = true := decide_eq_true (by omega)
                      have i80 : (t : Int) < 80 := by omega
                      have hx0 := (hgt2.cell (p := ⟨gW, t, none⟩) hWlt).trans (HCW.out t ht80)
                      obtain ⟨x, hx⟩ : ∃ x, ws.getD t 0 = x := ⟨_, rfl⟩
                      rw [hx] at hx0
                      have hnext : Pure.roundsS ws (t + 1) s = Pure.roundS t (ws.getD t 0) (Pure.roundsS ws t s) := rfl
                      rw [hx] at hnext
                      obtain ⟨⟨va, vb, vc, vd, ve⟩, hS⟩ : ∃ y, Pure.roundsS ws t s = y := ⟨_, rfl⟩
                      rw [hS] at hblk hnext
                      have HN2 := Lib.hid hnext
                      clear hnext hS hx
                      have q0 : wr.cell? ⟨gV, 0, none⟩ = some (u32V va) := by rw [cell_of_row wr gV 0 _ _ (0, 0) hblk]; rfl
                      have q1 : wr.cell? ⟨gV, 1, none⟩ = some (u32V vb) := by rw [cell_of_row wr gV 1 _ _ (0, 0) hblk]; rfl
                      have q2 : wr.cell? ⟨gV, 2, none⟩ = some (u32V vc) := by rw [cell_of_row wr gV 2 _ _ (0, 0) hblk]; rfl
                      have q3 : wr.cell? ⟨gV, 3, none⟩ = some (u32V vd) := by rw [cell_of_row wr gV 3 _ _ (0, 0) hblk]; rfl
                      have q4 : wr.cell? ⟨gV, 4, none⟩ = some (u32V ve) := by rw [cell_of_row wr gV 4 _ _ (0, 0) hblk]; rfl
                      have d0 : wr.drew.cell? ⟨gV, 0, none⟩ = some (u32V va) := q0
                      have d1 : wr.drew.cell? ⟨gV, 1, none⟩ = some (u32V vb) := q1
                      have d4 : wr.drew.cell? ⟨gV, 4, none⟩ = some (u32V ve) := q4
                      have dx : wr.drew.cell? ⟨gW, t, none⟩ = some (u32V x) := hx0
                      have b0 : wr.drew.drew.cell? ⟨gV, 0, none⟩ = some (u32V va) := q0
                      have b1 : wr.drew.drew.cell? ⟨gV, 1, none⟩ = some (u32V vb) := q1
                      have b2 : wr.drew.drew.cell? ⟨gV, 2, none⟩ = some (u32V vc) := q2
                      have b3 : wr.drew.drew.cell? ⟨gV, 3, none⟩ = some (u32V vd) := q3
                      have hblk2 : wr.drew.drew.heap[gV]? = some (.cells (stCells ⟨va, vb, vc, vd, ve⟩).toArray tSt (0, 0)) := hblk
                      have hb2 : Grew wb wr.drew.drew := hgt2.drew.drew
                      have cL5 : ∀ W, Calls Tryd.prog 33 #[.int .u32 (va.toNat : Int), .int .i64 5] W fun e w' => e = .returned (u32V (Pure.rotl va (UInt32.ofNat 5))) ∧ w' = W := fun W => (ref_left va 5 (.inr (.inl rfl)) W).mono fun _ _ h => ⟨h.1, h.2.symm⟩
                      have cL30 : ∀ W, Calls Tryd.prog 33 #[.int .u32 (vb.toNat : Int), .int .i64 30] W fun e w' => e = .returned (u32V (Pure.rotl vb (UInt32.ofNat 30))) ∧ w' = W := fun W => (ref_left vb 30 (.inr (.inr rfl)) W).mono fun _ _ h => ⟨h.1, h.2.symm⟩
                      have cM := fun W => ref_mix t vb vc vd W
                      obtain ⟨r5, hr5⟩ : ∃ y, Pure.rotl va (UInt32.ofNat 5) = y := ⟨_, rfl⟩
                      obtain ⟨r30, hr30⟩ : ∃ y, Pure.rotl vb (UInt32.ofNat 30) = y := ⟨_, rfl⟩
                      obtain ⟨f, hf⟩ : ∃ y, (Pure.mixP t vb vc vd).1 = y := ⟨_, rfl⟩
                      obtain ⟨kk, hkk⟩ : ∃ y, (Pure.mixP t vb vc vd).2 = y := ⟨_, rfl⟩
                      rw [hr5] at cL5
                      rw [hr30] at cL30
                      rw [hf, hkk] at cM
                      obtain ⟨s1, hs1'⟩ : ∃ y, r5 + f = y := ⟨_, rfl⟩
                      obtain ⟨u2, hu2'⟩ : ∃ y, s1 + ve = y := ⟨_, rfl⟩
                      obtain ⟨s3, hs3'⟩ : ∃ y, u2 + kk = y := ⟨_, rfl⟩
                      obtain ⟨tt, htt'⟩ : ∃ y, s3 + x = y := ⟨_, rfl⟩
                      have a1 := w_add r5 f
                      have a2 := w_add s1 ve
                      have a3 := w_add u2 kk
                      have a4 := w_add s3 x
                      rw [hs1'] at a1
                      rw [hu2'] at a2
                      rw [hs3'] at a3
                      rw [htt'] at a4
                      have hfin : Pure.roundS t x ⟨va, vb, vc, vd, ve⟩ = ⟨tt, va, r30, vc, vd⟩ := by
                        unfold Pure.roundS
                        show (⟨Pure.rotl va 5 + (Pure.mixP t vb vc vd).1 + ve + (Pure.mixP t vb vc vd).2 + x, va, Pure.rotl vb 30, vc, vd⟩ : Pure.St) = _
                        rw [hf, hkk, show Pure.rotl va 5 = r5 from hr5, show Pure.rotl vb 30 = r30 from hr30, hs1', hu2', hs3', htt']
                      have HF := Lib.hid hfin
                      clear hfin hf hkk hs1' hu2' hs3' htt' hr5 hr30
                      go_wp2_with (go_at_call 34; with_reducible refine (cM _).mono ?_)
                      rintro e1 W1 ⟨rfl, rfl⟩
                      go_wp2
                      refine wp_region_still_lit (by kernel_rfl) (by kernel_rfl) ?_
                      change wpStill _ _ wr.drew _ _ _
                      repeat still_step
                      still_call (cL5 _)
                      repeat still_step
                      refine wpStill_nil ?_
                      go_wp2
                      refine wp_region_still_tail 11 (by kernel_rfl) (by kernel_rfl) ?_
                      simp only [List.take_succ_cons, List.take_zero, List.drop_succ_cons, List.drop_zero]
                      change wpStill _ _ wr.drew.drew _ _ _
                      repeat still_step
                      still_call (cL30 _)
                      repeat still_step
                      refine wpStill_nil ?_
                      change wpList _ _ _ _ _ wr.drew.drew
                      have hset := setRow_heap wr.drew.drew gV _ (stCells ⟨tt, va, r30, vc, vd⟩).toArray tSt (0, 0) hblk2
                      have hgr := below_setRow hb2 (g := gV) hVb (stCells ⟨tt, va, r30, vc, vd⟩).toArray
                      have nf5 : (Tryd.prog.info? tSt).map (·.size) = some (stCells ⟨tt, va, r30, vc, vd⟩).toArray.size := infoSt ⟨tt, va, r30, vc, vd⟩
                      have hs5 : (stCells ⟨va, vb, vc, vd, ve⟩).toArray.size = (stCells ⟨tt, va, r30, vc, vd⟩).toArray.size := rfl
                      have ho5 := all_oneCell_toArray (stCells_one ⟨tt, va, r30, vc, vd⟩)
                      go_wp2_with (refine wpList_store_row rfl tSt _ _ rfl gV (stCells ⟨tt, va, r30, vc, vd⟩).toArray rfl rfl tSt _ hblk2 nf5 hs5 ho5 ?_)
                      go_roundw
                      case rel => exact ⟨t + 1, by omega, by go_num, hgr, by rw [HN2.out, HF.out]; exact hset⟩
                      case measure => simp [intOf]; omega
                    · obtain rfl : t = 80 := by omega
                      obtain ⟨SA, hSA⟩ : ∃ A, Pure.roundsS ws 80 s = A := ⟨_, rfl⟩
                      rw [hSA] at hblk
                      have hbk2 := HBK2.out
                      rw [hSA] at hbk2
                      have hmix : (mixC s SA 5) = stCells s2 := by rw [hbk2]; rfl
                      have HMIX := Lib.hid hmix
                      have hgo : Grew wo wr := hgt.trans' hgt2
                      have hst0 : wr.heap[gH]? = some (.cells (mixC s SA 0).toArray tSt (0, 0)) := (hgo.block gH hlH).trans HBLK.out
                      have hcl0 : ∀ i, i < nM → wr.cell? ⟨b, o + i, none⟩ = some (.int .u8 ((M.getD i 0).toNat : Int)) := fun i hi => (hgo.cell (p := ⟨b, o + i, none⟩) hbw2).trans (HCL.out i hi)
                      have hbw3 : b < wr.heap.size := Nat.lt_of_lt_of_le hbw2 hgo.size
                      have hgw3 : Grew V0 wr := hgw.trans' hgo
                      have hHV : gH < gV := by omega
                      clear hbk2 hSA hmix hgt2 hgt hgo hblkB
                      rw [show ((80 : Nat) : Int) = 80 from rfl]
                      go_wp2_with fail
                      go_loopw [16] (fun x w2 => ∃ j : Nat, j ≤ 5 ∧ x = .int .i64 (j : Int) ∧ Grew V0 w2 ∧ w2.heap[gH]? = some (.cells (mixC s SA j).toArray tSt (0, 0)) ∧ w2.heap[gV]? = some (.cells (stCells SA).toArray tSt (0, 0)) ∧ b < w2.heap.size ∧ ∀ i, i < nM → w2.cell? ⟨b, o + i, none⟩ = some (.int .u8 ((M.getD i 0).toNat : Int))) (fun x _ => 5 - (intOf x).toNat)
                      case atStart => exact ⟨0, by omega, rfl, hgw3, hst0, hblk, hbw3, hcl0⟩
                      case round =>
                        obtain ⟨j5, hj, rfl, hg5, hst5, hsv5, hbw5, hcl5⟩ := hrel
                        clear hgw3 hst0 hblk hbw3 hcl0
                        by_cases hj5 : j5 < 5
                        · have f1 : decide ((j5 : Int) < 5) = true := decide_eq_true (by omega)
                          have hm : ∃ x y : UInt32, wr.cell? ⟨gH, j5, none⟩ = some (u32V x) ∧ wr.cell? ⟨gV, j5, none⟩ = some (u32V y) ∧ (mixC s SA j5).toArray.setIfInBounds j5 (u32V (x + y)) = (mixC s SA (j5 + 1)).toArray := by
                            refine ⟨stGet s j5, stGet SA j5, ?_, ?_, ?_⟩
                            · rw [cell_of_row wr _ j5 _ _ (0, 0) hst5]
                              have : j5 = 0 ∨ j5 = 1 ∨ j5 = 2 ∨ j5 = 3 ∨ j5 = 4 := by omega
                              rcases this with rfl | rfl | rfl | rfl | rfl <;> rfl
                            · rw [cell_of_row wr _ j5 _ _ (0, 0) hsv5]
                              have : j5 = 0 ∨ j5 = 1 ∨ j5 = 2 ∨ j5 = 3 ∨ j5 = 4 := by omega
                              rcases this with rfl | rfl | rfl | rfl | rfl <;> rfl
                            · have : j5 = 0 ∨ j5 = 1 ∨ j5 = 2 ∨ j5 = 3 ∨ j5 = 4 := by omega
                              rcases this with rfl | rfl | rfl | rfl | rfl <;> rfl
                          obtain ⟨x, y, hcx, hcy, hset⟩ := hm
                          have dx : wr.drew.cell? ⟨gH, j5, none⟩ = some (u32V x) := hcx
                          have dy : wr.drew.cell? ⟨gV, j5, none⟩ = some (u32V y) := hcy
                          have dbx : wr.drew.heap[gH]? = some (.cells (mixC s SA j5).toArray tSt (0, 0)) := hst5
                          have dfz : wr.drew.frozen? ⟨gH, j5, none⟩ = false := by simp [World.frozen?, dbx]
                          obtain ⟨z, hz⟩ : ∃ z, x + y = z := ⟨_, rfl⟩
                          have ea := w_add x y
                          rw [hz] at ea hset
                          have hh := set_cell_any wr.drew gH j5 _ _ _ (u32V z) dbx
                          rw [hset] at hh
                          have hh2 := (heap_setCell_other wr.drew ⟨gH, j5, none⟩ gV (u32V z) (by show gV ≠ gH; omega)).trans (show wr.drew.heap[gV]? = _ from hsv5)
                          have hgr : Grew V0 (wr.drew.setCell ⟨gH, j5, none⟩ (u32V z)) := (hg5.drew).setCell (p := ⟨gH, j5, none⟩) hgH0 _
                          have hcl6 : ∀ i, i < nM → (wr.drew.setCell ⟨gH, j5, none⟩ (u32V z)).cell? ⟨b, o + i, none⟩ = some (.int .u8 ((M.getD i 0).toNat : Int)) := fun i hi => (World.cell?_setCell_other wr.drew ⟨gH, j5, none⟩ ⟨b, o + i, none⟩ (u32V z) (fun e => hbH (congrArg Addr.block e).symm)).trans (hcl5 i hi)
                          have hbw6 : b < (wr.drew.setCell ⟨gH, j5, none⟩ (u32V z)).heap.size := by simpa using hbw5
                          have ij : (j5 : Int) < 5 := by omega
                          have ij0 : (0 : Int) ≤ (j5 : Int) := by omega
                          have HH := Lib.hid hh
                          have HH2 := Lib.hid hh2
                          have HC6 := Lib.hid hcl6
                          clear hh hh2 hset hz dbx hcl5 hcl6 hst5 hsv5
                          go_wp2
                          refine wp_region_still_tail 9 (by kernel_rfl) (by kernel_rfl) ?_
                          simp only [List.take_succ_cons, List.take_zero, List.drop_succ_cons, List.drop_zero]
                          change wpStill _ _ wr.drew _ _ _
                          repeat still_step
                          refine wpStill_nil ?_
                          change wpList _ _ _ _ _ wr.drew
                          generalize wr.drew = wd at *
                          go_wp2
                          go_roundw
                          case rel => exact ⟨j5 + 1, by omega, by go_num, hgr, HH.out, HH2.out, hbw6, HC6.out⟩
                          case measure => simp [intOf]; omega
                        · obtain rfl : j5 = 5 := by omega
                          rw [HMIX.out] at hst5
                          rw [show ((5 : Nat) : Int) = 5 from rfl]
                          have hAn2 : ((A + 64 : Nat) : Int) = (A : Int) + 64 := by omega
                          have hA64 := HA64.out
                          have hA2 : A + 64 = 64 * (k + 1) := by omega
                          have HA2 := Lib.hid hA2
                          clear hA64 hA2 hsv5 hAn2
                          go_wp2
                          go_roundw
                          case rel => exact ⟨k + 1, A + 64, HA2.out, by omega, by go_num, hg5, by rw [HS2.out]; exact hst5, hbw5, hcl5⟩
                          case measure => simp [intOf]; omega
            · obtain rfl : k = nb := by omega
              obtain ⟨s, hs⟩ : ∃ s, Pure.blocksS M k = s := ⟨_, rfl⟩
              have hsum := HSUM.out
              rw [hs] at hblk hsum
              have HSUM2 := Lib.hid hsum
              obtain ⟨gO, hgO⟩ : ∃ g, wo.heap.size = g := ⟨_, rfl⟩
              have hlH := (Array.getElem?_eq_some_iff.1 hblk).1
              have hgm := hgw
              have hout0 : (wo.alloc (.cells #[.int .u8 0, .int .u8 0, .int .u8 0, .int .u8 0, .int .u8 0, .int .u8 0, .int .u8 0, .int .u8 0, .int .u8 0, .int .u8 0, .int .u8 0, .int .u8 0, .int .u8 0, .int .u8 0, .int .u8 0, .int .u8 0, .int .u8 0, .int .u8 0, .int .u8 0, .int .u8 0] 30)).heap[gO]? = some (.cells (Lib.byteCells (outC s 0)).toArray 30 (0, 0)) := by rw [← hgO]; exact heap_alloc_new wo _
              have hblk0 : (wo.alloc (.cells #[.int .u8 0, .int .u8 0, .int .u8 0, .int .u8 0, .int .u8 0, .int .u8 0, .int .u8 0, .int .u8 0, .int .u8 0, .int .u8 0, .int .u8 0, .int .u8 0, .int .u8 0, .int .u8 0, .int .u8 0, .int .u8 0, .int .u8 0, .int .u8 0, .int .u8 0, .int .u8 0] 30)).heap[gH]? = some (.cells (stCells s).toArray tSt (0, 0)) := (((Below.refl wo.heap.size wo).alloc (Nat.le_refl _) _).block gH hlH).trans hblk
              have hgr0 : Grew V0 (wo.alloc (.cells #[.int .u8 0, .int .u8 0, .int .u8 0, .int .u8 0, .int .u8 0, .int .u8 0, .int .u8 0, .int .u8 0, .int .u8 0, .int .u8 0, .int .u8 0, .int .u8 0, .int .u8 0, .int .u8 0, .int .u8 0, .int .u8 0, .int .u8 0, .int .u8 0, .int .u8 0, .int .u8 0] 30)) := hgm.trans' ((Below.refl _ _).alloc (Nat.le_refl _) _)
              have hAn : ¬ (A : Int) < (nM : Int) := by omega
              have hAd : decide ((A : Int) < (nM : Int)) = false := decide_eq_false hAn
              have hlt0 : gH < gO := by omega
              have hrs0 := HR.out
              have HGO := Lib.hid hgO
              clear HSUM hs hblk hsum hgm hcl hM64 hA64
              go_wp2_with fail
              try rw [hgO]
              clear hgO
              go_loopw [18] (fun x w2 => ∃ i : Nat, i ≤ 20 ∧ x = .int .i64 (i : Int) ∧ Grew V0 w2 ∧ w2.heap[gH]? = some (.cells (stCells s).toArray tSt (0, 0)) ∧ w2.heap[gO]? = some (.cells (Lib.byteCells (outC s i)).toArray 30 (0, 0))) (fun x _ => 20 - (intOf x).toNat)
              case atStart => exact ⟨0, by omega, rfl, hgr0, hblk0, hout0⟩
              case round =>
                obtain ⟨i, hi, rfl, hgi, hst, hou⟩ := hrel
                clear hgr0 hblk0 hout0
                by_cases hi20 : i < 20
                · have f1 : decide ((i : Int) < 20) = true := decide_eq_true (by omega)
                  obtain ⟨q, r, hr4, hq5, rfl⟩ : ∃ q r, r < 4 ∧ q < 5 ∧ i = 4 * q + r := ⟨i / 4, i % 4, by omega, by omega, by omega⟩
                  have hqi : ((4 * q + r : Nat) : Int) / 4 = (q : Int) := by omega
                  have hri : ((4 * q + r : Nat) : Int) % 4 = (r : Int) := by omega
                  have hb := (byteS_at s q r hr4).resolve_right (by omega)
                  have hnx := outC_next s (4 * q + r) hi20
                  obtain ⟨x, hx⟩ : ∃ x, stGet s q = x := ⟨_, rfl⟩
                  have hcx : wr.cell? ⟨gH, q, none⟩ = some (u32V x) := by
                    rw [cell_of_row wr _ q _ _ (0, 0) hst, ← hx]
                    have : q = 0 ∨ q = 1 ∨ q = 2 ∨ q = 3 ∨ q = 4 := by omega
                    rcases this with rfl | rfl | rfl | rfl | rfl <;> rfl
                  rw [hx] at hb
                  have hby := byte_shr x (24 - 8 * r) (by omega) _ rfl
                  rw [← hb] at hby
                  obtain ⟨y, hy⟩ : ∃ y, Pure.byteS s (4 * q + r) = y := ⟨_, rfl⟩
                  rw [hy] at hby hnx
                  obtain ⟨m, hm⟩ : ∃ m, 4 * q + r = m := ⟨_, rfl⟩
                  rw [hm] at hqi hri hnx hou f1 hi20 hi ⊢
                  have hqd : ((m : Int)).tdiv 4 = (q : Int) := by rw [Int.tdiv_eq_ediv_of_nonneg (by omega)]; exact hqi
                  have hrd : ((m : Int)).tmod 4 = (r : Int) := by rw [Int.tmod_eq_emod_of_nonneg (by omega)]; exact hri
                  have hwq : IntKind.i64.wrap (q : Int) = (q : Int) := IntWalk.i64_in _ (by omega)
                  have iq : (q : Int) < 5 := by omega
                  have iq0 : (0 : Int) ≤ (q : Int) := by omega
                  have im : (m : Int) < 20 := by omega
                  have im0 : (0 : Int) ≤ (m : Int) := by omega
                  have dfz : wr.frozen? ⟨gO, m, none⟩ = false := by simp [World.frozen?, hou]
                  have hcm : ∃ v, wr.cell? ⟨gO, m, none⟩ = some v := by
                    rw [cell_of_row wr _ m _ _ (0, 0) hou]
                    exact ⟨_, Array.getElem?_eq_getElem (by rw [List.size_toArray, Lib.byteCells_length, outC_len]; exact hi20)⟩
                  obtain ⟨v0, hv0⟩ := hcm
                  have hh := set_cell_any wr gO m _ _ _ (.int .u8 (y.toNat : Int)) hou
                  rw [hnx] at hh
                  have hh1 := (heap_setCell_other wr ⟨gO, m, none⟩ gH (.int .u8 (y.toNat : Int)) (by show gH ≠ gO; omega)).trans hst
                  have hgr : Grew V0 (wr.setCell ⟨gO, m, none⟩ (.int .u8 (y.toNat : Int))) := (hgi).setCell (p := ⟨gO, m, none⟩) (by show V0.heap.size ≤ gO; omega) _
                  have HH := Lib.hid hh
                  have HH1 := Lib.hid hh1
                  clear hh hh1 hnx hst hou hgi hb hx hy
                  have hr : r = 0 ∨ r = 1 ∨ r = 2 ∨ r = 3 := by omega
                  rcases hr with rfl | rfl | rfl | rfl
                  · have hb2 : (x.toNat : Int) / 16777216 % 256 = (y.toNat : Int) := hby
                    go_wp2
                    go_roundw
                    case rel => exact ⟨m + 1, by omega, by go_num, hgr, HH1.out, HH.out⟩
                    case measure => simp [intOf]; omega
                  · have hb2 : (x.toNat : Int) / 65536 % 256 = (y.toNat : Int) := hby
                    go_wp2
                    go_roundw
                    case rel => exact ⟨m + 1, by omega, by go_num, hgr, HH1.out, HH.out⟩
                    case measure => simp [intOf]; omega
                  · have hb2 : (x.toNat : Int) / 256 % 256 = (y.toNat : Int) := hby
                    go_wp2
                    go_roundw
                    case rel => exact ⟨m + 1, by omega, by go_num, hgr, HH1.out, HH.out⟩
                    case measure => simp [intOf]; omega
                  · have hb2 : (x.toNat : Int) % 256 = (y.toNat : Int) := by
                      have h1 : (x.toNat : Int) / 1 % 256 = (y.toNat : Int) := hby
                      rwa [Int.ediv_one] at h1
                    go_wp2
                    go_roundw
                    case rel => exact ⟨m + 1, by omega, by go_num, hgr, HH1.out, HH.out⟩
                    case measure => simp [intOf]; omega
                · obtain rfl : i = 20 := by omega
                  rw [outC_last, ← HSUM2.out] at hou
                  have hl20 := Pure.sumS_len L
                  obtain ⟨SL, hSL⟩ : ∃ SL, Pure.sumS L = SL := ⟨_, rfl⟩
                  rw [hSL] at hou hl20
                  have HSL := Lib.hid hSL
                  have hrow2 := range_row hou
                  simp only [List.toList_toArray] at hrow2
                  have hres := (hgi.block w.heap.size (by have := HG0.out; omega)).trans hrs0
                  have nfI := infoId' hl20
                  have nfI2 := infoId'' hl20
                  have hsI : (#[.int .u8 0, .int .u8 0, .int .u8 0, .int .u8 0, .int .u8 0, .int .u8 0, .int .u8 0, .int .u8 0, .int .u8 0, .int .u8 0, .int .u8 0, .int .u8 0, .int .u8 0, .int .u8 0, .int .u8 0, .int .u8 0, .int .u8 0, .int .u8 0, .int .u8 0, .int .u8 0] : Array Value).size = (Lib.byteCells SL).toArray.size := by simp [Lib.byteCells_length, hl20]
                  have hoI := one_bytes SL
                  clear hSL hst hou
                  go_wp2_with (first | (refine wpList_load_mid rfl 30 _ rfl gO 0 rfl (Lib.byteCells SL) _ hrow2 Tryd.underlying30 rfl nfI ?_) | (refine wpList_store_row rfl 30 _ _ rfl w.heap.size (Lib.byteCells SL).toArray rfl rfl 30 _ hres nfI2 hsI hoI ?_))
                  refine bodyPost_ret (results_cell_mid Tryd.results21 _ _ w.heap.size 0 (Lib.byteCells SL) _ rfl (range_setRow hres _) Tryd.underlying30 rfl nfI) rfl ?_
                  refine ⟨by rw [HSL.out]; rfl, ?_⟩
                  have gV : Below w.heap.size w (wr.setRow w.heap.size (Lib.byteCells SL).toArray) := below_setRow ((g0.trans' hgi)) (by omega) _
                  exact gV

end Go.Proofs.YtdlhabldjdkfbaaDoor

/- The law MetaMany of layer 21, walked. Conditions: the library's tables are laid. -/
import Derived.Test.YtkdmhflcpfekfaaDoorLaw21b
import Derived.Test.YtkdmhflcpfekfaaDoorPureMany
import Derived.Test.YtkdmhflcpfekfaaDoorChars
import Derived.Test.YtkdmhflcpfekfaaDoorM1
import Derived.Test.YtkdmhflcpfekfaaDoorStoreG
namespace Go.Proofs.YtkdmhflcpfekfaaDoor
set_option linter.unusedVariables false
set_option linter.unusedSimpArgs false
open Go.RowKit

set_option maxRecDepth 100000 in
set_option maxHeartbeats 4000000 in
theorem law_MetaMany (t : ByteArray) (nz mz az : Int) (tw : Bool) (w : World) (ht : t.size ≤ 9223372036854775807) (hn1 : -9223372036854775808 ≤ nz) (hn2 : nz ≤ 9223372036854775807) (hm1 : -9223372036854775808 ≤ mz) (hm2 : mz ≤ 9223372036854775807) (ha1 : -9223372036854775808 ≤ az) (ha2 : az ≤ 9223372036854775807) (hm : MaxOk w) (hu : U8Ok w) (hF : FoldOk w) :
    Calls Tryd.prog 6 #[.string t, .int .i64 nz, .int .i64 mz, .int .i64 az, .bool tw] w fun e w' => e = .returned (.bool true) ∧ Grew w w' := by
  have g0 : Grew w w := Below.refl _ _
  obtain ⟨N, hN, hN8⟩ := pick_wrap nz 8 8 rfl (by decide) (by decide)
  obtain ⟨M, hM, hM8⟩ := pick_wrap mz 8 8 rfl (by decide) (by decide)
  have ca := fun W (g : Grew w W) => awake21 W (hm.grew g) (u8_grew hu g) (hF.grew g)
  by_cases h5 : 500 < t.size
  · have f1 : decide (500 < (t.size : Int)) = true := decide_eq_true (by omega)
    have f2 : decide (500 < t.size) = true := decide_eq_true h5
    clear hm hu hF
    go_enter Tryd.func6, Tryd.ntmps6
    go_wp2_with (first | (go_at_call 8; with_reducible refine (ca _ (by assumption)).mono ?_; rintro e1 W1 ⟨rfl, g1⟩; replace g1 := Grew.trans' (a := w) (by assumption) g1))
    go_ret
    exact ⟨rfl, by assumption⟩
  have f1 : decide (500 < (t.size : Int)) = false := decide_eq_false (by omega)
  have f2 : decide (500 < t.size) = false := decide_eq_false h5
  have cB := fun W (g : Grew w W) => meta_Bears t W (by omega) (hm.grew g)
  obtain ⟨BB, hBB⟩ : ∃ B, bearsP t.data.toList = B := ⟨_, rfl⟩
  simp only [hBB] at cB
  cases BB with
  | true =>
    clear hm hu hF
    go_enter Tryd.func6, Tryd.ntmps6
    go_wp2_with (first | (go_at_call 19; with_reducible refine (cB _ (by assumption)).mono ?_; rintro e1 W1 ⟨rfl, h1⟩; subst W1) | (go_at_call 8; with_reducible refine (ca _ (by assumption)).mono ?_; rintro e1 W1 ⟨rfl, g1⟩; replace g1 := Grew.trans' (a := w) (by assumption) g1))
    go_ret
    exact ⟨rfl, by assumption⟩
  | false =>
    have hidx : Lib.index t.data.toList markM = -1 := by
      have h := hBB
      unfold bearsP Lib.contains at h
      rcases Lib.index_spec t.data.toList markM with ⟨h1, -⟩ | ⟨i, h1, -, -, -⟩
      · exact h1
      · rw [h1] at h; simp at h
    have cFi : ∀ W, Calls Tryd.prog 23 #[.string t, .string markT, .int .i64 0] W fun e w' => e = .returned (.int .i64 (-1)) ∧ w' = W := fun W => (help_Find t markT W (by omega) (by decide) (by decide)).mono (fun e w' h => ⟨by rw [h.1, ← hidx]; rfl, h.2⟩)
    have HM := Lib.hid hm
    have HU := Lib.hid hu
    have HFO := Lib.hid hF
    have HBB := Lib.hid hBB
    have hn1' : ¬ 9223372036854775807 < t.size + 1 := by omega
    clear hm hu hF hBB hidx
    go_enter Tryd.func6, Tryd.ntmps6
    go_wp2_with (first | (go_at_call 19; with_reducible refine (cB _ (by assumption)).mono ?_; rintro e1 W1 ⟨rfl, h1⟩; subst W1) | (go_at_call 23; with_reducible refine (cFi _).mono ?_; rintro e1 W1 ⟨rfl, h1⟩; subst W1))
    clear cB
    go_loopw [11, 13] (fun lv i wr => ∃ (k : Nat) (v : Value), v = lv ∧ i = .int .i64 (k : Int) ∧ k ≤ N ∧ Grew w wr ∧ OwnG kExtra wr w.heap.size v (extrasM t k)) (fun _ i _ => N - (intOf i).toNat)
    case atStart => exact ⟨0, _, rfl, rfl, Nat.zero_le _, g0, OwnG.nil _ _ _⟩
    case round =>
      obtain ⟨k, v, rfl, rfl, hk, hb, hown⟩ := hrel
      by_cases hlt : k < N
      · have hlw := letter_wrap k (by omega)
        have hw1 : IntKind.i64.wrap (97 + (k : Int)) = 97 + (k : Int) := IntWalk.i64_in _ (by omega)
        have kc := conv_char (letter k) wr
        have gA : Grew w (wr.alloc (.cells #[.int .u8 ((letter k).toNat : Int)] 5)) := Grew.trans' hb ((Below.refl _ _).alloc (Nat.le_refl _) _)
        have hownA : OwnG kExtra (wr.alloc (.cells #[.int .u8 ((letter k).toNat : Int)] 5)) w.heap.size v (extrasM t k) := hown.alloc1 _
        clear hown
        generalize hWA : wr.alloc (.cells #[.int .u8 ((letter k).toNat : Int)] 5) = WA at kc gA hownA
        obtain ⟨T, hT⟩ : ∃ T, t ++ (⟨#[118]⟩ : ByteArray) = T := ⟨_, rfl⟩
        have hx : extraM t k = ⟨⟨#[107, letter k]⟩, T⟩ := by rw [← hT]; rfl
        have hkk : (⟨#[107]⟩ : ByteArray) ++ ⟨#[letter k]⟩ = ⟨#[107, letter k]⟩ := rfl
        have hownB := hownA.alloc1 (.cells #[.string ⟨#[107, letter k]⟩, .string T] 28)
        have gB : Grew w (WA.alloc (.cells #[.string ⟨#[107, letter k]⟩, .string T] 28)) := Below.alloc gA gA.size _
        have hrB : (WA.alloc (.cells #[.string ⟨#[107, letter k]⟩, .string T] 28)).rangeAt WA.heap.size 0 (kExtra.cells ⟨⟨#[107, letter k]⟩, T⟩) := range_row (heap_alloc_new WA (.cells #[.string ⟨#[107, letter k]⟩, .string T] 28))
        have hBs := gB.size
        have HOB := Lib.hid hownB
        have HRB := Lib.hid hrB
        have HBS := Lib.hid hBs
        have HX := Lib.hid hx
        clear hownA hownB hrB hBs hx
        go_wp2_with (at_builtin; refine wpList_append_Gat kExtra rfl _ _ rfl w.heap.size v (extrasM t k) ⟨⟨#[107, letter k]⟩, T⟩ WA.heap.size rfl rfl HOB.out trivial HRB.out HBS.out (by rw [extrasM_len]; omega) ?_)
        intro v2 W2 hown2 hb2 hg2 hat2
        have gw2 : Grew w W2 := Below.trans gB hb2
        have hown3 : OwnG kExtra W2 w.heap.size v2 (extrasM t (k + 1)) := by rw [extrasM_next, HX.out]; exact hown2
        clear hown2 hat2 hg2 hb2
        go_wp2
        go_roundw
        case rel => exact ⟨k + 1, v2, rfl, by go_num, by omega, gw2, hown3⟩
        case measure => simp [intOf]; omega
      · obtain rfl : k = N := by omega
        clear hlt hk
        go_wp2
        go_loopw [12, 14] (fun cv i wr => ∃ (j : Nat) (u : Value), u = cv ∧ i = .int .i64 (j : Int) ∧ j ≤ M ∧ Grew w wr ∧ OwnG kExtra wr w.heap.size v (extrasM t k) ∧ OwnG kCopy wr w.heap.size u (copiesM j) ∧ Apart u v) (fun _ i _ => M - (intOf i).toNat)
        case atStart => exact ⟨0, _, rfl, rfl, Nat.zero_le _, hb, hown, OwnG.nil _ _ _, fun g h => by simp [Value.ownBlock] at h⟩
        case round =>
          clear hb hown
          obtain ⟨j, u, rfl, rfl, hj, hb, hown, howc, hap⟩ := hrel
          by_cases hlt : j < M
          · have hlw := letter_wrap j (by omega)
            have hw1 : IntKind.i64.wrap (97 + (j : Int)) = 97 + (j : Int) := IntWalk.i64_in _ (by omega)
            have kc := conv_char (letter j) wr
            have gA : Grew w (wr.alloc (.cells #[.int .u8 ((letter j).toNat : Int)] 5)) := Grew.trans' hb ((Below.refl _ _).alloc (Nat.le_refl _) _)
            have hownA : OwnG kExtra (wr.alloc (.cells #[.int .u8 ((letter j).toNat : Int)] 5)) w.heap.size v (extrasM t k) := hown.alloc1 _
            have howcA : OwnG kCopy (wr.alloc (.cells #[.int .u8 ((letter j).toNat : Int)] 5)) w.heap.size u (copiesM j) := howc.alloc1 _
            clear hown howc
            generalize hWA : wr.alloc (.cells #[.int .u8 ((letter j).toNat : Int)] 5) = WA at kc gA hownA howcA
            have hkk : (⟨#[116, 111]⟩ : ByteArray) ++ ⟨#[letter j]⟩ = ⟨#[116, 111, letter j]⟩ := rfl
            have hownB := hownA.alloc1 (.cells #[.string ⟨#[102, 114, 111, 109]⟩, .string ⟨#[116, 111, letter j]⟩] 31)
            have howcB := howcA.alloc1 (.cells #[.string ⟨#[102, 114, 111, 109]⟩, .string ⟨#[116, 111, letter j]⟩] 31)
            have gB : Grew w (WA.alloc (.cells #[.string ⟨#[102, 114, 111, 109]⟩, .string ⟨#[116, 111, letter j]⟩] 31)) := Below.alloc gA gA.size _
            have hrB : (WA.alloc (.cells #[.string ⟨#[102, 114, 111, 109]⟩, .string ⟨#[116, 111, letter j]⟩] 31)).rangeAt WA.heap.size 0 (kCopy.cells (copyM j)) := range_row (heap_alloc_new WA (.cells #[.string ⟨#[102, 114, 111, 109]⟩, .string ⟨#[116, 111, letter j]⟩] 31))
            have hBs := gB.size
            have HOB := Lib.hid hownB
            have HOC := Lib.hid howcB
            have HRB := Lib.hid hrB
            have HBS := Lib.hid hBs
            clear hownA howcA hownB howcB hrB hBs
            go_wp2_with (at_builtin; refine wpList_append_Gat kCopy rfl _ _ rfl w.heap.size u (copiesM j) (copyM j) WA.heap.size rfl rfl HOC.out trivial HRB.out HBS.out (by rw [copiesM_len]; omega) ?_)
            intro v2 W2 hown2 hb2 hg2 hat2
            obtain ⟨hown4, hap4⟩ := HOB.out.other hap hg2 (hat2.imp id (fun e => e.trans (by simp)))
            have gw2 : Grew w W2 := Below.trans gB hb2
            have hown3 : OwnG kCopy W2 w.heap.size v2 (copiesM (j + 1)) := by rw [copiesM_next]; exact hown2
            clear hown2 hat2 hg2 hb2
            go_wp2
            go_roundw
            case rel => exact ⟨j + 1, v2, rfl, by go_num, by omega, gw2, hown4, hown3, hap4⟩
            case measure => simp [intOf]; omega
          · obtain rfl : j = M := by omega
            clear hlt hj
            obtain ⟨pv, cv, rfl, hrv, -, -, -⟩ := hown.val
            obtain ⟨pu, cu, rfl, hru, -, -, -⟩ := howc.val
            have hlk : (extrasM t k).length = k := extrasM_len t k
            have hlj : (copiesM j).length = j := copiesM_len j
            rw [hlk] at hown hap ⊢
            rw [hlj] at howc hap ⊢
            obtain ⟨T, hT⟩ : ∃ T, t ++ (⟨#[118]⟩ : ByteArray) = T := ⟨_, rfl⟩
            have hTs : T.size = t.size + 1 := by rw [← hT, ByteArray.size_append]; rfl
            obtain ⟨F, hF2⟩ : ∃ F, Lib.index T.data.toList [0] = F := ⟨_, rfl⟩
            have hcon : T.data.toList.contains 0 = decide (0 ≤ F) := by rw [← find_one, hF2]
            have cZ : ∀ W, Calls Tryd.prog 23 #[.string T, .string ⟨#[0]⟩, .int .i64 0] W fun e w' => e = .returned (.int .i64 F) ∧ w' = W := fun W => (help_Find T ⟨#[0]⟩ W (by omega) (by decide) (by decide)).mono (fun e w' h => ⟨by rw [h.1, ← hF2]; try rfl, h.2⟩)
            have hxs : ∀ i, i < k → (extrasM t k)[i]? = some (extraM t i) := fun i hi => by unfold extrasM; rw [List.getElem?_map, List.getElem?_range hi]; rfl
            have HRV := Lib.hid hrv
            have HRU := Lib.hid hru
            have HOW := Lib.hid hown
            have HOC := Lib.hid howc
            have HXS := Lib.hid hxs
            have HT := Lib.hid hT
            have HLK := Lib.hid hlk
            have HLJ := Lib.hid hlj
            have HTS := Lib.hid hTs
            have HCON := Lib.hid hcon
            have HAP := Lib.hid hap
            obtain ⟨Z, hZ⟩ : ∃ Z : World, Z = wr := ⟨_, rfl⟩
            subst hZ
            have caZ := fun W (g : Grew Z W) => ca W (hb.trans' g)
            have gZZ : Grew Z Z := Below.refl _ _
            clear hrv hru hown howc hxs hT hlk hlj hTs hF2 hcon hap ca
            go_wp2
            go_loopw [15] (fun i wr => ∃ y : Nat, i = .int .i64 (y : Int) ∧ y ≤ k ∧ Z = wr ∧ Hid (y = 0 ∨ decide (0 ≤ F) = false)) (fun i _ => k - (intOf i).toNat)
            case atStart => exact ⟨0, rfl, Nat.zero_le _, by first | trivial | rfl, .inl rfl⟩
            case round =>
              obtain ⟨y, rfl, hy, hz, hF0⟩ := hrel
              subst hz
              by_cases hlt : y < k
              · have hx := HXS.out y hlt
                rcases HRV.out with h | ⟨b, o, rfl, hc⟩
                · rw [h] at hx; simp at hx
                have q2 : Z.cell? ⟨b, o + y * 2 + 1, none⟩ = some (.string T) := by
                  rw [← HT.out]
                  exact (two_range (hc y _ hx)).2
                obtain ⟨D, hD⟩ : ∃ D, decide (0 ≤ F) = D := ⟨_, rfl⟩
                clear hc hx
                cases D with
                | true =>
                  go_wp2_with (first | (go_at_call 23; with_reducible refine (cZ _).mono ?_; rintro e1 W1 ⟨rfl, h1⟩; subst W1) | (go_at_call 8; with_reducible refine (caZ _ (by assumption)).mono ?_; rintro e1 W1 ⟨rfl, g1⟩; replace g1 := Grew.trans' (a := Z) (by assumption) g1))
                  go_ret
                  exact ⟨rfl, hb.trans' (by assumption)⟩
                | false =>
                  have HD := Lib.hid hD
                  go_wp2_with (first | (go_at_call 23; with_reducible refine (cZ _).mono ?_; rintro e1 W1 ⟨rfl, h1⟩; subst W1))
                  go_roundw
                  case rel => exact ⟨y + 1, by go_num, by omega, by first | trivial | rfl, .inr HD.out⟩
                  case measure => simp [intOf]; omega
              · obtain rfl : y = k := by omega
                clear hlt hy
                have h0 : y = 0 ∨ (t ++ ⟨#[118]⟩ : ByteArray).data.toList.contains 0 = false := by
                  rcases hF0.out with h | h
                  · exact .inl h
                  · right; rw [HT.out, HCON.out, h]
                have hbes := many_right (t := t) hN8 hM8 (by omega) h0
                have htl := trailer_le (N := 501) (l := extrasM t y) (c := copiesM j) (fun x hx => ⟨by
                    unfold extrasM at hx; obtain ⟨i, -, rfl⟩ := List.mem_map.1 hx; show (2 : Nat) ≤ 501; decide, by rw [extras_value hx, HT.out, HTS.out]; omega⟩) (fun x hx => by
                    unfold copiesM at hx; obtain ⟨i, -, rfl⟩ := List.mem_map.1 hx; exact ⟨show (4 : Nat) ≤ 501 by decide, show (3 : Nat) ≤ 501 by decide⟩)
                rw [HLK.out, HLJ.out] at htl
                have htl2 : (trailerP (extrasM t y) (copiesM j)).length ≤ 28168 := by
                  have h1 : y * (8 + 4 * 501) ≤ 7 * 2012 := Nat.mul_le_mul (by omega) (Nat.le_refl _)
                  have h2 : j * (8 + 4 * 501) ≤ 7 * 2012 := Nat.mul_le_mul (by omega) (Nat.le_refl _)
                  omega
                have hfx : ∀ x ∈ extrasM t y, FineW x := fun x hx => ⟨by
                    unfold extrasM at hx; obtain ⟨i, -, rfl⟩ := List.mem_map.1 hx; show (2 : Nat) ≤ 1073741824; decide, by rw [extras_value hx, HT.out, HTS.out]; omega⟩
                have hgx : ∀ x ∈ copiesM j, FineW x := fun x hx => by
                    unfold copiesM at hx; obtain ⟨i, -, rfl⟩ := List.mem_map.1 hx; exact ⟨show (4 : Nat) ≤ 1073741824 by decide, show (3 : Nat) ≤ 1073741824 by decide⟩
                obtain ⟨P0, hpk⟩ : ∃ P0, packP t.data.toList (extrasM t y) (copiesM j) = (P0, 0) := by
                  rw [pack_good HBB.out hbes]
                  split
                  · rw [if_neg]
                    · exact ⟨_, rfl⟩
                    · rw [List.length_append, List.length_append, show t.data.toList.length = t.size from Array.length_toList, show markM.length = 15 from rfl]; omega
                  · exact ⟨_, rfl⟩
                have htsz : t.data.toList.length = t.size := Array.length_toList
                have hps := pack_size hpk (by omega)
                obtain ⟨P, hP⟩ : ∃ P : ByteArray, (⟨P0.toArray⟩ : ByteArray) = P := ⟨_, rfl⟩
                have hPl : P.data.toList = P0 := by rw [← hP]
                have hPs : P.size ≤ 32768 := by rw [← hPl] at hps; rwa [show P.data.toList.length = P.size from Array.length_toList] at hps
                have htk := take_packed hpk
                rw [← hPl] at htk
                have HTK := Lib.hid htk
                have cP : ∀ W, Grew Z W → Calls Tryd.prog 11 #[.string t, .slice pv y cv, .slice pu j cu] W fun e w' => e = .returned (.tuple #[.string P, .int .i64 0]) ∧ Grew W w' := fun W g => by
                  have h := meta_Pack t pv pu (extrasM t y) (copiesM j) cv cu W (by omega) (by rw [HLK.out]; omega) (by rw [HLJ.out]; omega) (HRV.out.grew g) (HRU.out.grew g) hfx hgx (by omega) (HM.out.grew (hb.trans' g)) (u8_grew HU.out (hb.trans' g)) (HFO.out.grew (hb.trans' g))
                  rw [hpk] at h
                  simp only [hP] at h
                  rwa [HLK.out, HLJ.out] at h
                have cT := fun W (g : Grew Z W) => meta_Take P W (by omega) (HM.out.grew (hb.trans' g)) (u8_grew HU.out (hb.trans' g)) (HFO.out.grew (hb.trans' g))
                have HFX := Lib.hid hfx
                have HGX := Lib.hid hgx
                have HH0 := Lib.hid h0
                clear hbes htl htl2 hfx hgx hpk htsz hps hP hPl htk h0 hF0 cZ
                go_wp2_with (first | (go_at_call 11; with_reducible refine (cP _ (by assumption)).mono ?_; rintro e1 W1 ⟨rfl, g1⟩; replace g1 := Grew.trans' (a := Z) (by assumption) g1) | (go_at_call 13; with_reducible refine (cT _ (by assumption)).mono ?_))
                have gX : Grew Z W1 := by assumption
                rintro e2 V2 ⟨gA2, xx, l', c', b, vv, uu, htk', rfl, hol, hoc, -, -, -, -⟩
                obtain ⟨rfl, rfl, rfl, rfl⟩ : t.data.toList = xx ∧ extrasM t y = l' ∧ copiesM j = c' ∧ true = b := by
                  have h := HTK.out.symm.trans htk'
                  simp only [Prod.mk.injEq] at h
                  exact h
                rw [mk_list]
                obtain ⟨pv2, cv2, rfl, hrv2, -, -, -⟩ := hol.val
                obtain ⟨pu2, cu2, rfl, hru2, -, -, -⟩ := hoc.val
                have gV2 := gX.trans' gA2
                have g22 : Grew V2 V2 := Below.refl _ _
                have cA := fun W (g : Grew V2 W) => caZ W (gV2.trans' g)
                have cP1 : ∀ W, Grew V2 W → Calls Tryd.prog 15 #[.slice pv2 y cv2, .slice pv y cv] W fun e w' => e = .returned (.bool true) ∧ Grew W w' := fun W g => by
                  have h := plain_Extra_eq pv2 pv (extrasM t y) cv2 cv W (by rw [HLK.out]; omega) (fun _ _ => trivial) (hrv2.grew g) ((HRV.out.grew gV2).grew g)
                  rwa [HLK.out] at h
                have cP2 : ∀ W, Grew V2 W → Calls Tryd.prog 16 #[.slice pu2 j cu2, .slice pu j cu] W fun e w' => e = .returned (.bool true) ∧ Grew W w' := fun W g => by
                  have h := plain_Copy_eq pu2 pu (copiesM j) cu2 cu W (by rw [HLJ.out]; omega) (fun _ _ => trivial) (hru2.grew g) ((HRU.out.grew gV2).grew g)
                  rwa [HLJ.out] at h
                rw [HLK.out, HLJ.out]
                clear cP cT caZ hol hoc htk' hrv2 hru2 HTK
                by_cases hy2 : y < 2
                · have f3 : decide (y < 2) = true := decide_eq_true hy2
                  have f4 : decide ((y : Int) < 2) = true := decide_eq_true (by omega)
                  go_wp2_with (first | (go_at_call 8; with_reducible refine (cA _ (by assumption)).mono ?_; rintro e1 W1 ⟨rfl, g1⟩; replace g1 := Grew.trans' (a := V2) (by assumption) g1) | (go_at_call 15; with_reducible refine (cP1 _ (by assumption)).mono ?_; rintro e1 W1 ⟨rfl, g1⟩; replace g1 := Grew.trans' (a := V2) (by assumption) g1) | (go_at_call 16; with_reducible refine (cP2 _ (by assumption)).mono ?_; rintro e1 W1 ⟨rfl, g1⟩; replace g1 := Grew.trans' (a := V2) (by assumption) g1))
                  go_ret
                  exact ⟨rfl, hb.trans' (gV2.trans' (by assumption))⟩
                · have hy2' : 2 ≤ y := by omega
                  have f3 : decide (y < 2) = false := decide_eq_false hy2
                  have f4 : decide ((y : Int) < 2) = false := decide_eq_false (by omega)
                  obtain ⟨A, hA, hAl⟩ := pick_wrap az (y - 1) ((y : Int) - 1) (by omega) (by omega) (by omega)
                  have hw1 : IntKind.i64.wrap ((y : Int) - 1) = (y : Int) - 1 := IntWalk.i64_in _ (by omega)
                  have hw2 : IntKind.i64.wrap ((A : Int) + 1) = (A : Int) + 1 := IntWalk.i64_in _ (by omega)
                  have hu1 : IntKind.u64.wrap ((y : Int) - 1) = (y : Int) - 1 := by simp [IntKind.wrap, IntKind.bits, IntKind.signed]; omega
                  have hz1 : (((y : Int) - 1) == 0) = false := by rw [beq_eq_false_iff_ne]; omega
                  have hfo := HOW.out.form (by rw [HLK.out]; omega)
                  obtain ⟨g, cap, hve, hbg, hglt, -⟩ := hfo
                  rw [HLK.out] at hve
                  injection hve with hv1 hv2 hv3
                  subst hv1
                  subst hv3
                  have hown0 : OwnG kExtra Z w.heap.size (.slice (some ⟨g, 0, none⟩) (extrasM t y).length cv) (extrasM t y) := by rw [HLK.out]; exact HOW.out
                  have HO0 := Lib.hid hown0
                  have HA := Lib.hid hA
                  clear hown0 hA
                  cases tw with
                  | true =>
                    go_wp2_with (first | (go_at_call 8; with_reducible refine (cA _ (by assumption)).mono ?_; rintro e1 W1 ⟨rfl, g1⟩; replace g1 := Grew.trans' (a := V2) (by assumption) g1) | (go_at_call 15; with_reducible refine (cP1 _ (by assumption)).mono ?_; rintro e1 W1 ⟨rfl, g1⟩; replace g1 := Grew.trans' (a := V2) (by assumption) g1) | (go_at_call 16; with_reducible refine (cP2 _ (by assumption)).mono ?_; rintro e1 W1 ⟨rfl, g1⟩; replace g1 := Grew.trans' (a := V2) (by assumption) g1))
                    have gY : Grew V2 W1 := by assumption
                    have gZD : Grew Z W1.drew := gV2.trans' (Below.drew gY)
                    have gwD := hb.trans' gZD
                    rw [HA.out]
                    have own24 := HO0.out.below gZD
                    have hxA := HXS.out A (by omega)
                    have hxB := HXS.out (A + 1) (by omega)
                    have rx24 : W1.drew.rangeAt g (A * 2) (extraM t A).cells := own24.range hxA
                    have ry24 : W1.drew.rangeAt g ((A + 1) * 2) (extraM t (A + 1)).cells := own24.range hxB
                    have nfx : (Tryd.prog.info? 28).map (·.size) = some (extraM t A).cells.length := kExtra.size _ trivial
                    have nfy : (Tryd.prog.info? 28).map (·.size) = some (extraM t (A + 1)).cells.length := kExtra.size _ trivial
                    have hcA : A < (extrasM t y).length := by rw [HLK.out]; omega
                    have hcB : A + 1 < (extrasM t y).length := by rw [HLK.out]; omega
                    have hi1 : (A : Int) + 1 < (y : Int) := by omega
                    have hi2 : (0 : Int) ≤ (A : Int) + 1 := by omega
                    have hi3 : (A : Int) < (y : Int) := by omega
                    go_wp2
                    refine wp_region_held_drew (S := fun w' => True) (by kernel_rfl) (by trivial) (fun hHeld => ?_)
                    first
                      | (refine wpAnyH_take (i := 0) (v := ?_) rfl (by kernel_rfl) (by kernel_rfl) (by kernel_rfl) (fun _ _ _ h => h) (Or.inl ⟨by rfl, ?_⟩) (by assumption) ?_; rotate_left 1; focus (intro w hSw; (try dsimp only at hSw); go_simp; (try with_reducible rfl)))
                      | fail
                    try simp only [Act.put, List.getElem_toArray, List.getElem_cons_succ, List.getElem_cons_zero, List.setIfInBounds_toArray, List.set_cons_zero, List.set_cons_succ]
                    first
                      | (refine wpAnyH_take (i := 1) (v := ?_) rfl (by kernel_rfl) (by kernel_rfl) (by kernel_rfl) (fun _ _ _ h => h) (Or.inl ⟨by rfl, ?_⟩) (by assumption) ?_; rotate_left 1; focus (intro w hSw; (try dsimp only at hSw); go_simp; (try with_reducible rfl)))
                      | fail
                    try simp only [Act.put, List.getElem_toArray, List.getElem_cons_succ, List.getElem_cons_zero, List.setIfInBounds_toArray, List.set_cons_zero, List.set_cons_succ]
                    first
                      | (refine wpAnyH_take (i := 2) (v := ?_) rfl (by kernel_rfl) (by kernel_rfl) (by kernel_rfl) (fun _ _ _ h => h) (Or.inl ⟨by rfl, ?_⟩) (by assumption) ?_; rotate_left 1; focus (intro w hSw; (try dsimp only at hSw); go_simp; (try with_reducible rfl)))
                      | fail
                    try simp only [Act.put, List.getElem_toArray, List.getElem_cons_succ, List.getElem_cons_zero, List.setIfInBounds_toArray, List.set_cons_zero, List.set_cons_succ]
                    first
                      | (refine wpAnyH_take (i := 3) (v := ?_) rfl (by kernel_rfl) (by kernel_rfl) (by kernel_rfl) (fun _ _ _ h => h) (Or.inl ⟨by rfl, ?_⟩) (by assumption) ?_; rotate_left 1; focus (intro w hSw; (try dsimp only at hSw); go_simp; (try with_reducible rfl)))
                      | fail
                    try simp only [Act.put, List.getElem_toArray, List.getElem_cons_succ, List.getElem_cons_zero, List.setIfInBounds_toArray, List.set_cons_zero, List.set_cons_succ]
                    first
                      | (refine wpAnyH_take (i := 4) (v := ?_) rfl (by kernel_rfl) (by kernel_rfl) (by kernel_rfl) (fun _ _ _ h => h) (Or.inl ⟨by rfl, ?_⟩) (by assumption) ?_; rotate_left 1; focus (intro w hSw; (try dsimp only at hSw); go_simp; (try with_reducible rfl)))
                      | fail
                    try simp only [Act.put, List.getElem_toArray, List.getElem_cons_succ, List.getElem_cons_zero, List.setIfInBounds_toArray, List.set_cons_zero, List.set_cons_succ]
                    first
                      | (refine wpAnyH_take (i := 5) (v := ?_) rfl (by kernel_rfl) (by kernel_rfl) (by kernel_rfl) (fun _ _ _ h => h) (Or.inl ⟨by rfl, ?_⟩) (by assumption) ?_; rotate_left 1; focus (intro w hSw; (try dsimp only at hSw); go_simp; (try with_reducible rfl)))
                      | fail
                    try simp only [Act.put, List.getElem_toArray, List.getElem_cons_succ, List.getElem_cons_zero, List.setIfInBounds_toArray, List.set_cons_zero, List.set_cons_succ]
                    first
                      | (refine wpAnyH_take (i := 6) (v := ?_) rfl (by kernel_rfl) (by kernel_rfl) (by kernel_rfl) (fun _ _ _ h => h) (Or.inl ⟨by rfl, ?_⟩) (by assumption) ?_; rotate_left 1; focus (intro w hSw; (try dsimp only at hSw); go_simp; (try with_reducible rfl)))
                      | fail
                    try simp only [Act.put, List.getElem_toArray, List.getElem_cons_succ, List.getElem_cons_zero, List.setIfInBounds_toArray, List.set_cons_zero, List.set_cons_succ]
                    first
                      | (refine wpAnyH_take (i := 7) (v := ?_) rfl (by kernel_rfl) (by kernel_rfl) (by kernel_rfl) (fun _ _ _ h => h) (Or.inl ⟨by rfl, ?_⟩) (by assumption) ?_; rotate_left 1; focus (intro w hSw; (try dsimp only at hSw); go_simp; (try with_reducible rfl)))
                      | fail
                    try simp only [Act.put, List.getElem_toArray, List.getElem_cons_succ, List.getElem_cons_zero, List.setIfInBounds_toArray, List.set_cons_zero, List.set_cons_succ]
                    first
                      | (refine wpAnyH_take (i := 8) (v := ?_) rfl (by kernel_rfl) (by kernel_rfl) (by kernel_rfl) (fun _ _ _ h => h) (Or.inl ⟨by rfl, ?_⟩) (by assumption) ?_; rotate_left 1; focus (intro w hSw; (try dsimp only at hSw); go_simp; (try with_reducible rfl)))
                      | fail
                    try simp only [Act.put, List.getElem_toArray, List.getElem_cons_succ, List.getElem_cons_zero, List.setIfInBounds_toArray, List.set_cons_zero, List.set_cons_succ]
                    first
                      | (refine wpAnyH_take (i := 10) (v := ?_) rfl (by kernel_rfl) (by kernel_rfl) (by kernel_rfl) (fun _ _ _ h => h) (Or.inl ⟨by rfl, ?_⟩) (by assumption) ?_; rotate_left 1; focus (intro w hSw; (try dsimp only at hSw); go_simp; (try with_reducible rfl)))
                      | fail
                    try simp only [Act.put, List.getElem_toArray, List.getElem_cons_succ, List.getElem_cons_zero, List.setIfInBounds_toArray, List.set_cons_zero, List.set_cons_succ]
                    first
                      | (refine wpAnyH_take (i := 11) (v := ?_) rfl (by kernel_rfl) (by kernel_rfl) (by kernel_rfl) (fun _ _ _ h => h) (Or.inl ⟨by rfl, ?_⟩) (by assumption) ?_; rotate_left 1; focus (intro w hSw; (try dsimp only at hSw); go_simp; (try with_reducible rfl)))
                      | fail
                    try simp only [Act.put, List.getElem_toArray, List.getElem_cons_succ, List.getElem_cons_zero, List.setIfInBounds_toArray, List.set_cons_zero, List.set_cons_succ]
                    first
                      | (refine wpAnyH_take (i := 12) (v := ?_) rfl (by kernel_rfl) (by kernel_rfl) (by kernel_rfl) (fun _ _ _ h => h) (Or.inl ⟨by rfl, ?_⟩) (by assumption) ?_; rotate_left 1; focus (intro w hSw; (try dsimp only at hSw); go_simp; (try with_reducible rfl)))
                      | fail
                    try simp only [Act.put, List.getElem_toArray, List.getElem_cons_succ, List.getElem_cons_zero, List.setIfInBounds_toArray, List.set_cons_zero, List.set_cons_succ]
                    refine wpAnyH_ready (rs := [9, 13]) (by kernel_rfl) (by simp) ?_
                    refine AllReadyH.cons rfl (fun K hK => ?_) (AllReadyH.cons rfl (fun K hK => ?_) AllReadyH.nil)
                    · (refine stepLoadAt rfl 28 _ rfl g ((A + 1) * 2) rfl (extraM t (A + 1)).cells _ ry24 Tryd.underlying28 rfl nfy ?_)
                      refine hK.out _ _ (by trivial) (fun hHeld => ?_)
                      clear hK K
                      try simp only [Act.put, List.getElem_toArray, List.getElem_cons_succ, List.getElem_cons_zero, List.setIfInBounds_toArray, List.set_cons_zero, List.set_cons_succ]
                      refine wpAnyH_ready (rs := [13]) (by kernel_rfl) (by simp) ?_
                      refine AllReadyH.cons rfl (fun K hK => ?_) AllReadyH.nil
                      (refine stepLoadAt rfl 28 _ rfl g (A * 2) rfl (extraM t A).cells _ rx24 Tryd.underlying28 rfl nfx ?_)
                      refine hK.out _ _ (by trivial) (fun hHeld => ?_)
                      clear hK K
                      try simp only [Act.put, List.getElem_toArray, List.getElem_cons_succ, List.getElem_cons_zero, List.setIfInBounds_toArray, List.set_cons_zero, List.set_cons_succ]
                      first
                        | (refine wpAnyH_take (i := 14) (v := ?_) rfl (by kernel_rfl) (by kernel_rfl) (by kernel_rfl) (fun _ _ _ h => h) (Or.inl ⟨by rfl, ?_⟩) (by assumption) ?_; rotate_left 1; focus (intro w hSw; (try dsimp only at hSw); go_simp; (try with_reducible rfl)))
                        | fail
                      try simp only [Act.put, List.getElem_toArray, List.getElem_cons_succ, List.getElem_cons_zero, List.setIfInBounds_toArray, List.set_cons_zero, List.set_cons_succ]
                      refine wpAnyH_ready (rs := [15]) (by kernel_rfl) (by simp) ?_
                      refine AllReadyH.cons rfl (fun K hK => ?_) AllReadyH.nil
                      (refine stepStoreOwn kExtra rfl _ _ rfl w.heap.size g cv (extrasM t y) A (extraM t (A + 1)) rfl rfl own24 hcA trivial ?_; intro w5 own5 hg5)
                      refine hK.out _ _ (by trivial) (fun hHeld => ?_)
                      clear hK K
                      try simp only [Act.put, List.getElem_toArray, List.getElem_cons_succ, List.getElem_cons_zero, List.setIfInBounds_toArray, List.set_cons_zero, List.set_cons_succ]
                      first
                        | (refine wpAnyH_take (i := 16) (v := ?_) rfl (by kernel_rfl) (by kernel_rfl) (by kernel_rfl) (fun _ _ _ h => h) (Or.inl ⟨by rfl, ?_⟩) (by assumption) ?_; rotate_left 1; focus (intro w hSw; (try dsimp only at hSw); go_simp; (try with_reducible rfl)))
                        | fail
                      try simp only [Act.put, List.getElem_toArray, List.getElem_cons_succ, List.getElem_cons_zero, List.setIfInBounds_toArray, List.set_cons_zero, List.set_cons_succ]
                      refine wpAnyH_ready (rs := [17]) (by kernel_rfl) (by simp) ?_
                      refine AllReadyH.cons rfl (fun K hK => ?_) AllReadyH.nil
                      (refine stepStoreOwn kExtra rfl _ _ rfl w.heap.size g cv _ (A + 1) (extraM t A) rfl rfl own5 (by rw [List.length_set]; exact hcB) trivial ?_; intro w6 own6 hg6)
                      refine hK.out _ _ (by trivial) (fun hHeld => ?_)
                      clear hK K
                      try simp only [Act.put, List.getElem_toArray, List.getElem_cons_succ, List.getElem_cons_zero, List.setIfInBounds_toArray, List.set_cons_zero, List.set_cons_succ]
                      refine wpAnyH_done (by kernel_rfl) ?_ _
                      have hg5' : W1.drew.grownBy w5 (Value.slice (some ⟨g, 0, none⟩) y cv).ownBlock := hg5
                      have hg6' : w5.grownBy w6 (Value.slice (some ⟨g, 0, none⟩) y cv).ownBlock := hg6
                      obtain ⟨hoc2, hap2⟩ := (HOC.out.below gZD).other HAP.out.symm hg5' (.inl rfl)
                      obtain ⟨hoc3, -⟩ := hoc2.other hap2 hg6' (.inl rfl)
                      have gw5 : Grew w w5 := Below.grown gwD hg5 gwD.size (fun k e => by cases e; exact hbg)
                      have gw3 : Grew w w6 := Below.grown gw5 hg6 gw5.size (fun k e => by cases e; exact hbg)
                      obtain ⟨p3, c3, e3, hrd3, -, -, -⟩ := own6.val
                      have hlen3 : (((extrasM t y).set A (extraM t (A + 1))).set (A + 1) (extraM t A)).length = y := by rw [List.length_set, List.length_set, HLK.out]
                      rw [hlen3] at e3
                      injection e3 with e31 e32 e33
                      subst e31
                      subst e33
                      obtain ⟨pu3, cu3, e4, hru3, -, -, -⟩ := hoc3.val
                      rw [HLJ.out] at e4
                      injection e4 with e41 e42 e43
                      subst e41
                      subst e43
                      have hcn : (t ++ ⟨#[118]⟩ : ByteArray).data.toList.contains 0 = false := by
                        rcases HH0.out with h | h
                        · omega
                        · exact h
                      have hbad := many_wrong (t := t) (n := y) (k := A) (tw := true) (c := copiesM j) hN8 hy2' hAl (by omega) hcn
                      have hpb := pack_bad (t := t.data.toList) (.inr hbad)
                      have hfx3 : ∀ x ∈ ((extrasM t y).set A (extraM t (A + 1))).set (A + 1) (extraM t A), FineW x := fun x hx => by
                        have hm3 : x ∈ extrasM t y := by
                          rcases List.mem_or_eq_of_mem_set hx with h | rfl
                          · rcases List.mem_or_eq_of_mem_set h with h | rfl
                            · exact h
                            · exact List.mem_of_getElem? hxB
                          · exact List.mem_of_getElem? hxA
                        exact HFX.out x hm3
                      have htr3 : (trailerP (((extrasM t y).set A (extraM t (A + 1))).set (A + 1) (extraM t A)) (copiesM j)).length ≤ 1099511627776 := by
                        refine trailer_small (fun x hx => ?_) (fun x hx => ?_) (by rw [hlen3]; omega) (by rw [HLJ.out]; omega)
                        · have h : x ∈ extrasM t y := by
                            rcases List.mem_or_eq_of_mem_set hx with h | rfl
                            · rcases List.mem_or_eq_of_mem_set h with h | rfl
                              · exact h
                              · exact List.mem_of_getElem? hxB
                            · exact List.mem_of_getElem? hxA
                          have hv := extras_value h
                          unfold extrasM at h
                          obtain ⟨i, -, rfl⟩ := List.mem_map.1 h
                          exact ⟨show (2 : Nat) ≤ 3000 by decide, by rw [hv, HT.out, HTS.out]; omega⟩
                        · unfold copiesM at hx
                          obtain ⟨i, -, rfl⟩ := List.mem_map.1 hx
                          exact ⟨show (4 : Nat) ≤ 3000 by decide, show (3 : Nat) ≤ 3000 by decide⟩
                      have cZ := meta_Pack t (some ⟨g, 0, none⟩) pu (((extrasM t y).set A (extraM t (A + 1))).set (A + 1) (extraM t A)) (copiesM j) cv cu w6 (by omega) (by rw [hlen3]; omega) (by rw [HLJ.out]; omega) hrd3 hru3 hfx3 HGX.out htr3 (HM.out.grew gw3) (u8_grew HU.out gw3) (HFO.out.grew gw3)
                      rw [show packP t.data.toList (((extrasM t y).set A (extraM t (A + 1))).set (A + 1) (extraM t A)) (copiesM j) = ([], 4) from hpb, hlen3, HLJ.out] at cZ
                      clear hbad hpb hfx3 htr3 hrd3 hru3 hoc3 hoc2 hap2 own6 own5 hg5 hg6 hg5' hg6'
                      go_wp2_with fail
                      refine Calls.mono cZ ?_
                      rintro e5 V5 ⟨rfl, g5⟩
                      go_wp2
                      go_ret
                      exact ⟨rfl, gw3.trans' g5⟩
                    · (refine stepLoadAt rfl 28 _ rfl g (A * 2) rfl (extraM t A).cells _ rx24 Tryd.underlying28 rfl nfx ?_)
                      refine hK.out _ _ (by trivial) (fun hHeld => ?_)
                      clear hK K
                      try simp only [Act.put, List.getElem_toArray, List.getElem_cons_succ, List.getElem_cons_zero, List.setIfInBounds_toArray, List.set_cons_zero, List.set_cons_succ]
                      refine wpAnyH_ready (rs := [9]) (by kernel_rfl) (by simp) ?_
                      refine AllReadyH.cons rfl (fun K hK => ?_) AllReadyH.nil
                      (refine stepLoadAt rfl 28 _ rfl g ((A + 1) * 2) rfl (extraM t (A + 1)).cells _ ry24 Tryd.underlying28 rfl nfy ?_)
                      refine hK.out _ _ (by trivial) (fun hHeld => ?_)
                      clear hK K
                      try simp only [Act.put, List.getElem_toArray, List.getElem_cons_succ, List.getElem_cons_zero, List.setIfInBounds_toArray, List.set_cons_zero, List.set_cons_succ]
                      first
                        | (refine wpAnyH_take (i := 14) (v := ?_) rfl (by kernel_rfl) (by kernel_rfl) (by kernel_rfl) (fun _ _ _ h => h) (Or.inl ⟨by rfl, ?_⟩) (by assumption) ?_; rotate_left 1; focus (intro w hSw; (try dsimp only at hSw); go_simp; (try with_reducible rfl)))
                        | fail
                      try simp only [Act.put, List.getElem_toArray, List.getElem_cons_succ, List.getElem_cons_zero, List.setIfInBounds_toArray, List.set_cons_zero, List.set_cons_succ]
                      refine wpAnyH_ready (rs := [15]) (by kernel_rfl) (by simp) ?_
                      refine AllReadyH.cons rfl (fun K hK => ?_) AllReadyH.nil
                      (refine stepStoreOwn kExtra rfl _ _ rfl w.heap.size g cv (extrasM t y) A (extraM t (A + 1)) rfl rfl own24 hcA trivial ?_; intro w5 own5 hg5)
                      refine hK.out _ _ (by trivial) (fun hHeld => ?_)
                      clear hK K
                      try simp only [Act.put, List.getElem_toArray, List.getElem_cons_succ, List.getElem_cons_zero, List.setIfInBounds_toArray, List.set_cons_zero, List.set_cons_succ]
                      first
                        | (refine wpAnyH_take (i := 16) (v := ?_) rfl (by kernel_rfl) (by kernel_rfl) (by kernel_rfl) (fun _ _ _ h => h) (Or.inl ⟨by rfl, ?_⟩) (by assumption) ?_; rotate_left 1; focus (intro w hSw; (try dsimp only at hSw); go_simp; (try with_reducible rfl)))
                        | fail
                      try simp only [Act.put, List.getElem_toArray, List.getElem_cons_succ, List.getElem_cons_zero, List.setIfInBounds_toArray, List.set_cons_zero, List.set_cons_succ]
                      refine wpAnyH_ready (rs := [17]) (by kernel_rfl) (by simp) ?_
                      refine AllReadyH.cons rfl (fun K hK => ?_) AllReadyH.nil
                      (refine stepStoreOwn kExtra rfl _ _ rfl w.heap.size g cv _ (A + 1) (extraM t A) rfl rfl own5 (by rw [List.length_set]; exact hcB) trivial ?_; intro w6 own6 hg6)
                      refine hK.out _ _ (by trivial) (fun hHeld => ?_)
                      clear hK K
                      try simp only [Act.put, List.getElem_toArray, List.getElem_cons_succ, List.getElem_cons_zero, List.setIfInBounds_toArray, List.set_cons_zero, List.set_cons_succ]
                      refine wpAnyH_done (by kernel_rfl) ?_ _
                      have hg5' : W1.drew.grownBy w5 (Value.slice (some ⟨g, 0, none⟩) y cv).ownBlock := hg5
                      have hg6' : w5.grownBy w6 (Value.slice (some ⟨g, 0, none⟩) y cv).ownBlock := hg6
                      obtain ⟨hoc2, hap2⟩ := (HOC.out.below gZD).other HAP.out.symm hg5' (.inl rfl)
                      obtain ⟨hoc3, -⟩ := hoc2.other hap2 hg6' (.inl rfl)
                      have gw5 : Grew w w5 := Below.grown gwD hg5 gwD.size (fun k e => by cases e; exact hbg)
                      have gw3 : Grew w w6 := Below.grown gw5 hg6 gw5.size (fun k e => by cases e; exact hbg)
                      obtain ⟨p3, c3, e3, hrd3, -, -, -⟩ := own6.val
                      have hlen3 : (((extrasM t y).set A (extraM t (A + 1))).set (A + 1) (extraM t A)).length = y := by rw [List.length_set, List.length_set, HLK.out]
                      rw [hlen3] at e3
                      injection e3 with e31 e32 e33
                      subst e31
                      subst e33
                      obtain ⟨pu3, cu3, e4, hru3, -, -, -⟩ := hoc3.val
                      rw [HLJ.out] at e4
                      injection e4 with e41 e42 e43
                      subst e41
                      subst e43
                      have hcn : (t ++ ⟨#[118]⟩ : ByteArray).data.toList.contains 0 = false := by
                        rcases HH0.out with h | h
                        · omega
                        · exact h
                      have hbad := many_wrong (t := t) (n := y) (k := A) (tw := true) (c := copiesM j) hN8 hy2' hAl (by omega) hcn
                      have hpb := pack_bad (t := t.data.toList) (.inr hbad)
                      have hfx3 : ∀ x ∈ ((extrasM t y).set A (extraM t (A + 1))).set (A + 1) (extraM t A), FineW x := fun x hx => by
                        have hm3 : x ∈ extrasM t y := by
                          rcases List.mem_or_eq_of_mem_set hx with h | rfl
                          · rcases List.mem_or_eq_of_mem_set h with h | rfl
                            · exact h
                            · exact List.mem_of_getElem? hxB
                          · exact List.mem_of_getElem? hxA
                        exact HFX.out x hm3
                      have htr3 : (trailerP (((extrasM t y).set A (extraM t (A + 1))).set (A + 1) (extraM t A)) (copiesM j)).length ≤ 1099511627776 := by
                        refine trailer_small (fun x hx => ?_) (fun x hx => ?_) (by rw [hlen3]; omega) (by rw [HLJ.out]; omega)
                        · have h : x ∈ extrasM t y := by
                            rcases List.mem_or_eq_of_mem_set hx with h | rfl
                            · rcases List.mem_or_eq_of_mem_set h with h | rfl
                              · exact h
                              · exact List.mem_of_getElem? hxB
                            · exact List.mem_of_getElem? hxA
                          have hv := extras_value h
                          unfold extrasM at h
                          obtain ⟨i, -, rfl⟩ := List.mem_map.1 h
                          exact ⟨show (2 : Nat) ≤ 3000 by decide, by rw [hv, HT.out, HTS.out]; omega⟩
                        · unfold copiesM at hx
                          obtain ⟨i, -, rfl⟩ := List.mem_map.1 hx
                          exact ⟨show (4 : Nat) ≤ 3000 by decide, show (3 : Nat) ≤ 3000 by decide⟩
                      have cZ := meta_Pack t (some ⟨g, 0, none⟩) pu (((extrasM t y).set A (extraM t (A + 1))).set (A + 1) (extraM t A)) (copiesM j) cv cu w6 (by omega) (by rw [hlen3]; omega) (by rw [HLJ.out]; omega) hrd3 hru3 hfx3 HGX.out htr3 (HM.out.grew gw3) (u8_grew HU.out gw3) (HFO.out.grew gw3)
                      rw [show packP t.data.toList (((extrasM t y).set A (extraM t (A + 1))).set (A + 1) (extraM t A)) (copiesM j) = ([], 4) from hpb, hlen3, HLJ.out] at cZ
                      clear hbad hpb hfx3 htr3 hrd3 hru3 hoc3 hoc2 hap2 own6 own5 hg5 hg6 hg5' hg6'
                      go_wp2_with fail
                      refine Calls.mono cZ ?_
                      rintro e5 V5 ⟨rfl, g5⟩
                      go_wp2
                      go_ret
                      exact ⟨rfl, gw3.trans' g5⟩
                  | false =>
                    go_upto_region 28 with (first | (go_at_call 8; with_reducible refine (cA _ (by assumption)).mono ?_; rintro e1 W1 ⟨rfl, g1⟩; replace g1 := Grew.trans' (a := V2) (by assumption) g1) | (go_at_call 15; with_reducible refine (cP1 _ (by assumption)).mono ?_; rintro e1 W1 ⟨rfl, g1⟩; replace g1 := Grew.trans' (a := V2) (by assumption) g1) | (go_at_call 16; with_reducible refine (cP2 _ (by assumption)).mono ?_; rintro e1 W1 ⟨rfl, g1⟩; replace g1 := Grew.trans' (a := V2) (by assumption) g1))
                    have gY : Grew V2 W1 := by assumption
                    have gZY := gV2.trans' gY
                    rw [HA.out]
                    obtain ⟨cur, hcur, hfit, hown2⟩ := own_key (HO0.out.below gZY) (HXS.out A (by omega)) ⟨#[49]⟩
                    have hgb := grownBy_setRow W1 g (cur.toList.take (A * 2) ++ [Value.string ⟨#[49]⟩] ++ cur.toList.drop (A * 2 + 1)).toArray
                    have HO2 := Lib.hid hown2
                    have HGB := Lib.hid hgb
                    clear hown2 hgb
                    go_wp2_with (refine wpList_store_str rfl 9 _ _ rfl g (A * 2) _ cur ⟨#[49]⟩ rfl rfl hcur hfit (by kernel_rfl) ?_)
                    have ho2 := HO2.out
                    have hgb := HGB.out
                    simp only [List.append_assoc, List.cons_append, List.nil_append] at ho2 hgb
                    generalize W1.setRow g _ = W3 at ho2 hgb ⊢
                    have hgb' : W1.grownBy W3 (Value.slice (some ⟨g, 0, none⟩) y cv).ownBlock := hgb
                    obtain ⟨hoc3, -⟩ := (HOC.out.below gZY).other HAP.out.symm hgb' (.inl rfl)
                    have gw1 := hb.trans' gZY
                    have gw3 : Grew w W3 := Below.grown gw1 hgb gw1.size (fun k e => by cases e; exact hbg)
                    obtain ⟨p3, c3, e3, hrd3, -, -, -⟩ := ho2.val
                    have hval : (extraM t A).b = t ++ ⟨#[118]⟩ := rfl
                    rw [hval] at hrd3 e3
                    have hlen3 : ((extrasM t y).set A ⟨⟨#[49]⟩, t ++ ⟨#[118]⟩⟩).length = y := by rw [List.length_set, HLK.out]
                    rw [hlen3, HLK.out] at e3
                    injection e3 with e31 e32 e33
                    subst e31
                    subst e33
                    obtain ⟨pu3, cu3, e4, hru3, -, -, -⟩ := hoc3.val
                    rw [HLJ.out] at e4
                    injection e4 with e41 e42 e43
                    subst e41
                    subst e43
                    have hcn : (t ++ ⟨#[118]⟩ : ByteArray).data.toList.contains 0 = false := by
                      rcases HH0.out with h | h
                      · omega
                      · exact h
                    have hbad := many_wrong (t := t) (n := y) (k := A) (tw := false) (c := copiesM j) hN8 hy2' hAl (by omega) hcn
                    have hpb := pack_bad (t := t.data.toList) (.inr hbad)
                    have hfx3 : ∀ x ∈ (extrasM t y).set A ⟨⟨#[49]⟩, t ++ ⟨#[118]⟩⟩, FineW x := fun x hx => by
                      rcases List.mem_or_eq_of_mem_set hx with h | rfl
                      · exact HFX.out x h
                      · exact ⟨show (1 : Nat) ≤ 1073741824 by decide, by show (t ++ ⟨#[118]⟩ : ByteArray).size ≤ _; rw [HT.out, HTS.out]; omega⟩
                    have htr3 : (trailerP ((extrasM t y).set A ⟨⟨#[49]⟩, t ++ ⟨#[118]⟩⟩) (copiesM j)).length ≤ 1099511627776 := by
                      refine trailer_small (fun x hx => ?_) (fun x hx => ?_) (by rw [hlen3]; omega) (by rw [HLJ.out]; omega)
                      · rcases List.mem_or_eq_of_mem_set hx with h | rfl
                        · have hv := extras_value h
                          unfold extrasM at h
                          obtain ⟨i, -, rfl⟩ := List.mem_map.1 h
                          exact ⟨show (2 : Nat) ≤ 3000 by decide, by rw [hv, HT.out, HTS.out]; omega⟩
                        · exact ⟨show (1 : Nat) ≤ 3000 by decide, by show (t ++ ⟨#[118]⟩ : ByteArray).size ≤ _; rw [HT.out, HTS.out]; omega⟩
                      · unfold copiesM at hx
                        obtain ⟨i, -, rfl⟩ := List.mem_map.1 hx
                        exact ⟨show (4 : Nat) ≤ 3000 by decide, show (3 : Nat) ≤ 3000 by decide⟩
                    have cZ := meta_Pack t (some ⟨g, 0, none⟩) pu ((extrasM t y).set A ⟨⟨#[49]⟩, t ++ ⟨#[118]⟩⟩) (copiesM j) cv cu W3 (by omega) (by rw [hlen3]; omega) (by rw [HLJ.out]; omega) hrd3 hru3 hfx3 HGX.out htr3 (HM.out.grew gw3) (u8_grew HU.out gw3) (HFO.out.grew gw3)
                    rw [show packP t.data.toList ((extrasM t y).set A ⟨⟨#[49]⟩, t ++ ⟨#[118]⟩⟩) (copiesM j) = ([], 4) from hpb, hlen3, HLJ.out] at cZ
                    clear hbad hpb hfx3 htr3 hrd3 hru3 hoc3 ho2
                    refine Calls.mono cZ ?_
                    rintro e5 V5 ⟨rfl, g5⟩
                    go_wp2
                    go_ret
                    exact ⟨rfl, gw3.trans' g5⟩

end Go.Proofs.YtkdmhflcpfekfaaDoor

/- The law TreeModes of layer 8, walked. Conditions: the library's tables are laid. -/
import Derived.Test.YtpgcjljaokopaaaDoorLaw08b
import Derived.Test.YtpgcjljaokopaaaDoorConst
namespace Go.Proofs.YtpgcjljaokopaaaDoor
set_option linter.unusedVariables false
set_option linter.unusedSimpArgs false
open Go.RowKit

def id7 : List UInt8 := [7, 0, 0, 0, 0, 0, 0, 0, 0, 0, 0, 0, 0, 0, 0, 0, 0, 0, 0, 0]
/-- The words that are no mode's. -/
def badW (K J : Nat) : List UInt8 := [48 :: Pure.wordM (K + 1 : Nat), [49, 48, 48, 54, 54, 52], [49, 54, 48, 48, 48, 48], [48, 52, 48, 48, 48, 48], [], Pure.wordM (K + 1 : Nat) ++ [48], 45 :: Pure.wordM (K + 1 : Nat)].getD J []
def itemG (K : Nat) : Itm := ⟨(K + 1 : Nat), ⟨#[97]⟩, id7⟩
theorem right_G : ∀ K : Fin 4, rightI [itemG K.val] = true := by decide +kernel
theorem good_all4 (K : Nat) (hK : K < 4) : parseT (Pure.wordM (K + 1 : Nat) ++ [32, 97, 0] ++ id7) = some [itemG K] := by
  have h := parse_print (l := [itemG K]) (.inr (right_G ⟨K, hK⟩)) (fun x hx => by simp at hx; subst hx; rfl)
  have e : printI [itemG K] = Pure.wordM (K + 1 : Nat) ++ [32, 97, 0] ++ id7 := by
    unfold printI lineI itemG
    simp
  rwa [e] at h
theorem bad_fin : ∀ K : Fin 4, ∀ J : Fin 7, (parseT (badW K.val J.val ++ [32, 97, 0] ++ id7)).isNone = true := by decide +kernel
theorem bad_all4 (K J : Nat) (hK : K < 4) (hJ : J < 7) : parseT (badW K J ++ [32, 97, 0] ++ id7) = none := Option.isNone_iff_eq_none.1 (bad_fin ⟨K, hK⟩ ⟨J, hJ⟩)
theorem badW_len : ∀ K : Fin 4, ∀ J : Fin 7, (badW K.val J.val).length ≤ 7 := by decide +kernel

theorem ba_of_list {a : ByteArray} {l : List UInt8} (h : a.data.toList = l) : a = ⟨l.toArray⟩ := by
  subst h
  cases a
  simp

set_option maxRecDepth 100000 in
set_option maxHeartbeats 8000000 in
theorem law_TreeModes (x y : Int) (w : World) (hx0 : -9223372036854775808 ≤ x) (hx1 : x ≤ 9223372036854775807) (hy0 : -9223372036854775808 ≤ y) (hy1 : y ≤ 9223372036854775807) (hm : MaxOk w) (hu : U8Ok w) (hF : FoldOk w) :
    Calls Tryd.prog 8 #[.int .i64 x, .int .i64 y] w fun e w' => e = .returned (.bool true) ∧ Grew w w' := by
  have g0 : Grew w w := Below.refl _ _
  have ca := fun W (g : Grew w W) => awake08 W (hm.grew g) (u8_grew hu g) (hF.grew g)
  obtain ⟨K, hK, hK4⟩ := pick_wrap x 4 4 rfl (by decide) (by decide)
  obtain ⟨J, hJ, hJ7⟩ := pick_wrap y 7 7 rfl (by decide) (by decide)
  obtain ⟨D, hD⟩ : ∃ D : ByteArray, (⟨(Pure.wordM (K + 1 : Nat)).toArray⟩ : ByteArray) = D := ⟨_, rfl⟩
  have hDl : D.data.toList = Pure.wordM (K + 1 : Nat) := by rw [← hD]
  have hDs : D.size ≤ 6 := by rw [← hD]; have := Pure.wordM_len (K + 1 : Nat); show (Pure.wordM (K + 1 : Nat)).toArray.size ≤ 6; simpa using this
  obtain ⟨V0, hV0, gV0, -, hq0⟩ := boxed w #[.string ⟨#[49, 48, 48, 54, 52, 52]⟩, .string ⟨#[49, 48, 48, 55, 53, 53]⟩, .string ⟨#[49, 50, 48, 48, 48, 48]⟩, .string ⟨#[52, 48, 48, 48, 48]⟩] 9
  have hdig : V0.cell? ⟨w.heap.size, K, none⟩ = some (.string D) := by
    refine hq0 V0 (Below.refl _ _) K _ ?_
    rw [← hD]
    have : K = 0 ∨ K = 1 ∨ K = 2 ∨ K = 3 := by omega
    rcases this with rfl | rfl | rfl | rfl <;> rfl
  clear hq0
  obtain ⟨T0, h0⟩ : ∃ T : ByteArray, ⟨#[48]⟩ ++ D = T := ⟨_, rfl⟩
  obtain ⟨T5, h5⟩ : ∃ T : ByteArray, D ++ ⟨#[48]⟩ = T := ⟨_, rfl⟩
  obtain ⟨T6, h6⟩ : ∃ T : ByteArray, ⟨#[45]⟩ ++ D = T := ⟨_, rfl⟩
  obtain ⟨B, hB⟩ : ∃ B : ByteArray, (⟨(badW K J).toArray⟩ : ByteArray) = B := ⟨_, rfl⟩
  have hBl : B.data.toList = badW K J := by rw [← hB]
  have hBs : B.size ≤ 7 := by rw [← hB]; have := badW_len ⟨K, hK4⟩ ⟨J, hJ7⟩; show (badW K J).toArray.size ≤ 7; simpa using this
  have e0 : T0 = ⟨(badW K 0).toArray⟩ := ba_of_list (by rw [← h0, append_list, hDl]; rfl)
  have e5 : T5 = ⟨(badW K 5).toArray⟩ := ba_of_list (by rw [← h5, append_list, hDl]; rfl)
  have e6 : T6 = ⟨(badW K 6).toArray⟩ := ba_of_list (by rw [← h6, append_list, hDl]; rfl)
  have hbad : (#[.string T0, .string ⟨#[49, 48, 48, 54, 54, 52]⟩, .string ⟨#[49, 54, 48, 48, 48, 48]⟩, .string ⟨#[48, 52, 48, 48, 48, 48]⟩, .string ⟨#[]⟩, .string T5, .string T6] : Array Value)[J]? = some (.string B) := by
    rw [← hB, e0, e5, e6]
    have : J = 0 ∨ J = 1 ∨ J = 2 ∨ J = 3 ∨ J = 4 ∨ J = 5 ∨ J = 6 := by omega
    rcases this with rfl | rfl | rfl | rfl | rfl | rfl | rfl <;> rfl
  obtain ⟨S1, hS1⟩ : ∃ T : ByteArray, D ++ ⟨#[32, 97, 0]⟩ = T := ⟨_, rfl⟩
  obtain ⟨S2, hS2⟩ : ∃ T : ByteArray, B ++ ⟨#[32, 97, 0]⟩ = T := ⟨_, rfl⟩
  have l1 : S1.data.toList ++ id7 = Pure.wordM (K + 1 : Nat) ++ [32, 97, 0] ++ id7 := by rw [← hS1, append_list, hDl]
  have l2 : S2.data.toList ++ id7 = badW K J ++ [32, 97, 0] ++ id7 := by rw [← hS2, append_list, hBl]
  have z1 : S1.size ≤ 9 := by rw [← hS1, ByteArray.size_append]; show D.size + 3 ≤ 9; omega
  have z2 : S2.size ≤ 10 := by rw [← hS2, ByteArray.size_append]; show B.size + 3 ≤ 10; omega
  have p1 := good_all4 K hK4
  have p2 := bad_all4 K J hK4 hJ7
  rw [← l1] at p1
  rw [← l2] at p2
  have kc := run_conv_bytes
  have hM : (1 : Int) + (K : Int) = ((K + 1 : Nat) : Int) := by omega
  have HBAD := Lib.hid hbad
  have HP1 := Lib.hid p1
  have HP2 := Lib.hid p2
  have HM := Lib.hid hm
  have HU := Lib.hid hu
  have HFO := Lib.hid hF
  clear hbad p1 p2 l1 l2 e0 e5 e6 hDl hBl hD hB hm hu hF hx0 hx1 hy0 hy1
  go_enter Tryd.func8, Tryd.ntmps8
  go_wp2_with (refine wpList_store_new rfl 23 _ _ rfl V0 _ rfl (Lib.byteCells id7) rfl rfl rfl (infoId' rfl) (one_bytes' _) ?_)
  intro V gV gVV rV fV sV
  have gwV := gV0.trans' gV
  have hsl := run_slice_id V0.heap.size 0
  have hs1l : S1.data.toList.length = S1.size := Array.length_toList
  have HS1L := Lib.hid hs1l
  clear hs1l
  go_wp2_with (at_builtin; refine wpList_append_B rfl _ _ rfl V.heap.size _ S1.data.toList id7 _ _ rfl rfl (OwnB.conv S1 (Nat.le_refl _) (by omega)) (rd_range (rV _ (bytesWorld_grew V S1))) (bytesWorld_grew V S1).size (by rw [HS1L.out]; show S1.size + 20 ≤ _; omega) ?_)
  intro v3 W3 hown3 hb3 hg3
  have gV3 : Grew V W3 := Below.trans (bytesWorld_grew V S1) hb3
  obtain ⟨p3, c3, rfl, hr3, hc3, hn3⟩ := hown3.none_cap
  have gw3 := gwV.trans' gV3
  have cQ := tree_Parse p3 (S1.data.toList ++ id7) c3 W3 hr3 hn3 hc3 (by rw [List.length_append, HS1L.out]; show S1.size + 20 ≤ _; omega) (HM.out.grew gw3) (u8_grew HU.out gw3) (HFO.out.grew gw3)
  clear hown3 hr3
  generalize hL1 : S1.data.toList ++ id7 = L1 at *
  go_wp2_with fail
  refine Calls.mono cQ ?_
  rintro e4 W4 ⟨g4, ⟨hbg, _⟩ | ⟨_, hn, _⟩ | ⟨_, z, vz, hpz, _, rfl, hownz⟩⟩
  · exfalso
    rw [← hL1, List.length_append, HS1L.out] at hbg
    have : id7.length = 20 := rfl
    omega
  · rw [HP1.out] at hn; cases hn
  obtain rfl : [itemG K] = z := Option.some.inj (HP1.out.symm.trans hpz)
  have gw4 := gw3.trans' g4
  have gV4 := gV3.trans' g4
  obtain ⟨p4, c4, rfl, hr4, hc4⟩ := hownz.none_cap
  have hr4' : ∃ b4 o4, p4 = some ⟨b4, o4, none⟩ ∧ ∀ W, Grew W4 W → W.rangeAt b4 o4 (itemG K).cells := by
    rcases hr4 with h | ⟨b4, o4, rfl, h⟩
    · cases h
    · exact ⟨b4, o4, rfl, fun W g => by have := h 0 _ rfl; rw [Nat.zero_mul, Nat.add_zero] at this; exact range_grew this g⟩
  obtain ⟨b4, o4, rfl, rG⟩ := hr4'
  have hs2l : S2.data.toList.length = S2.size := Array.length_toList
  have HS2L := Lib.hid hs2l
  obtain ⟨V5, hV5, g45, gV55, hq5⟩ := boxed W4 #[.string T0, .string ⟨#[49, 48, 48, 54, 54, 52]⟩, .string ⟨#[49, 54, 48, 48, 48, 48]⟩, .string ⟨#[48, 52, 48, 48, 48, 48]⟩, .string ⟨#[]⟩, .string T5, .string T6] 9
  have hb5 := hq5 V5 gV55 J _ HBAD.out
  have gV5 := gV4.trans' g45
  have gw5 := gw4.trans' g45
  clear hs2l cQ hpz hownz hr4 hL1 hq5 gV3 g4 gV4 gw4 gw3 hV0 hdig
  go_wp2_with (at_builtin; refine wpList_append_B rfl _ _ rfl V5.heap.size _ S2.data.toList id7 _ _ rfl rfl (OwnB.conv S2 (Nat.le_refl _) (by omega)) (rd_range (rV _ (gV5.trans' (bytesWorld_grew V5 S2)))) (bytesWorld_grew V5 S2).size (by rw [HS2L.out]; show S2.size + 20 ≤ _; omega) ?_)
  intro v6 W6 hown6 hb6 hg6
  have g56 : Grew V5 W6 := Below.trans (bytesWorld_grew V5 S2) hb6
  obtain ⟨p6, c6, rfl, hr6, hc6, hn6⟩ := hown6.none_cap
  have gw6 := gw5.trans' g56
  have cQ := tree_Parse p6 (S2.data.toList ++ id7) c6 W6 hr6 hn6 hc6 (by rw [List.length_append, HS2L.out]; show S2.size + 20 ≤ _; omega) (HM.out.grew gw6) (u8_grew HU.out gw6) (HFO.out.grew gw6)
  clear hown6 hr6
  generalize hL2 : S2.data.toList ++ id7 = L2 at *
  go_wp2_with fail
  refine Calls.mono cQ ?_
  rintro e7 W7 ⟨g7, ⟨hbg, _⟩ | ⟨_, hn, rfl⟩ | ⟨_, z, vz, hpz, _, rfl, hownz⟩⟩
  · exfalso
    rw [← hL2, List.length_append, HS2L.out] at hbg
    have : id7.length = 20 := rfl
    omega
  · have g47 := g45.trans' (g56.trans' g7)
    have gV7 := gV5.trans' (g56.trans' g7)
    have gw7 := gw6.trans' g7
    have rG7 := fun W (g : Grew W7 W) => rG W (g47.trans' g)
    have rV7 := fun W (g : Grew W7 W) => rV W (gV7.trans' g)
    have ca7 := fun W (g : Grew W7 W) => ca W (gw7.trans' g)
    have g77 : Grew W7 W7 := Below.refl _ _
    have nfG := infoItem (itemG K) rfl
    have nf7 : (Tryd.prog.info? 23).map (·.size) = some (Lib.byteCells id7).length := infoId' rfl
    have e := fun W => eql_item (itemG K) (itemG K) rfl rfl W
    have gz := fun W op x y => guard_item op x y (itemG K) (itemG K) W
    simp only [eqI_refl] at e
    have hbG := fun W => run_build_item ((K : Int) + 1) ⟨#[97]⟩ id7 rfl W
    have hG : (⟨(K : Int) + 1, ⟨#[97]⟩, id7⟩ : Itm) = itemG K := rfl
    rw [hG] at hbG
    generalize itemG K = G at *
    clear cQ hn hL2 hb5 hV5 ca rG rV hsl kc
    go_wp2
    refine wp_region_held_drew (S := fun w' => Grew W7 w') (by kernel_rfl) (by first | assumption | exact Below.drew (by assumption)) (fun hHeld => ?_)
    refine wpAnyH_ready (rs := [0]) (by kernel_rfl) (by simp) ?_
    refine AllReadyH.cons rfl (fun K hK => ?_) AllReadyH.nil
    go_simp
    (go_at_call 9; with_reducible refine (ca7 _ (by first | assumption | exact Below.drew (by assumption))).mono ?_; rintro e1 W1 ⟨rfl, g1⟩; replace g1 := Grew.trans' (a := W7) (by first | assumption | exact Below.drew (by assumption)) g1)
    go_wp2_with fail
    refine hK.out _ _ (by first | assumption | exact Below.drew (by assumption)) (fun hHeld => ?_)
    clear hK K
    try simp only [Act.put, List.getElem_toArray, List.getElem_cons_succ, List.getElem_cons_zero, List.setIfInBounds_toArray, List.set_cons_zero, List.set_cons_succ]
    first
      | (refine wpAnyH_take (i := 1) (v := ?_) rfl (by kernel_rfl) (by kernel_rfl) (by kernel_rfl) (fun _ _ _ h => h) (Or.inl ⟨by rfl, ?_⟩) (by assumption) ?_; rotate_left 1; focus (intro w hSw; (try dsimp only at hSw); go_simp; (try with_reducible rfl)))
      | fail
    try simp only [Act.put, List.getElem_toArray, List.getElem_cons_succ, List.getElem_cons_zero, List.setIfInBounds_toArray, List.set_cons_zero, List.set_cons_succ]
    first
      | (refine wpAnyH_take (i := 2) (v := ?_) rfl (by kernel_rfl) (by kernel_rfl) (by kernel_rfl) (fun _ _ _ h => h) (Or.inl ⟨by rfl, ?_⟩) (by assumption) ?_; rotate_left 1; focus (intro w hSw; (try dsimp only at hSw); go_simp; (try with_reducible rfl)))
      | (refine wpAnyH_take (i := 2) (v := undef) rfl (by kernel_rfl) (by kernel_rfl) (by kernel_rfl) (fun _ _ _ h => h) (Or.inr ⟨by rfl, rfl⟩) (by assumption) ?_)
      | fail
    try simp only [Act.put, List.getElem_toArray, List.getElem_cons_succ, List.getElem_cons_zero, List.setIfInBounds_toArray, List.set_cons_zero, List.set_cons_succ]
    first
      | (refine wpAnyH_take (i := 3) (v := ?_) rfl (by kernel_rfl) (by kernel_rfl) (by kernel_rfl) (fun _ _ _ h => h) (Or.inl ⟨by rfl, ?_⟩) (by assumption) ?_; rotate_left 1; focus (intro w hSw; (try dsimp only at hSw); go_simp; (try with_reducible rfl)))
      | (refine wpAnyH_take (i := 3) (v := undef) rfl (by kernel_rfl) (by kernel_rfl) (by kernel_rfl) (fun _ _ _ h => h) (Or.inr ⟨by rfl, rfl⟩) (by assumption) ?_)
      | fail
    try simp only [Act.put, List.getElem_toArray, List.getElem_cons_succ, List.getElem_cons_zero, List.setIfInBounds_toArray, List.set_cons_zero, List.set_cons_succ]
    first
      | (refine wpAnyH_take (i := 4) (v := ?_) rfl (by kernel_rfl) (by kernel_rfl) (by kernel_rfl) (fun _ _ _ h => h) (Or.inl ⟨by rfl, ?_⟩) (by assumption) ?_; rotate_left 1; focus (intro w hSw; (try dsimp only at hSw); go_simp; (try with_reducible rfl)))
      | fail
    try simp only [Act.put, List.getElem_toArray, List.getElem_cons_succ, List.getElem_cons_zero, List.setIfInBounds_toArray, List.set_cons_zero, List.set_cons_succ]
    first
      | (refine wpAnyH_take (i := 5) (v := ?_) rfl (by kernel_rfl) (by kernel_rfl) (by kernel_rfl) (fun _ _ _ h => h) (Or.inl ⟨by rfl, ?_⟩) (by assumption) ?_; rotate_left 1; focus (intro w hSw; (try dsimp only at hSw); go_simp; (try with_reducible rfl)))
      | fail
    try simp only [Act.put, List.getElem_toArray, List.getElem_cons_succ, List.getElem_cons_zero, List.setIfInBounds_toArray, List.set_cons_zero, List.set_cons_succ]
    first
      | (refine wpAnyH_take (i := 6) (v := ?_) rfl (by kernel_rfl) (by kernel_rfl) (by kernel_rfl) (fun _ _ _ h => h) (Or.inl ⟨by rfl, ?_⟩) (by assumption) ?_; rotate_left 1; focus (intro w hSw; (try dsimp only at hSw); go_simp; (try with_reducible rfl)))
      | (refine wpAnyH_take (i := 6) (v := undef) rfl (by kernel_rfl) (by kernel_rfl) (by kernel_rfl) (fun _ _ _ h => h) (Or.inr ⟨by rfl, rfl⟩) (by assumption) ?_)
      | fail
    try simp only [Act.put, List.getElem_toArray, List.getElem_cons_succ, List.getElem_cons_zero, List.setIfInBounds_toArray, List.set_cons_zero, List.set_cons_succ]
    first
      | (refine wpAnyH_take (i := 7) (v := ?_) rfl (by kernel_rfl) (by kernel_rfl) (by kernel_rfl) (fun _ _ _ h => h) (Or.inl ⟨by rfl, ?_⟩) (by assumption) ?_; rotate_left 1; focus (intro w hSw; (try dsimp only at hSw); go_simp; (try with_reducible rfl)))
      | (refine wpAnyH_take (i := 7) (v := undef) rfl (by kernel_rfl) (by kernel_rfl) (by kernel_rfl) (fun _ _ _ h => h) (Or.inr ⟨by rfl, rfl⟩) (by assumption) ?_)
      | fail
    try simp only [Act.put, List.getElem_toArray, List.getElem_cons_succ, List.getElem_cons_zero, List.setIfInBounds_toArray, List.set_cons_zero, List.set_cons_succ]
    first
      | (refine wpAnyH_take (i := 8) (v := ?_) rfl (by kernel_rfl) (by kernel_rfl) (by kernel_rfl) (fun _ _ _ h => h) (Or.inl ⟨by rfl, ?_⟩) (by assumption) ?_; rotate_left 1; focus (intro w hSw; (try dsimp only at hSw); go_simp; (try with_reducible rfl)))
      | (refine wpAnyH_take (i := 8) (v := undef) rfl (by kernel_rfl) (by kernel_rfl) (by kernel_rfl) (fun _ _ _ h => h) (Or.inr ⟨by rfl, rfl⟩) (by assumption) ?_)
      | fail
    try simp only [Act.put, List.getElem_toArray, List.getElem_cons_succ, List.getElem_cons_zero, List.setIfInBounds_toArray, List.set_cons_zero, List.set_cons_succ]
    first
      | (refine wpAnyH_take (i := 9) (v := ?_) rfl (by kernel_rfl) (by kernel_rfl) (by kernel_rfl) (fun _ _ _ h => h) (Or.inl ⟨by rfl, ?_⟩) (by assumption) ?_; rotate_left 1; focus (intro w hSw; (try dsimp only at hSw); go_simp; (try with_reducible rfl)))
      | fail
    try simp only [Act.put, List.getElem_toArray, List.getElem_cons_succ, List.getElem_cons_zero, List.setIfInBounds_toArray, List.set_cons_zero, List.set_cons_succ]
    first
      | (refine wpAnyH_take (i := 10) (v := ?_) rfl (by kernel_rfl) (by kernel_rfl) (by kernel_rfl) (fun _ _ _ h => h) (Or.inl ⟨by rfl, ?_⟩) (by assumption) ?_; rotate_left 1; focus (intro w hSw; (try dsimp only at hSw); go_simp; (try with_reducible rfl)))
      | fail
    try simp only [Act.put, List.getElem_toArray, List.getElem_cons_succ, List.getElem_cons_zero, List.setIfInBounds_toArray, List.set_cons_zero, List.set_cons_succ]
    first
      | (refine wpAnyH_take (i := 11) (v := ?_) rfl (by kernel_rfl) (by kernel_rfl) (by kernel_rfl) (fun _ _ _ h => h) (Or.inl ⟨by rfl, ?_⟩) (by assumption) ?_; rotate_left 1; focus (intro w hSw; (try dsimp only at hSw); go_simp; (try with_reducible rfl)))
      | (refine wpAnyH_take (i := 11) (v := undef) rfl (by kernel_rfl) (by kernel_rfl) (by kernel_rfl) (fun _ _ _ h => h) (Or.inr ⟨by rfl, rfl⟩) (by assumption) ?_)
      | fail
    try simp only [Act.put, List.getElem_toArray, List.getElem_cons_succ, List.getElem_cons_zero, List.setIfInBounds_toArray, List.set_cons_zero, List.set_cons_succ]
    first
      | (refine wpAnyH_take (i := 12) (v := ?_) rfl (by kernel_rfl) (by kernel_rfl) (by kernel_rfl) (fun _ _ _ h => h) (Or.inl ⟨by rfl, ?_⟩) (by assumption) ?_; rotate_left 1; focus (intro w hSw; (try dsimp only at hSw); go_simp; (try with_reducible rfl)))
      | (refine wpAnyH_take (i := 12) (v := undef) rfl (by kernel_rfl) (by kernel_rfl) (by kernel_rfl) (fun _ _ _ h => h) (Or.inr ⟨by rfl, rfl⟩) (by assumption) ?_)
      | fail
    try simp only [Act.put, List.getElem_toArray, List.getElem_cons_succ, List.getElem_cons_zero, List.setIfInBounds_toArray, List.set_cons_zero, List.set_cons_succ]
    first
      | (refine' wpAnyH_take (i := 13) (v := _) rfl (by kernel_rfl) (by kernel_rfl) (by kernel_rfl) (fun _ _ _ h => h) (yieldsIf_load_mid (by rfl) _ _ rfl _ _ rfl _ _ (fun w hSw => (by (first | exact rG7 _ hSw | exact rV7 _ hSw))) Tryd.underlying25 rfl (by first | assumption | kernel_rfl)) (by assumption) ?_)
      | (refine wpAnyH_take (i := 13) (v := undef) rfl (by kernel_rfl) (by kernel_rfl) (by kernel_rfl) (fun _ _ _ h => h) (Or.inr ⟨by rfl, rfl⟩) (by assumption) ?_)
      | fail
    try simp only [Act.put, List.getElem_toArray, List.getElem_cons_succ, List.getElem_cons_zero, List.setIfInBounds_toArray, List.set_cons_zero, List.set_cons_succ]
    first
      | (refine wpAnyH_take (i := 14) (v := ?_) rfl (by kernel_rfl) (by kernel_rfl) (by kernel_rfl) (fun _ _ _ h => h) (Or.inl ⟨by rfl, ?_⟩) (by assumption) ?_; rotate_left 1; focus (intro w hSw; (try dsimp only at hSw); go_simp; (try with_reducible rfl)))
      | (refine wpAnyH_take (i := 14) (v := undef) rfl (by kernel_rfl) (by kernel_rfl) (by kernel_rfl) (fun _ _ _ h => h) (Or.inr ⟨by rfl, rfl⟩) (by assumption) ?_)
      | fail
    try simp only [Act.put, List.getElem_toArray, List.getElem_cons_succ, List.getElem_cons_zero, List.setIfInBounds_toArray, List.set_cons_zero, List.set_cons_succ]
    first
      | (refine' wpAnyH_take (i := 15) (v := _) rfl (by kernel_rfl) (by kernel_rfl) (by kernel_rfl) (fun _ _ _ h => h) (yieldsIf_load_mid (by rfl) _ _ rfl _ _ rfl _ _ (fun w hSw => (by (first | exact rG7 _ hSw | exact rV7 _ hSw))) Tryd.underlying23 rfl (by first | assumption | kernel_rfl)) (by assumption) ?_)
      | (refine wpAnyH_take (i := 15) (v := undef) rfl (by kernel_rfl) (by kernel_rfl) (by kernel_rfl) (fun _ _ _ h => h) (Or.inr ⟨by rfl, rfl⟩) (by assumption) ?_)
      | fail
    try simp only [Act.put, List.getElem_toArray, List.getElem_cons_succ, List.getElem_cons_zero, List.setIfInBounds_toArray, List.set_cons_zero, List.set_cons_succ]
    first
      | (refine wpAnyH_take (i := 16) (v := .agg G.cells.toArray) rfl (by kernel_rfl) (by kernel_rfl) (by kernel_rfl) (fun _ _ _ h => h) (Or.inl ⟨by rfl, fun w hSw => (by exact exec_build _ _ rfl _ (hbG w))⟩) (by assumption) ?_)
      | (refine wpAnyH_take (i := 16) (v := undef) rfl (by kernel_rfl) (by kernel_rfl) (by kernel_rfl) (fun _ _ _ h => h) (Or.inr ⟨by rfl, rfl⟩) (by assumption) ?_)
      | fail
    try simp only [Act.put, List.getElem_toArray, List.getElem_cons_succ, List.getElem_cons_zero, List.setIfInBounds_toArray, List.set_cons_zero, List.set_cons_succ]
    first
      | (refine wpAnyH_take (i := 17) (v := ?_) rfl (by kernel_rfl) (by kernel_rfl) (by kernel_rfl) (fun _ _ _ h => h) (Or.inl ⟨by rfl, ?_⟩) (by assumption) ?_; rotate_left 1; focus (intro w hSw; (try dsimp only at hSw); go_simp; (try with_reducible rfl)))
      | (refine wpAnyH_take (i := 17) (v := undef) rfl (by kernel_rfl) (by kernel_rfl) (by kernel_rfl) (fun _ _ _ h => h) (Or.inr ⟨by rfl, rfl⟩) (by assumption) ?_)
      | fail
    try simp only [Act.put, List.getElem_toArray, List.getElem_cons_succ, List.getElem_cons_zero, List.setIfInBounds_toArray, List.set_cons_zero, List.set_cons_succ]
    first
      | (refine wpAnyH_take (i := 18) (v := ?_) rfl (by kernel_rfl) (by kernel_rfl) (by kernel_rfl) (fun _ _ _ h => h) (Or.inl ⟨by rfl, ?_⟩) (by assumption) ?_; rotate_left 1; focus (intro w hSw; (try dsimp only at hSw); go_simp; (try with_reducible rfl)))
      | fail
    try simp only [Act.put, List.getElem_toArray, List.getElem_cons_succ, List.getElem_cons_zero, List.setIfInBounds_toArray, List.set_cons_zero, List.set_cons_succ]
    first
      | (refine wpAnyH_take (i := 19) (v := ?_) rfl (by kernel_rfl) (by kernel_rfl) (by kernel_rfl) (fun _ _ _ h => h) (Or.inl ⟨by rfl, ?_⟩) (by assumption) ?_; rotate_left 1; focus (intro w hSw; (try dsimp only at hSw); go_simp; (try with_reducible rfl)))
      | fail
    try simp only [Act.put, List.getElem_toArray, List.getElem_cons_succ, List.getElem_cons_zero, List.setIfInBounds_toArray, List.set_cons_zero, List.set_cons_succ]
    first
      | (refine wpAnyH_take (i := 20) (v := ?_) rfl (by kernel_rfl) (by kernel_rfl) (by kernel_rfl) (fun _ _ _ h => h) (Or.inl ⟨by rfl, ?_⟩) (by assumption) ?_; rotate_left 1; focus (intro w hSw; (try dsimp only at hSw); go_simp; (try with_reducible rfl)))
      | (refine wpAnyH_take (i := 20) (v := undef) rfl (by kernel_rfl) (by kernel_rfl) (by kernel_rfl) (fun _ _ _ h => h) (Or.inr ⟨by rfl, rfl⟩) (by assumption) ?_)
      | fail
    try simp only [Act.put, List.getElem_toArray, List.getElem_cons_succ, List.getElem_cons_zero, List.setIfInBounds_toArray, List.set_cons_zero, List.set_cons_succ]
    first
      | (refine wpAnyH_take (i := 21) (v := ?_) rfl (by kernel_rfl) (by kernel_rfl) (by kernel_rfl) (fun _ _ _ h => h) (Or.inl ⟨by rfl, ?_⟩) (by assumption) ?_; rotate_left 1; focus (intro w hSw; (try dsimp only at hSw); go_simp; (try with_reducible rfl)))
      | (refine wpAnyH_take (i := 21) (v := undef) rfl (by kernel_rfl) (by kernel_rfl) (by kernel_rfl) (fun _ _ _ h => h) (Or.inr ⟨by rfl, rfl⟩) (by assumption) ?_)
      | fail
    try simp only [Act.put, List.getElem_toArray, List.getElem_cons_succ, List.getElem_cons_zero, List.setIfInBounds_toArray, List.set_cons_zero, List.set_cons_succ]
    first
      | (refine wpAnyH_take (i := 22) (v := ?_) rfl (by kernel_rfl) (by kernel_rfl) (by kernel_rfl) (fun _ _ _ h => h) (Or.inl ⟨by rfl, ?_⟩) (by assumption) ?_; rotate_left 1; focus (intro w hSw; (try dsimp only at hSw); go_simp; (try with_reducible rfl)))
      | fail
    try simp only [Act.put, List.getElem_toArray, List.getElem_cons_succ, List.getElem_cons_zero, List.setIfInBounds_toArray, List.set_cons_zero, List.set_cons_succ]
    first
      | (refine wpAnyH_take (i := 23) (v := ?_) rfl (by kernel_rfl) (by kernel_rfl) (by kernel_rfl) (fun _ _ _ h => h) (Or.inl ⟨by rfl, ?_⟩) (by assumption) ?_; rotate_left 1; focus (intro w hSw; (try dsimp only at hSw); go_simp; (try with_reducible rfl)))
      | fail
    try simp only [Act.put, List.getElem_toArray, List.getElem_cons_succ, List.getElem_cons_zero, List.setIfInBounds_toArray, List.set_cons_zero, List.set_cons_succ]
    first
      | (refine wpAnyH_take (i := 24) (v := ?_) rfl (by kernel_rfl) (by kernel_rfl) (by kernel_rfl) (fun _ _ _ h => h) (Or.inl ⟨by rfl, ?_⟩) (by assumption) ?_; rotate_left 1; focus (intro w hSw; (try dsimp only at hSw); go_simp; (try with_reducible rfl)))
      | (refine wpAnyH_take (i := 24) (v := undef) rfl (by kernel_rfl) (by kernel_rfl) (by kernel_rfl) (fun _ _ _ h => h) (Or.inr ⟨by rfl, rfl⟩) (by assumption) ?_)
      | fail
    try simp only [Act.put, List.getElem_toArray, List.getElem_cons_succ, List.getElem_cons_zero, List.setIfInBounds_toArray, List.set_cons_zero, List.set_cons_succ]
    first
      | (refine wpAnyH_take (i := 25) (v := ?_) rfl (by kernel_rfl) (by kernel_rfl) (by kernel_rfl) (fun _ _ _ h => h) (Or.inl ⟨by rfl, ?_⟩) (by assumption) ?_; rotate_left 1; focus (intro w hSw; (try dsimp only at hSw); go_simp; (try with_reducible rfl)))
      | (refine wpAnyH_take (i := 25) (v := undef) rfl (by kernel_rfl) (by kernel_rfl) (by kernel_rfl) (fun _ _ _ h => h) (Or.inr ⟨by rfl, rfl⟩) (by assumption) ?_)
      | fail
    try simp only [Act.put, List.getElem_toArray, List.getElem_cons_succ, List.getElem_cons_zero, List.setIfInBounds_toArray, List.set_cons_zero, List.set_cons_succ]
    first
      | (refine wpAnyH_take (i := 26) (v := ?_) rfl (by kernel_rfl) (by kernel_rfl) (by kernel_rfl) (fun _ _ _ h => h) (Or.inl ⟨by rfl, ?_⟩) (by assumption) ?_; rotate_left 1; focus (intro w hSw; (try dsimp only at hSw); go_simp; (try with_reducible rfl)))
      | (refine wpAnyH_take (i := 26) (v := undef) rfl (by kernel_rfl) (by kernel_rfl) (by kernel_rfl) (fun _ _ _ h => h) (Or.inr ⟨by rfl, rfl⟩) (by assumption) ?_)
      | fail
    try simp only [Act.put, List.getElem_toArray, List.getElem_cons_succ, List.getElem_cons_zero, List.setIfInBounds_toArray, List.set_cons_zero, List.set_cons_succ]
    first
      | (refine wpAnyH_take (i := 27) (v := ?_) rfl (by kernel_rfl) (by kernel_rfl) (by kernel_rfl) (fun _ _ _ h => h) (Or.inl ⟨by rfl, ?_⟩) (by assumption) ?_; rotate_left 1; focus (intro w hSw; (try dsimp only at hSw); go_simp; (try with_reducible rfl)))
      | fail
    try simp only [Act.put, List.getElem_toArray, List.getElem_cons_succ, List.getElem_cons_zero, List.setIfInBounds_toArray, List.set_cons_zero, List.set_cons_succ]
    first
      | (refine wpAnyH_take (i := 28) (v := ?_) rfl (by kernel_rfl) (by kernel_rfl) (by kernel_rfl) (fun _ _ _ h => h) (Or.inl ⟨by rfl, ?_⟩) (by assumption) ?_; rotate_left 1; focus (intro w hSw; (try dsimp only at hSw); go_simp; (try with_reducible rfl)))
      | fail
    try simp only [Act.put, List.getElem_toArray, List.getElem_cons_succ, List.getElem_cons_zero, List.setIfInBounds_toArray, List.set_cons_zero, List.set_cons_succ]
    refine wpAnyH_done (by kernel_rfl) ?_ _
    go_wp2
    go_ret
    exact ⟨rfl, gw7.trans' (by assumption)⟩
  · rw [HP2.out] at hpz; cases hpz

end Go.Proofs.YtpgcjljaokopaaaDoor

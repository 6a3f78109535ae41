/- The reference's Parse: the ident that a text is. Conditions: the library's tables are laid; the text is at most 2^30 bytes long. -/
import Derived.Test.YtemojhcbhljemaaGreatDoorIdent12
import Derived.Test.YtemojhcbhljemaaGreatDoorIdent11
import Derived.Test.YtemojhcbhljemaaGreatDoorIdent10
import Derived.Test.YtemojhcbhljemaaGreatDoorM1
import Derived.Laws.Tables
namespace Go.Proofs.YtemojhcbhljemaaGreatDoor
set_option linter.unusedVariables false
set_option linter.unusedSimpArgs false
open Go.RowKit

theorem fields23 {W V : World} {g : Nat} {nm em : ByteArray} (h : W.heap[g]? = some (.cells #[.string nm, .string em, .int .i64 0, .int .i64 0] 26 (0, 0))) (hV : Grew V W) (hg : V.heap.size ≤ g) (v z : Int) :
    W.cell? ⟨g, 2, none⟩ = some (.int .i64 0) ∧ W.frozen? ⟨g, 2, none⟩ = false ∧ (W.setCell ⟨g, 2, none⟩ (.int .i64 v)).cell? ⟨g, 3, none⟩ = some (.int .i64 0) ∧ (W.setCell ⟨g, 2, none⟩ (.int .i64 v)).frozen? ⟨g, 3, none⟩ = false ∧
    ∃ U, (W.setCell ⟨g, 2, none⟩ (.int .i64 v)).setCell ⟨g, 3, none⟩ (.int .i64 z) = U ∧ Grew V U ∧ (∀ k, k ≠ g → U.heap[k]? = W.heap[k]?) ∧ (∀ W', Grew U W' → W'.rangeAt g 0 [.string nm, .string em, .int .i64 v, .int .i64 z]) := by
  have h1 := set_cell_any W g 2 _ _ _ (.int .i64 v) h
  have h2 := set_cell_any (W.setCell ⟨g, 2, none⟩ (.int .i64 v)) g 3 _ _ _ (.int .i64 z) h1
  refine ⟨by rw [cell_of_row W g 2 _ _ _ h]; rfl, by simp [World.frozen?, h], by rw [cell_of_row _ g 3 _ _ _ h1]; rfl, by simp [World.frozen?, h1], _, rfl, (hV.setCell (p := ⟨g, 2, none⟩) hg _).setCell (p := ⟨g, 3, none⟩) hg _, fun k hk => ?_, fun W' g' => range_grew ?_ g'⟩
  · rw [heap_setCell_other _ ⟨g, 3, none⟩ k _ hk, heap_setCell_other _ ⟨g, 2, none⟩ k _ hk]
  · have := range_row h2
    simpa using this

set_option maxRecDepth 100000 in
set_option maxHeartbeats 8000000 in
theorem ref06_Parse (s : ByteArray) (w : World) (hs : s.size ≤ 1073741824) (hu : U8Ok w) :
    Calls Tryz.prog 30 #[.string s] w (ParseN s.data.toList w) := by
  obtain ⟨V0, hV0, gw0, g0, -, -, -, -⟩ := boxedN w zeroN
  have hb0 : V0.heap[w.heap.size]? = some (.cells zeroN.cells.toArray 26 (0, 0)) := by rw [← hV0]; exact heap_alloc_new w _
  have hb := fun W (g : Grew V0 W) => (g.block w.heap.size (by rw [← hV0]; simp)).trans hb0
  have hbw := fun W (g : Grew V0 W) => gw0.trans' g
  have hsl : s.data.toList.length = s.size := Array.length_toList
  have HU := Lib.hid hu
  have HSL := Lib.hid hsl
  have hwV : w.heap.size < V0.heap.size := by rw [← hV0]; simp
  clear hu hb0 hsl
  simp only [Idn.cells] at hV0
  go_enter Tryz.func30, Tryz.ntmps30
  go_wp2
  go_loopw [4, 5, 6] (fun o e i wr => ∃ (k : Nat) (O E : Int), o = .int .i64 O ∧ e = .int .i64 E ∧ i = .int .i64 (k : Int) ∧ k ≤ s.size ∧ wr = V0 ∧ Hid (Pure.FI s.data.toList 60 k O) ∧ Hid (Pure.FI s.data.toList 62 k E)) (fun _ _ i _ => s.size - (intOf i).toNat)
  case atStart => exact ⟨0, -1, -1, rfl, rfl, rfl, Nat.zero_le _, rfl, Lib.hid (Pure.FI.start _ _), Lib.hid (Pure.FI.start _ _)⟩
  case round =>
    obtain ⟨k, O, E, rfl, rfl, rfl, hk, hwr, hO, hE⟩ := hrel
    obtain rfl : V0 = wr := hwr.symm
    by_cases hlt : k < s.size
    · have hx := Lib.data_getElem? s k hlt
      obtain ⟨c, hc⟩ : ∃ c, s[k]'hlt = c := ⟨_, rfl⟩
      rw [hc] at hx
      have hix := fun W => index_str s k c hx W
      have e60 := byte_is c 60 (by decide)
      have e62 := byte_is c 62 (by decide)
      rw [show ((60 : Nat) : Int) = 60 from rfl, show UInt8.ofNat 60 = 60 from rfl] at e60
      rw [show ((62 : Nat) : Int) = 62 from rfl, show UInt8.ofNat 62 = 62 from rfl] at e62
      have HX := Lib.hid hx
      clear hx hc
      have hways : (c = 60 ∧ O < 0) ∨ (c = 60 ∧ ¬ O < 0) ∨ (c = 62 ∧ E < 0) ∨ (c = 62 ∧ ¬ E < 0) ∨ (c ≠ 60 ∧ c ≠ 62) := by
        by_cases h1 : c = 60
        · by_cases h2 : O < 0
          · exact .inl ⟨h1, h2⟩
          · exact .inr (.inl ⟨h1, h2⟩)
        · by_cases h3 : c = 62
          · by_cases h2 : E < 0
            · exact .inr (.inr (.inl ⟨h3, h2⟩))
            · exact .inr (.inr (.inr (.inl ⟨h3, h2⟩)))
          · exact .inr (.inr (.inr (.inr ⟨h1, h3⟩)))
      rcases hways with ⟨h1, h2⟩ | ⟨h1, h2⟩ | ⟨h1, h2⟩ | ⟨h1, h2⟩ | ⟨h1, h2⟩
      · rw [decide_eq_true h1] at e60
        rw [decide_eq_false (by rw [h1]; decide)] at e62
        have f2 : decide (O < 0) = true := decide_eq_true h2
        go_wp2
        go_roundw
        case rel => exact ⟨k + 1, k, E, rfl, rfl, by go_num, by omega, by first | rfl | trivial, Lib.hid (hO.out.hit h2 (by rw [← h1]; exact HX.out)), Lib.hid (hE.out.skip (by rw [HX.out, h1]; decide))⟩
        case measure => simp [intOf]; omega
      · rw [decide_eq_true h1] at e60
        rw [decide_eq_false (by rw [h1]; decide)] at e62
        have f2 : decide (O < 0) = false := decide_eq_false h2
        go_wp2
        go_roundw
        case rel => exact ⟨k + 1, O, E, rfl, rfl, by go_num, by omega, by first | rfl | trivial, Lib.hid (hO.out.stay h2), Lib.hid (hE.out.skip (by rw [HX.out, h1]; decide))⟩
        case measure => simp [intOf]; omega
      · rw [decide_eq_true h1] at e62
        rw [decide_eq_false (by rw [h1]; decide)] at e60
        have f2 : decide (E < 0) = true := decide_eq_true h2
        go_wp2
        go_roundw
        case rel => exact ⟨k + 1, O, k, rfl, rfl, by go_num, by omega, by first | rfl | trivial, Lib.hid (hO.out.skip (by rw [HX.out, h1]; decide)), Lib.hid (hE.out.hit h2 (by rw [← h1]; exact HX.out))⟩
        case measure => simp [intOf]; omega
      · rw [decide_eq_true h1] at e62
        rw [decide_eq_false (by rw [h1]; decide)] at e60
        have f2 : decide (E < 0) = false := decide_eq_false h2
        go_wp2
        go_roundw
        case rel => exact ⟨k + 1, O, E, rfl, rfl, by go_num, by omega, by first | rfl | trivial, Lib.hid (hO.out.skip (by rw [HX.out, h1]; decide)), Lib.hid (hE.out.stay h2)⟩
        case measure => simp [intOf]; omega
      · rw [decide_eq_false h1] at e60
        rw [decide_eq_false h2] at e62
        go_wp2
        go_roundw
        case rel => exact ⟨k + 1, O, E, rfl, rfl, by go_num, by omega, by first | rfl | trivial, Lib.hid (hO.out.skip (by rw [HX.out]; intro h; exact h1 (Option.some.inj h))), Lib.hid (hE.out.skip (by rw [HX.out]; intro h; exact h2 (Option.some.inj h)))⟩
        case measure => simp [intOf]; omega
    · obtain rfl : k = s.size := by omega
      have hplace : ∀ j : Idn, rightN j = true → printN j = s.data.toList → ∃ a b : Nat, O = (a : Int) ∧ E = (b : Int) ∧ (a = 0 ∧ j.name.data.toList = [] ∨ 2 ≤ a ∧ j.name.data.toList = s.data.toList.take (a - 1) ∧ s.data.toList[a - 1]? = some 32) ∧ a < b ∧ b < s.data.toList.length ∧ (s.data.toList.drop (a + 1)).take (b - (a + 1)) = j.email.data.toList ∧ s.data.toList.drop (b + 1) = 32 :: (Lib.itoa j.when ++ (32 :: Pure.zoneS j.zone)) := by
        intro j hj hjs
        obtain ⟨p1, p2, p3, p4, p5⟩ := right_parts hj
        obtain ⟨a, b, h1, h2, h3, h4, h5, h6, h7, h8, h9⟩ := Pure.places j.name.data.toList j.email.data.toList j.when j.zone (called_no p1 60 (by rfl)) (called_no p1 62 (by rfl)) (called_no p2 62 (by rfl)) p3
        unfold printN at hjs
        rw [hjs] at h1 h3 h4 h5 h6 h7 h8 h9
        rw [HSL.out] at h3
        exact ⟨a, b, hO.out.is (by omega) h4 h5, hE.out.is h3 h6 h7, h1, h2, by rw [HSL.out]; exact h3, h8, h9⟩
      have HP := Lib.hid hplace
      clear hplace
      by_cases hO0 : O < 0
      · have f1 : decide (O < 0) = true := decide_eq_true hO0
        have hno : ∀ j : Idn, rightN j = true → printN j ≠ s.data.toList := by
          intro j hj hjs
          obtain ⟨a, b, h1, -⟩ := HP.out j hj hjs
          omega
        have HN := Lib.hid hno
        clear hno hO hE
        go_wp2_with (first | (refine wpList_store_row rfl 26 (.tmp 2) (.tmp 59) rfl w.heap.size zeroN.cells.toArray rfl rfl 26 _ (hb _ (by assumption)) (infoIdn' zeroN) rfl (all_oneCell_toArray zeroN.one) ?_))
        refine bodyPost_ret (results_cell_tmp_mid Tryz.results30 _ _ w.heap.size 0 zeroN.cells _ rfl (range_setRow (hb _ (by assumption)) _) Tryz.underlying26 rfl (infoIdn zeroN)) rfl ?_
        exact ⟨below_setRow (hbw _ (by assumption)) (Nat.le_refl _) _, .inr ⟨HN.out, rfl⟩⟩
      obtain ⟨a, rfl⟩ : ∃ a : Nat, O = (a : Int) := ⟨O.toNat, by omega⟩
      obtain ⟨ha1, ha2⟩ := hO.out.at
      have f1 : decide ((a : Int) < 0) = false := decide_eq_false hO0
      by_cases hEO : E < (a : Int)
      · have f2 : decide (E < (a : Int)) = true := decide_eq_true hEO
        have hno : ∀ j : Idn, rightN j = true → printN j ≠ s.data.toList := by
          intro j hj hjs
          obtain ⟨a', b, h1, h2, h3, h4, -⟩ := HP.out j hj hjs
          omega
        have HN := Lib.hid hno
        clear hno hO hE ha2
        go_wp2_with (first | (refine wpList_store_row rfl 26 (.tmp 2) (.tmp 59) rfl w.heap.size zeroN.cells.toArray rfl rfl 26 _ (hb _ (by assumption)) (infoIdn' zeroN) rfl (all_oneCell_toArray zeroN.one) ?_))
        refine bodyPost_ret (results_cell_tmp_mid Tryz.results30 _ _ w.heap.size 0 zeroN.cells _ rfl (range_setRow (hb _ (by assumption)) _) Tryz.underlying26 rfl (infoIdn zeroN)) rfl ?_
        exact ⟨below_setRow (hbw _ (by assumption)) (Nat.le_refl _) _, .inr ⟨HN.out, rfl⟩⟩
      obtain ⟨b, rfl⟩ : ∃ b : Nat, E = (b : Int) := ⟨E.toNat, by omega⟩
      obtain ⟨hb1, hb2⟩ := hE.out.at
      have f2 : decide ((b : Int) < (a : Int)) = false := decide_eq_false hEO
      have hab : a < b := by
        have : a ≠ b := by intro h; subst h; rw [ha2] at hb2; exact absurd (Option.some.inj hb2) (by decide)
        omega
      have hP2 : ∀ j : Idn, rightN j = true → printN j = s.data.toList → (a = 0 ∧ j.name.data.toList = [] ∨ 2 ≤ a ∧ j.name.data.toList = s.data.toList.take (a - 1) ∧ s.data.toList[a - 1]? = some 32) ∧ (s.data.toList.drop (a + 1)).take (b - (a + 1)) = j.email.data.toList ∧ s.data.toList.drop (b + 1) = 32 :: (Lib.itoa j.when ++ (32 :: Pure.zoneS j.zone)) := by
        intro j hj hjs
        obtain ⟨a', b', h1, h2, h3, h4, h5, h6, h7⟩ := HP.out j hj hjs
        obtain rfl : a = a' := by omega
        obtain rfl : b = b' := by omega
        exact ⟨h3, h6, h7⟩
      have HP2 := Lib.hid hP2
      clear hP2 HP hO hE ha2 hb2 hEO hO0
      have hsz := s.size
      have hkind : a = 0 ∨ (∃ (m : Nat) (c : UInt8), a = m + 1 ∧ s.data.toList[m]? = some c) := by
        by_cases h0 : a = 0
        · exact .inl h0
        · refine .inr ⟨a - 1, s.data.toList[a - 1]'(by rw [HSL.out]; omega), by omega, List.getElem?_eq_getElem _⟩
      rcases hkind with rfl | ⟨m, c, rfl, hc⟩
      · obtain ⟨EM, hEM⟩ : ∃ N : ByteArray, s.extract 1 b = N := ⟨_, rfl⟩
        have hname : ∀ j : Idn, rightN j = true → printN j = s.data.toList → j.name = ⟨#[]⟩ ∧ j.email = EM := by
          intro j hj hjs
          obtain ⟨h1, h2, -⟩ := HP2.out j hj hjs
          refine ⟨?_, ?_⟩
          · apply ba_ext
            rcases h1 with ⟨-, h⟩ | ⟨h, -⟩
            · rw [h]
            · omega
          · apply ba_ext
            rw [← h2, ← hEM, extract_list]
        have HNAME := Lib.hid hname
        have hNs : (⟨#[]⟩ : ByteArray).size ≤ s.size := Nat.zero_le _
        have hEs : EM.size ≤ s.size := by rw [← hEM, ByteArray.size_extract]; omega
        clear hname
        have gV1 : Grew V0 (V0.alloc (.cells #[.string ⟨#[]⟩, .string EM, .int .i64 0, .int .i64 0] 26)) := (Below.refl _ _).alloc (Nat.le_refl _) _
        obtain ⟨R, hR⟩ : ∃ R, s.extract (b + 1) s.size = R := ⟨_, rfl⟩
        have hRL : R.data.toList = s.data.toList.drop (b + 1) := by
          rw [← hR, extract_list]
          exact List.take_of_length_le (by rw [List.length_drop, HSL.out]; omega)
        have hRs : R.size + (b + 1) = s.size := by rw [← hR, ByteArray.size_extract]; omega
        have HRL := Lib.hid hRL
        have HRS := Lib.hid hRs
        clear hRL hRs
        by_cases h8 : R.size < 8
        · have f4 : decide ((R.size : Int) < 8) = true := decide_eq_true (by omega)
          have hno : ∀ j : Idn, rightN j = true → printN j ≠ s.data.toList := by
            intro j hj hjs
            obtain ⟨-, -, h3⟩ := HP2.out j hj hjs
            have := (Pure.rest_places j.when j.zone R.data.toList (by rw [HRL.out, h3]) (right_parts hj).2.2.1).1
            rw [list_len] at this
            omega
          have HN := Lib.hid hno
          clear hno
          go_wp2_with (first | (refine wpList_store_row rfl 26 (.tmp 2) (.tmp 93) rfl w.heap.size zeroN.cells.toArray rfl rfl 26 _ (hb _ (by first | assumption | exact gV1)) (infoIdn' zeroN) rfl (all_oneCell_toArray zeroN.one) ?_))
          refine bodyPost_ret (results_cell_tmp_mid Tryz.results30 _ _ w.heap.size 0 zeroN.cells _ rfl (range_setRow (hb _ (by first | assumption | exact gV1)) _) Tryz.underlying26 rfl (infoIdn zeroN)) rfl ?_
          exact ⟨below_setRow (hbw _ (by first | assumption | exact gV1)) (Nat.le_refl _) _, .inr ⟨HN.out, rfl⟩⟩
        obtain ⟨q, hq⟩ : ∃ q, R.size = q + 6 := ⟨R.size - 6, by omega⟩
        have hq2 : 2 ≤ q := by omega
        have hqb : q ≤ 1073741824 := by have := HRS.out; omega
        have wq0 : wrap64 (q : Int) = (q : Int) := by unfold wrap64; omega
        have wq1 : wrap64 ((q : Int) + 1) = (q : Int) + 1 := by unfold wrap64; omega
        have wi0 : IntKind.i64.wrap (q : Int) = (q : Int) := IntWalk.i64_in _ (by omega)
        have wi1 : IntKind.i64.wrap ((q : Int) + 1) = (q : Int) + 1 := IntWalk.i64_in _ (by omega)
        have iq1 : (1 : Int) ≤ (q : Int) := by omega
        have iq2 : (q : Int) < (q : Int) + 6 := by omega
        have iq3 : (q : Int) ≤ (q : Int) + 6 := by omega
        obtain ⟨c0, hc0⟩ : ∃ c, R.data.toList[0]? = some c := ⟨_, List.getElem?_eq_getElem (by rw [list_len]; omega)⟩
        obtain ⟨c6, hc6⟩ : ∃ c, R.data.toList[q]? = some c := ⟨_, List.getElem?_eq_getElem (by rw [list_len]; omega)⟩
        have hx0 : ∀ W : World, (Instr.index 9 (.string R) (.int .i64 0)).run Tryz.prog W = .ok (.int .u8 (c0.toNat : Int)) W := fun W => index_str R 0 c0 hc0 W
        have hx6 : ∀ W : World, (Instr.index 9 (.string R) (.int .i64 (q : Int))).run Tryz.prog W = .ok (.int .u8 (c6.toNat : Int)) W := fun W => index_str R q c6 hc6 W
        have f4 : decide ((q : Int) + 6 < 8) = false := decide_eq_false (by omega)
        have hrest : ∀ j : Idn, rightN j = true → printN j = s.data.toList → c0 = 32 ∧ c6 = 32 ∧ (R.extract 1 q).data.toList = Lib.itoa j.when ∧ (R.extract (q + 1) (q + 6)).data.toList = Pure.zoneS j.zone := by
          intro j hj hjs
          obtain ⟨-, -, h3⟩ := HP2.out j hj hjs
          obtain ⟨k1, k2, k3, k4, k5⟩ := Pure.rest_places j.when j.zone R.data.toList (by rw [HRL.out, h3]) (right_parts hj).2.2.1
          rw [list_len, hq] at k3 k4 k5
          rw [hc0] at k2
          rw [show q + 6 - 6 = q by omega] at k3 k4
          rw [hc6] at k3
          refine ⟨Option.some.inj k2, Option.some.inj k3, ?_, ?_⟩
          · rw [extract_list]; exact k4
          · rw [extract_list, show q + 6 - (q + 1) = 5 by omega, ← k5, show q + 6 - 5 = q + 1 by omega]
            exact List.take_of_length_le (by rw [List.length_drop, list_len]; omega)
        have HREST := Lib.hid hrest
        have y0 := byte_is c0 32 (by decide)
        have y6 := byte_is c6 32 (by decide)
        rw [show ((32 : Nat) : Int) = 32 from rfl, show UInt8.ofNat 32 = 32 from rfl] at y0 y6
        clear hrest hc0 hc6 h8
        by_cases h0 : c0 = 32
        rotate_left 1
        · rw [decide_eq_false h0] at y0
          have hno : ∀ j : Idn, rightN j = true → printN j ≠ s.data.toList := fun j hj hjs => h0 (HREST.out j hj hjs).1
          have HN := Lib.hid hno
          clear hno
          go_wp2_with (first | (refine wpList_store_row rfl 26 (.tmp 2) (.tmp 93) rfl w.heap.size zeroN.cells.toArray rfl rfl 26 _ (hb _ (by first | assumption | exact gV1)) (infoIdn' zeroN) rfl (all_oneCell_toArray zeroN.one) ?_))
          refine bodyPost_ret (results_cell_tmp_mid Tryz.results30 _ _ w.heap.size 0 zeroN.cells _ rfl (range_setRow (hb _ (by first | assumption | exact gV1)) _) Tryz.underlying26 rfl (infoIdn zeroN)) rfl ?_
          exact ⟨below_setRow (hbw _ (by first | assumption | exact gV1)) (Nat.le_refl _) _, .inr ⟨HN.out, rfl⟩⟩
        rw [decide_eq_true h0] at y0
        by_cases h6 : c6 = 32
        rotate_left 1
        · rw [decide_eq_false h6] at y6
          have hno : ∀ j : Idn, rightN j = true → printN j ≠ s.data.toList := fun j hj hjs => h6 (HREST.out j hj hjs).2.1
          have HN := Lib.hid hno
          clear hno
          go_wp2_with (first | (refine wpList_store_row rfl 26 (.tmp 2) (.tmp 93) rfl w.heap.size zeroN.cells.toArray rfl rfl 26 _ (hb _ (by first | assumption | exact gV1)) (infoIdn' zeroN) rfl (all_oneCell_toArray zeroN.one) ?_))
          refine bodyPost_ret (results_cell_tmp_mid Tryz.results30 _ _ w.heap.size 0 zeroN.cells _ rfl (range_setRow (hb _ (by first | assumption | exact gV1)) _) Tryz.underlying26 rfl (infoIdn zeroN)) rfl ?_
          exact ⟨below_setRow (hbw _ (by first | assumption | exact gV1)) (Nat.le_refl _) _, .inr ⟨HN.out, rfl⟩⟩
        rw [decide_eq_true h6] at y6
        obtain ⟨N3, hN3⟩ : ∃ N : ByteArray, R.extract 1 q = N := ⟨_, rfl⟩
        obtain ⟨R3, hR3⟩ : ∃ N : ByteArray, R.extract (q + 1) (q + 6) = N := ⟨_, rfl⟩
        rw [hN3, hR3] at HREST
        have hRs1 : R.size ≤ s.size := by have := HRS.out; omega
        have hN3s : N3.size ≤ s.size := by rw [← hN3, ByteArray.size_extract]; omega
        have hR3s : R3.size ≤ s.size := by rw [← hR3, ByteArray.size_extract]; omega
        obtain ⟨v, e, hv, hve⟩ := take_ways N3.data.toList
        obtain ⟨z, f, hz, hzf⟩ := zone_ways R3.data.toList
        have c4 := fun W (g : Grew V0 W) => ref_TakeNumber N3 W (by omega)
        have c5 := fun W (g : Grew V0 W) => ref06_Zone R3 W (by omega)
        rw [hv] at c4
        rw [hz] at c5
        clear hv hz
        have HVE := Lib.hid hve
        have HZF := Lib.hid hzf
        clear hve hzf
        go_wp2_with (first | (go_at_call 51; with_reducible refine (c4 _ (by assumption)).mono ?_; rintro e1 W1 ⟨rfl, g1⟩; have gg1 : Grew V0 W1 := Grew.trans' (by assumption) g1) | (go_at_call 52; with_reducible refine (c5 _ (by assumption)).mono ?_))
        rintro e5 W5 ⟨rfl, g5⟩
        have g15 : Grew (V0.alloc (.cells #[.string ⟨#[]⟩, .string EM, .int .i64 0, .int .i64 0] 26)) W5 := Grew.trans' (by assumption) g5
        have gV5 : Grew V0 W5 := gV1.trans' g15
        have hg5 : W5.heap[V0.heap.size]? = some (.cells #[.string ⟨#[]⟩, .string EM, .int .i64 0, .int .i64 0] 26 (0, 0)) := (g15.block V0.heap.size (by simp)).trans (heap_alloc_new V0 _)
        obtain ⟨k1, k2, k3, k4, U, hU, gVU, hoth, rr⟩ := fields23 hg5 gV5 (Nat.le_refl _) v z
        have gUU : Grew U U := Below.refl _ _
        have hbU : U.heap[w.heap.size]? = some (.cells zeroN.cells.toArray 26 (0, 0)) := (hoth _ (by omega)).trans (hb _ gV5)
        have hbl := fun W (g : Grew U W) => (g.block w.heap.size (Array.getElem?_eq_some_iff.1 hbU).1).trans hbU
        have hww := fun W (g : Grew U W) => hbw W (gVU.trans' g)
        obtain ⟨i, hi⟩ : ∃ i : Idn, (⟨⟨#[]⟩, EM, v, z⟩ : Idn) = i := ⟨_, rfl⟩
        have hcells : [Value.string ⟨#[]⟩, Value.string EM, Value.int .i64 v, Value.int .i64 z] = i.cells := by rw [← hi]; rfl
        have hin : i.name.size ≤ 1099511627776 := by rw [← hi]; exact Nat.le_trans hNs (by omega)
        have hie : i.email.size ≤ 1099511627776 := by rw [← hi]; exact Nat.le_trans hEs (by omega)
        have nfi : (Tryz.prog.info? 26).map (·.size) = some [Value.string ⟨#[]⟩, Value.string EM, Value.int .i64 v, Value.int .i64 z].length := by rw [hcells]; exact infoIdn i
        have hone : ∀ u ∈ [Value.string ⟨#[]⟩, Value.string EM, Value.int .i64 v, Value.int .i64 z], u.oneCell' = true := by rw [hcells]; exact i.one
        have HONE := Lib.hid hone
        have cR := fun W (g : Grew U W) => ref_RightN i W hin hie (u8_grew HU.out (hww _ g))
        have cP := fun W (g : Grew U W) => ref06_Print i W hin hie (u8_grew HU.out (hww _ g))
        rw [← hcells] at cR cP
        have hwe : ((e == 0) = true ∧ (e != 0) = false ∧ e = 0) ∨ ((e == 0) = false ∧ (e != 0) = true ∧ e ≠ 0) := by
          by_cases h : e = 0
          · exact .inl ⟨by simp [h], by simp [h], h⟩
          · exact .inr ⟨by simp [h], by simp [h], h⟩
        have hwf : ((f == 0) = true ∧ (f != 0) = false ∧ f = 0) ∨ ((f == 0) = false ∧ (f != 0) = true ∧ f ≠ 0) := by
          by_cases h : f = 0
          · exact .inl ⟨by simp [h], by simp [h], h⟩
          · exact .inr ⟨by simp [h], by simp [h], h⟩
        obtain ⟨RR, hRR⟩ : ∃ R, rightN i = R := ⟨_, rfl⟩
        rw [hRR] at cR
        obtain ⟨T, hT⟩ : ∃ T, printB i = T := ⟨_, rfl⟩
        rw [hT] at cP
        obtain ⟨Q, hQ⟩ : ∃ Q, (T.toList == s.toList) = Q := ⟨_, rfl⟩
        have hQ2 : (T.toList != s.toList) = !Q := by rw [bne, hQ]
        have hgo : RR = true → Q = true → rightN i = true ∧ printN i = s.data.toList := by
          intro h1 h2
          refine ⟨hRR.trans h1, ?_⟩
          rw [h2, beq_iff_eq, ByteArray.toList_eq, ByteArray.toList_eq, ← hT] at hQ
          unfold printB at hQ
          rw [hRR, h1, if_pos rfl] at hQ
          exact hQ
        have hback : rightN i = true → printN i = s.data.toList → RR = true ∧ Q = true := by
          intro h1 h2
          refine ⟨hRR.symm.trans h1, ?_⟩
          rw [← hQ, beq_iff_eq, ByteArray.toList_eq, ByteArray.toList_eq, ← hT]
          unfold printB
          rw [h1, if_pos rfl]
          exact h2
        have hno : ¬ (e = 0 ∧ f = 0 ∧ RR = true ∧ Q = true) → ∀ j : Idn, rightN j = true → printN j ≠ s.data.toList := by
          intro h j hj hjs
          obtain ⟨-, -, t1, t2⟩ := HREST.out j hj hjs
          obtain ⟨t3, t4⟩ := HNAME.out j hj hjs
          obtain ⟨p1, p2, p3, p4, p5⟩ := right_parts hj
          have t5 : Pure.takeN N3.data.toList = some j.when := by rw [t1]; exact Pure.takeN_itoa (by unfold Pure.In64; omega)
          have t6 : Pure.zoneF R3.data.toList = some j.zone := by rw [t2]; exact Pure.zoneF_S p5
          have h4 : e = 0 ∧ v = j.when := by
            rcases HVE.out with ⟨h, h'⟩ | ⟨h, h'⟩
            · rw [t5] at h'; exact ⟨h, (Option.some.inj h').symm⟩
            · exact absurd t5 (h' _)
          have h5 : f = 0 ∧ z = j.zone := by
            rcases HZF.out with ⟨h, h'⟩ | ⟨h, h'⟩
            · rw [t6] at h'; exact ⟨h, (Option.some.inj h').symm⟩
            · rw [t6] at h'; cases h'
          have hji : j = i := by rw [← hi]; exact Idn.ext' t3 t4 h4.2.symm h5.2.symm
          subst hji
          obtain ⟨k7, k8⟩ := hback hj hjs
          exact h ⟨h4.1, h5.1, k7, k8⟩
        have HN := Lib.hid hno
        have HG := Lib.hid hgo
        have HC := Lib.hid hcells
        clear hback hno hgo hi hRR hT hcells hone c4 c5 HVE HZF HREST HNAME hoth hin hie hg5 hbU
        rcases hwe with ⟨we1, we2, we3⟩ | ⟨we1, we2, we3⟩
        · rcases hwf with ⟨wf1, wf2, wf3⟩ | ⟨wf1, wf2, wf3⟩
          · subst we3
            subst wf3
            cases RR with
            | false =>
              go_wp2_with (first | (refine wpList_load_g (by rfl) 26 _ rfl _ _ rfl [Value.string ⟨#[]⟩, Value.string EM, Value.int .i64 v, Value.int .i64 z] _ (rr _ (by assumption)) Tryz.underlying26 rfl nfi ?_) | (go_at_call 35; with_reducible refine (cR _ (by assumption)).mono ?_; rintro e1 W1 ⟨rfl, g1⟩; replace g1 := Grew.trans' (a := U) (by assumption) g1) | (go_at_call 23; with_reducible refine (cP _ (by assumption)).mono ?_; rintro e1 W1 ⟨rfl, g1⟩; replace g1 := Grew.trans' (a := U) (by assumption) g1) | (refine wpList_store_row rfl 26 (.tmp 2) (.tmp 133) rfl w.heap.size zeroN.cells.toArray rfl rfl 26 _ (hbl _ (by assumption)) (infoIdn' zeroN) rfl (all_oneCell_toArray zeroN.one) ?_))
              refine bodyPost_ret (results_cell_tmp_mid Tryz.results30 _ _ w.heap.size 0 zeroN.cells _ rfl (range_setRow (hbl _ (by assumption)) _) Tryz.underlying26 rfl (infoIdn zeroN)) rfl ?_
              exact ⟨below_setRow (hww _ (by assumption)) (Nat.le_refl _) _, .inr ⟨HN.out (by simp), rfl⟩⟩
            | true =>
              cases Q with
              | false =>
                go_wp2_with (first | (refine wpList_load_g (by rfl) 26 _ rfl _ _ rfl [Value.string ⟨#[]⟩, Value.string EM, Value.int .i64 v, Value.int .i64 z] _ (rr _ (by assumption)) Tryz.underlying26 rfl nfi ?_) | (go_at_call 35; with_reducible refine (cR _ (by assumption)).mono ?_; rintro e1 W1 ⟨rfl, g1⟩; replace g1 := Grew.trans' (a := U) (by assumption) g1) | (go_at_call 23; with_reducible refine (cP _ (by assumption)).mono ?_; rintro e1 W1 ⟨rfl, g1⟩; replace g1 := Grew.trans' (a := U) (by assumption) g1) | (refine wpList_store_row rfl 26 (.tmp 2) (.tmp 133) rfl w.heap.size zeroN.cells.toArray rfl rfl 26 _ (hbl _ (by assumption)) (infoIdn' zeroN) rfl (all_oneCell_toArray zeroN.one) ?_))
                refine bodyPost_ret (results_cell_tmp_mid Tryz.results30 _ _ w.heap.size 0 zeroN.cells _ rfl (range_setRow (hbl _ (by assumption)) _) Tryz.underlying26 rfl (infoIdn zeroN)) rfl ?_
                exact ⟨below_setRow (hww _ (by assumption)) (Nat.le_refl _) _, .inr ⟨HN.out (by simp), rfl⟩⟩
              | true =>
                go_wp2_with (first | (refine wpList_load_g (by rfl) 26 _ rfl _ _ rfl [Value.string ⟨#[]⟩, Value.string EM, Value.int .i64 v, Value.int .i64 z] _ (rr _ (by assumption)) Tryz.underlying26 rfl nfi ?_) | (go_at_call 35; with_reducible refine (cR _ (by assumption)).mono ?_; rintro e1 W1 ⟨rfl, g1⟩; replace g1 := Grew.trans' (a := U) (by assumption) g1) | (go_at_call 23; with_reducible refine (cP _ (by assumption)).mono ?_; rintro e1 W1 ⟨rfl, g1⟩; replace g1 := Grew.trans' (a := U) (by assumption) g1) | (refine wpList_store_row rfl 26 (.tmp 2) (.tmp 134) rfl w.heap.size [Value.string ⟨#[]⟩, Value.string EM, Value.int .i64 v, Value.int .i64 z].toArray rfl rfl 26 _ (hbl _ (by assumption)) nfi rfl (all_oneCell_toArray HONE.out) ?_))
                refine bodyPost_ret (results_cell_tmp_mid Tryz.results30 _ _ w.heap.size 0 [Value.string ⟨#[]⟩, Value.string EM, Value.int .i64 v, Value.int .i64 z] _ rfl (range_setRow (hbl _ (by assumption)) _) Tryz.underlying26 rfl nfi) rfl ?_
                exact ⟨below_setRow (hww _ (by assumption)) (Nat.le_refl _) _, .inl ⟨i, (HG.out (by first | rfl | trivial) (by first | rfl | trivial)).1, (HG.out (by first | rfl | trivial) (by first | rfl | trivial)).2, by rw [HC.out]; rfl⟩⟩
          · have WF := Lib.hid wf3
            clear wf3
            go_wp2_with (first | (refine wpList_load_g (by rfl) 26 _ rfl _ _ rfl [Value.string ⟨#[]⟩, Value.string EM, Value.int .i64 v, Value.int .i64 z] _ (rr _ (by assumption)) Tryz.underlying26 rfl nfi ?_) | (go_at_call 35; with_reducible refine (cR _ (by assumption)).mono ?_; rintro e1 W1 ⟨rfl, g1⟩; replace g1 := Grew.trans' (a := U) (by assumption) g1) | (go_at_call 23; with_reducible refine (cP _ (by assumption)).mono ?_; rintro e1 W1 ⟨rfl, g1⟩; replace g1 := Grew.trans' (a := U) (by assumption) g1) | (refine wpList_store_row rfl 26 (.tmp 2) (.tmp 133) rfl w.heap.size zeroN.cells.toArray rfl rfl 26 _ (hbl _ (by assumption)) (infoIdn' zeroN) rfl (all_oneCell_toArray zeroN.one) ?_))
            refine bodyPost_ret (results_cell_tmp_mid Tryz.results30 _ _ w.heap.size 0 zeroN.cells _ rfl (range_setRow (hbl _ (by assumption)) _) Tryz.underlying26 rfl (infoIdn zeroN)) rfl ?_
            exact ⟨below_setRow (hww _ (by assumption)) (Nat.le_refl _) _, .inr ⟨HN.out (by intro h; exact WF.out h.2.1), rfl⟩⟩
        · have WE := Lib.hid we3
          clear we3
          go_wp2_with (first | (refine wpList_load_g (by rfl) 26 _ rfl _ _ rfl [Value.string ⟨#[]⟩, Value.string EM, Value.int .i64 v, Value.int .i64 z] _ (rr _ (by assumption)) Tryz.underlying26 rfl nfi ?_) | (go_at_call 35; with_reducible refine (cR _ (by assumption)).mono ?_; rintro e1 W1 ⟨rfl, g1⟩; replace g1 := Grew.trans' (a := U) (by assumption) g1) | (go_at_call 23; with_reducible refine (cP _ (by assumption)).mono ?_; rintro e1 W1 ⟨rfl, g1⟩; replace g1 := Grew.trans' (a := U) (by assumption) g1) | (refine wpList_store_row rfl 26 (.tmp 2) (.tmp 133) rfl w.heap.size zeroN.cells.toArray rfl rfl 26 _ (hbl _ (by assumption)) (infoIdn' zeroN) rfl (all_oneCell_toArray zeroN.one) ?_))
          refine bodyPost_ret (results_cell_tmp_mid Tryz.results30 _ _ w.heap.size 0 zeroN.cells _ rfl (range_setRow (hbl _ (by assumption)) _) Tryz.underlying26 rfl (infoIdn zeroN)) rfl ?_
          exact ⟨below_setRow (hww _ (by assumption)) (Nat.le_refl _) _, .inr ⟨HN.out (by intro h; exact WE.out h.1), rfl⟩⟩
      · have e32 := byte_is c 32 (by decide)
        rw [show ((32 : Nat) : Int) = 32 from rfl, show UInt8.ofNat 32 = 32 from rfl] at e32
        have hix := fun W => index_str s m c hc W
        have HCC := Lib.hid hc
        clear hc
        have f3 : decide (0 < (m : Int) + 1) = true := decide_eq_true (by omega)
        have f1' : decide ((m : Int) + 1 < 0) = false := decide_eq_false (by omega)
        have f2' : decide ((b : Int) < (m : Int) + 1) = false := decide_eq_false (by omega)
        by_cases h32 : c = 32
        · rw [decide_eq_true h32] at e32
          by_cases hm0 : m = 0
          · subst hm0
            have hno : ∀ j : Idn, rightN j = true → printN j ≠ s.data.toList := by
              intro j hj hjs
              obtain ⟨h1, -⟩ := HP2.out j hj hjs
              omega
            have HN := Lib.hid hno
            have hix0 : ∀ W : World, (Instr.index 9 (.string s) (.int .i64 0)).run Tryz.prog W = .ok (.int .u8 (c.toNat : Int)) W := hix
            clear hno hix
            go_wp2_with (first | (refine wpList_store_row rfl 26 (.tmp 2) (.tmp 59) rfl w.heap.size zeroN.cells.toArray rfl rfl 26 _ (hb _ (by assumption)) (infoIdn' zeroN) rfl (all_oneCell_toArray zeroN.one) ?_))
            refine bodyPost_ret (results_cell_tmp_mid Tryz.results30 _ _ w.heap.size 0 zeroN.cells _ rfl (range_setRow (hb _ (by assumption)) _) Tryz.underlying26 rfl (infoIdn zeroN)) rfl ?_
            exact ⟨below_setRow (hbw _ (by assumption)) (Nat.le_refl _) _, .inr ⟨HN.out, rfl⟩⟩
          · obtain ⟨NM, hNM⟩ : ∃ N : ByteArray, s.extract 0 m = N := ⟨_, rfl⟩
            obtain ⟨EM, hEM⟩ : ∃ N : ByteArray, s.extract (m + 1 + 1) b = N := ⟨_, rfl⟩
            have hname : ∀ j : Idn, rightN j = true → printN j = s.data.toList → j.name = NM ∧ j.email = EM := by
              intro j hj hjs
              obtain ⟨h1, h2, -⟩ := HP2.out j hj hjs
              refine ⟨?_, ?_⟩
              · apply ba_ext
                rcases h1 with ⟨h, -⟩ | ⟨-, h, -⟩
                · omega
                · rw [h, ← hNM, extract_list]; simp
              · apply ba_ext
                rw [← h2, ← hEM, extract_list]
            have HNAME := Lib.hid hname
            have hNs : NM.size ≤ s.size := by rw [← hNM, ByteArray.size_extract]; omega
            have hEs : EM.size ≤ s.size := by rw [← hEM, ByteArray.size_extract]; omega
            have hmb : m ≤ 1073741824 := by omega
            have wm0 : wrap64 (m : Int) = (m : Int) := by unfold wrap64; omega
            have wm2 : wrap64 ((m : Int) + 1 + 1) = (m : Int) + 1 + 1 := by unfold wrap64; omega
            have wm3 : IntKind.i64.wrap ((m : Int) + 1 + 1) = (m : Int) + 1 + 1 := IntWalk.i64_in _ (by omega)
            have wm4 : IntKind.i64.wrap (m : Int) = (m : Int) := IntWalk.i64_in _ (by omega)
            have im1 : (0 : Int) ≤ (m : Int) + 1 + 1 := by omega
            have im2 : (m : Int) + 1 + 1 ≤ (b : Int) := by omega
            have im3 : (m : Int) ≤ (s.size : Int) := by omega
            have im4 : (b : Int) ≤ (s.size : Int) := by omega
            have im5 : (0 : Int) ≤ (m : Int) + 1 := by omega
            have im6 : (m : Int) < (s.size : Int) := by omega
            have f5 : decide (1 < (m : Int) + 1) = true := decide_eq_true (by omega)
            have f6 : ((m : Int) + 1 == 1) = false := by rw [beq_eq_false_iff_ne]; omega
            clear hname
            have gV1 : Grew V0 (V0.alloc (.cells #[.string NM, .string EM, .int .i64 0, .int .i64 0] 26)) := (Below.refl _ _).alloc (Nat.le_refl _) _
            obtain ⟨R, hR⟩ : ∃ R, s.extract (b + 1) s.size = R := ⟨_, rfl⟩
            have hRL : R.data.toList = s.data.toList.drop (b + 1) := by
              rw [← hR, extract_list]
              exact List.take_of_length_le (by rw [List.length_drop, HSL.out]; omega)
            have hRs : R.size + (b + 1) = s.size := by rw [← hR, ByteArray.size_extract]; omega
            have HRL := Lib.hid hRL
            have HRS := Lib.hid hRs
            clear hRL hRs
            by_cases h8 : R.size < 8
            · have f4 : decide ((R.size : Int) < 8) = true := decide_eq_true (by omega)
              have hno : ∀ j : Idn, rightN j = true → printN j ≠ s.data.toList := by
                intro j hj hjs
                obtain ⟨-, -, h3⟩ := HP2.out j hj hjs
                have := (Pure.rest_places j.when j.zone R.data.toList (by rw [HRL.out, h3]) (right_parts hj).2.2.1).1
                rw [list_len] at this
                omega
              have HN := Lib.hid hno
              clear hno
              go_wp2_with (first | (refine wpList_store_row rfl 26 (.tmp 2) (.tmp 93) rfl w.heap.size zeroN.cells.toArray rfl rfl 26 _ (hb _ (by first | assumption | exact gV1)) (infoIdn' zeroN) rfl (all_oneCell_toArray zeroN.one) ?_))
              refine bodyPost_ret (results_cell_tmp_mid Tryz.results30 _ _ w.heap.size 0 zeroN.cells _ rfl (range_setRow (hb _ (by first | assumption | exact gV1)) _) Tryz.underlying26 rfl (infoIdn zeroN)) rfl ?_
              exact ⟨below_setRow (hbw _ (by first | assumption | exact gV1)) (Nat.le_refl _) _, .inr ⟨HN.out, rfl⟩⟩
            obtain ⟨q, hq⟩ : ∃ q, R.size = q + 6 := ⟨R.size - 6, by omega⟩
            have hq2 : 2 ≤ q := by omega
            have hqb : q ≤ 1073741824 := by have := HRS.out; omega
            obtain ⟨c0, hc0⟩ : ∃ c, R.data.toList[0]? = some c := ⟨_, List.getElem?_eq_getElem (by rw [list_len]; omega)⟩
            obtain ⟨c6, hc6⟩ : ∃ c, R.data.toList[q]? = some c := ⟨_, List.getElem?_eq_getElem (by rw [list_len]; omega)⟩
            have hx0 : ∀ W : World, (Instr.index 9 (.string R) (.int .i64 0)).run Tryz.prog W = .ok (.int .u8 (c0.toNat : Int)) W := fun W => index_str R 0 c0 hc0 W
            have hx6 : ∀ W : World, (Instr.index 9 (.string R) (.int .i64 (q : Int))).run Tryz.prog W = .ok (.int .u8 (c6.toNat : Int)) W := fun W => index_str R q c6 hc6 W
            have f4 : decide ((q : Int) + 6 < 8) = false := decide_eq_false (by omega)
            have hrest : ∀ j : Idn, rightN j = true → printN j = s.data.toList → c0 = 32 ∧ c6 = 32 ∧ (R.extract 1 q).data.toList = Lib.itoa j.when ∧ (R.extract (q + 1) (q + 6)).data.toList = Pure.zoneS j.zone := by
              intro j hj hjs
              obtain ⟨-, -, h3⟩ := HP2.out j hj hjs
              obtain ⟨k1, k2, k3, k4, k5⟩ := Pure.rest_places j.when j.zone R.data.toList (by rw [HRL.out, h3]) (right_parts hj).2.2.1
              rw [list_len, hq] at k3 k4 k5
              rw [hc0] at k2
              rw [show q + 6 - 6 = q by omega] at k3 k4
              rw [hc6] at k3
              refine ⟨Option.some.inj k2, Option.some.inj k3, ?_, ?_⟩
              · rw [extract_list]; exact k4
              · rw [extract_list, show q + 6 - (q + 1) = 5 by omega, ← k5, show q + 6 - 5 = q + 1 by omega]
                exact List.take_of_length_le (by rw [List.length_drop, list_len]; omega)
            have HREST := Lib.hid hrest
            have y0 := byte_is c0 32 (by decide)
            have y6 := byte_is c6 32 (by decide)
            rw [show ((32 : Nat) : Int) = 32 from rfl, show UInt8.ofNat 32 = 32 from rfl] at y0 y6
            clear hrest hc0 hc6 h8
            by_cases h0 : c0 = 32
            rotate_left 1
            · rw [decide_eq_false h0] at y0
              have hno : ∀ j : Idn, rightN j = true → printN j ≠ s.data.toList := fun j hj hjs => h0 (HREST.out j hj hjs).1
              have HN := Lib.hid hno
              clear hno
              go_wp2_with (first | (refine wpList_store_row rfl 26 (.tmp 2) (.tmp 93) rfl w.heap.size zeroN.cells.toArray rfl rfl 26 _ (hb _ (by first | assumption | exact gV1)) (infoIdn' zeroN) rfl (all_oneCell_toArray zeroN.one) ?_))
              refine bodyPost_ret (results_cell_tmp_mid Tryz.results30 _ _ w.heap.size 0 zeroN.cells _ rfl (range_setRow (hb _ (by first | assumption | exact gV1)) _) Tryz.underlying26 rfl (infoIdn zeroN)) rfl ?_
              exact ⟨below_setRow (hbw _ (by first | assumption | exact gV1)) (Nat.le_refl _) _, .inr ⟨HN.out, rfl⟩⟩
            rw [decide_eq_true h0] at y0
            by_cases h6 : c6 = 32
            rotate_left 1
            · rw [decide_eq_false h6] at y6
              have hno : ∀ j : Idn, rightN j = true → printN j ≠ s.data.toList := fun j hj hjs => h6 (HREST.out j hj hjs).2.1
              have HN := Lib.hid hno
              clear hno
              go_wp2_with (first | (refine wpList_store_row rfl 26 (.tmp 2) (.tmp 93) rfl w.heap.size zeroN.cells.toArray rfl rfl 26 _ (hb _ (by first | assumption | exact gV1)) (infoIdn' zeroN) rfl (all_oneCell_toArray zeroN.one) ?_))
              refine bodyPost_ret (results_cell_tmp_mid Tryz.results30 _ _ w.heap.size 0 zeroN.cells _ rfl (range_setRow (hb _ (by first | assumption | exact gV1)) _) Tryz.underlying26 rfl (infoIdn zeroN)) rfl ?_
              exact ⟨below_setRow (hbw _ (by first | assumption | exact gV1)) (Nat.le_refl _) _, .inr ⟨HN.out, rfl⟩⟩
            rw [decide_eq_true h6] at y6
            obtain ⟨N3, hN3⟩ : ∃ N : ByteArray, R.extract 1 q = N := ⟨_, rfl⟩
            obtain ⟨R3, hR3⟩ : ∃ N : ByteArray, R.extract (q + 1) (q + 6) = N := ⟨_, rfl⟩
            rw [hN3, hR3] at HREST
            have hRs1 : R.size ≤ s.size := by have := HRS.out; omega
            have hN3s : N3.size ≤ s.size := by rw [← hN3, ByteArray.size_extract]; omega
            have hR3s : R3.size ≤ s.size := by rw [← hR3, ByteArray.size_extract]; omega
            obtain ⟨v, e, hv, hve⟩ := take_ways N3.data.toList
            obtain ⟨z, f, hz, hzf⟩ := zone_ways R3.data.toList
            have c4 := fun W (g : Grew V0 W) => ref_TakeNumber N3 W (by omega)
            have c5 := fun W (g : Grew V0 W) => ref06_Zone R3 W (by omega)
            rw [hv] at c4
            rw [hz] at c5
            clear hv hz
            have HVE := Lib.hid hve
            have HZF := Lib.hid hzf
            clear hve hzf
            go_wp2_with (first | (go_at_call 51; with_reducible refine (c4 _ (by assumption)).mono ?_; rintro e1 W1 ⟨rfl, g1⟩; have gg1 : Grew V0 W1 := Grew.trans' (by assumption) g1) | (go_at_call 52; with_reducible refine (c5 _ (by assumption)).mono ?_))
            rintro e5 W5 ⟨rfl, g5⟩
            have g15 : Grew (V0.alloc (.cells #[.string NM, .string EM, .int .i64 0, .int .i64 0] 26)) W5 := Grew.trans' (by assumption) g5
            have gV5 : Grew V0 W5 := gV1.trans' g15
            have hg5 : W5.heap[V0.heap.size]? = some (.cells #[.string NM, .string EM, .int .i64 0, .int .i64 0] 26 (0, 0)) := (g15.block V0.heap.size (by simp)).trans (heap_alloc_new V0 _)
            obtain ⟨k1, k2, k3, k4, U, hU, gVU, hoth, rr⟩ := fields23 hg5 gV5 (Nat.le_refl _) v z
            have gUU : Grew U U := Below.refl _ _
            have hbU : U.heap[w.heap.size]? = some (.cells zeroN.cells.toArray 26 (0, 0)) := (hoth _ (by omega)).trans (hb _ gV5)
            have hbl := fun W (g : Grew U W) => (g.block w.heap.size (Array.getElem?_eq_some_iff.1 hbU).1).trans hbU
            have hww := fun W (g : Grew U W) => hbw W (gVU.trans' g)
            obtain ⟨i, hi⟩ : ∃ i : Idn, (⟨NM, EM, v, z⟩ : Idn) = i := ⟨_, rfl⟩
            have hcells : [Value.string NM, Value.string EM, Value.int .i64 v, Value.int .i64 z] = i.cells := by rw [← hi]; rfl
            have hin : i.name.size ≤ 1099511627776 := by rw [← hi]; exact Nat.le_trans hNs (by omega)
            have hie : i.email.size ≤ 1099511627776 := by rw [← hi]; exact Nat.le_trans hEs (by omega)
            have nfi : (Tryz.prog.info? 26).map (·.size) = some [Value.string NM, Value.string EM, Value.int .i64 v, Value.int .i64 z].length := by rw [hcells]; exact infoIdn i
            have hone : ∀ u ∈ [Value.string NM, Value.string EM, Value.int .i64 v, Value.int .i64 z], u.oneCell' = true := by rw [hcells]; exact i.one
            have HONE := Lib.hid hone
            have cR := fun W (g : Grew U W) => ref_RightN i W hin hie (u8_grew HU.out (hww _ g))
            have cP := fun W (g : Grew U W) => ref06_Print i W hin hie (u8_grew HU.out (hww _ g))
            rw [← hcells] at cR cP
            have hwe : ((e == 0) = true ∧ (e != 0) = false ∧ e = 0) ∨ ((e == 0) = false ∧ (e != 0) = true ∧ e ≠ 0) := by
              by_cases h : e = 0
              · exact .inl ⟨by simp [h], by simp [h], h⟩
              · exact .inr ⟨by simp [h], by simp [h], h⟩
            have hwf : ((f == 0) = true ∧ (f != 0) = false ∧ f = 0) ∨ ((f == 0) = false ∧ (f != 0) = true ∧ f ≠ 0) := by
              by_cases h : f = 0
              · exact .inl ⟨by simp [h], by simp [h], h⟩
              · exact .inr ⟨by simp [h], by simp [h], h⟩
            obtain ⟨RR, hRR⟩ : ∃ R, rightN i = R := ⟨_, rfl⟩
            rw [hRR] at cR
            obtain ⟨T, hT⟩ : ∃ T, printB i = T := ⟨_, rfl⟩
            rw [hT] at cP
            obtain ⟨Q, hQ⟩ : ∃ Q, (T.toList == s.toList) = Q := ⟨_, rfl⟩
            have hQ2 : (T.toList != s.toList) = !Q := by rw [bne, hQ]
            have hgo : RR = true → Q = true → rightN i = true ∧ printN i = s.data.toList := by
              intro h1 h2
              refine ⟨hRR.trans h1, ?_⟩
              rw [h2, beq_iff_eq, ByteArray.toList_eq, ByteArray.toList_eq, ← hT] at hQ
              unfold printB at hQ
              rw [hRR, h1, if_pos rfl] at hQ
              exact hQ
            have hback : rightN i = true → printN i = s.data.toList → RR = true ∧ Q = true := by
              intro h1 h2
              refine ⟨hRR.symm.trans h1, ?_⟩
              rw [← hQ, beq_iff_eq, ByteArray.toList_eq, ByteArray.toList_eq, ← hT]
              unfold printB
              rw [h1, if_pos rfl]
              exact h2
            have hno : ¬ (e = 0 ∧ f = 0 ∧ RR = true ∧ Q = true) → ∀ j : Idn, rightN j = true → printN j ≠ s.data.toList := by
              intro h j hj hjs
              obtain ⟨-, -, t1, t2⟩ := HREST.out j hj hjs
              obtain ⟨t3, t4⟩ := HNAME.out j hj hjs
              obtain ⟨p1, p2, p3, p4, p5⟩ := right_parts hj
              have t5 : Pure.takeN N3.data.toList = some j.when := by rw [t1]; exact Pure.takeN_itoa (by unfold Pure.In64; omega)
              have t6 : Pure.zoneF R3.data.toList = some j.zone := by rw [t2]; exact Pure.zoneF_S p5
              have h4 : e = 0 ∧ v = j.when := by
                rcases HVE.out with ⟨h, h'⟩ | ⟨h, h'⟩
                · rw [t5] at h'; exact ⟨h, (Option.some.inj h').symm⟩
                · exact absurd t5 (h' _)
              have h5 : f = 0 ∧ z = j.zone := by
                rcases HZF.out with ⟨h, h'⟩ | ⟨h, h'⟩
                · rw [t6] at h'; exact ⟨h, (Option.some.inj h').symm⟩
                · rw [t6] at h'; cases h'
              have hji : j = i := by rw [← hi]; exact Idn.ext' t3 t4 h4.2.symm h5.2.symm
              subst hji
              obtain ⟨k7, k8⟩ := hback hj hjs
              exact h ⟨h4.1, h5.1, k7, k8⟩
            have HN := Lib.hid hno
            have HG := Lib.hid hgo
            have HC := Lib.hid hcells
            clear hback hno hgo hi hRR hT hcells hone c4 c5 HVE HZF HREST HNAME hoth hin hie hg5 hbU
            rcases hwe with ⟨we1, we2, we3⟩ | ⟨we1, we2, we3⟩
            · rcases hwf with ⟨wf1, wf2, wf3⟩ | ⟨wf1, wf2, wf3⟩
              · subst we3
                subst wf3
                cases RR with
                | false =>
                  go_wp2_with (first | (refine wpList_load_g (by rfl) 26 _ rfl _ _ rfl [Value.string NM, Value.string EM, Value.int .i64 v, Value.int .i64 z] _ (rr _ (by assumption)) Tryz.underlying26 rfl nfi ?_) | (go_at_call 35; with_reducible refine (cR _ (by assumption)).mono ?_; rintro e1 W1 ⟨rfl, g1⟩; replace g1 := Grew.trans' (a := U) (by assumption) g1) | (go_at_call 23; with_reducible refine (cP _ (by assumption)).mono ?_; rintro e1 W1 ⟨rfl, g1⟩; replace g1 := Grew.trans' (a := U) (by assumption) g1) | (refine wpList_store_row rfl 26 (.tmp 2) (.tmp 133) rfl w.heap.size zeroN.cells.toArray rfl rfl 26 _ (hbl _ (by assumption)) (infoIdn' zeroN) rfl (all_oneCell_toArray zeroN.one) ?_))
                  refine bodyPost_ret (results_cell_tmp_mid Tryz.results30 _ _ w.heap.size 0 zeroN.cells _ rfl (range_setRow (hbl _ (by assumption)) _) Tryz.underlying26 rfl (infoIdn zeroN)) rfl ?_
                  exact ⟨below_setRow (hww _ (by assumption)) (Nat.le_refl _) _, .inr ⟨HN.out (by simp), rfl⟩⟩
                | true =>
                  cases Q with
                  | false =>
                    go_wp2_with (first | (refine wpList_load_g (by rfl) 26 _ rfl _ _ rfl [Value.string NM, Value.string EM, Value.int .i64 v, Value.int .i64 z] _ (rr _ (by assumption)) Tryz.underlying26 rfl nfi ?_) | (go_at_call 35; with_reducible refine (cR _ (by assumption)).mono ?_; rintro e1 W1 ⟨rfl, g1⟩; replace g1 := Grew.trans' (a := U) (by assumption) g1) | (go_at_call 23; with_reducible refine (cP _ (by assumption)).mono ?_; rintro e1 W1 ⟨rfl, g1⟩; replace g1 := Grew.trans' (a := U) (by assumption) g1) | (refine wpList_store_row rfl 26 (.tmp 2) (.tmp 133) rfl w.heap.size zeroN.cells.toArray rfl rfl 26 _ (hbl _ (by assumption)) (infoIdn' zeroN) rfl (all_oneCell_toArray zeroN.one) ?_))
                    refine bodyPost_ret (results_cell_tmp_mid Tryz.results30 _ _ w.heap.size 0 zeroN.cells _ rfl (range_setRow (hbl _ (by assumption)) _) Tryz.underlying26 rfl (infoIdn zeroN)) rfl ?_
                    exact ⟨below_setRow (hww _ (by assumption)) (Nat.le_refl _) _, .inr ⟨HN.out (by simp), rfl⟩⟩
                  | true =>
                    go_wp2_with (first | (refine wpList_load_g (by rfl) 26 _ rfl _ _ rfl [Value.string NM, Value.string EM, Value.int .i64 v, Value.int .i64 z] _ (rr _ (by assumption)) Tryz.underlying26 rfl nfi ?_) | (go_at_call 35; with_reducible refine (cR _ (by assumption)).mono ?_; rintro e1 W1 ⟨rfl, g1⟩; replace g1 := Grew.trans' (a := U) (by assumption) g1) | (go_at_call 23; with_reducible refine (cP _ (by assumption)).mono ?_; rintro e1 W1 ⟨rfl, g1⟩; replace g1 := Grew.trans' (a := U) (by assumption) g1) | (refine wpList_store_row rfl 26 (.tmp 2) (.tmp 134) rfl w.heap.size [Value.string NM, Value.string EM, Value.int .i64 v, Value.int .i64 z].toArray rfl rfl 26 _ (hbl _ (by assumption)) nfi rfl (all_oneCell_toArray HONE.out) ?_))
                    refine bodyPost_ret (results_cell_tmp_mid Tryz.results30 _ _ w.heap.size 0 [Value.string NM, Value.string EM, Value.int .i64 v, Value.int .i64 z] _ rfl (range_setRow (hbl _ (by assumption)) _) Tryz.underlying26 rfl nfi) rfl ?_
                    exact ⟨below_setRow (hww _ (by assumption)) (Nat.le_refl _) _, .inl ⟨i, (HG.out (by first | rfl | trivial) (by first | rfl | trivial)).1, (HG.out (by first | rfl | trivial) (by first | rfl | trivial)).2, by rw [HC.out]; rfl⟩⟩
              · have WF := Lib.hid wf3
                clear wf3
                go_wp2_with (first | (refine wpList_load_g (by rfl) 26 _ rfl _ _ rfl [Value.string NM, Value.string EM, Value.int .i64 v, Value.int .i64 z] _ (rr _ (by assumption)) Tryz.underlying26 rfl nfi ?_) | (go_at_call 35; with_reducible refine (cR _ (by assumption)).mono ?_; rintro e1 W1 ⟨rfl, g1⟩; replace g1 := Grew.trans' (a := U) (by assumption) g1) | (go_at_call 23; with_reducible refine (cP _ (by assumption)).mono ?_; rintro e1 W1 ⟨rfl, g1⟩; replace g1 := Grew.trans' (a := U) (by assumption) g1) | (refine wpList_store_row rfl 26 (.tmp 2) (.tmp 133) rfl w.heap.size zeroN.cells.toArray rfl rfl 26 _ (hbl _ (by assumption)) (infoIdn' zeroN) rfl (all_oneCell_toArray zeroN.one) ?_))
                refine bodyPost_ret (results_cell_tmp_mid Tryz.results30 _ _ w.heap.size 0 zeroN.cells _ rfl (range_setRow (hbl _ (by assumption)) _) Tryz.underlying26 rfl (infoIdn zeroN)) rfl ?_
                exact ⟨below_setRow (hww _ (by assumption)) (Nat.le_refl _) _, .inr ⟨HN.out (by intro h; exact WF.out h.2.1), rfl⟩⟩
            · have WE := Lib.hid we3
              clear we3
              go_wp2_with (first | (refine wpList_load_g (by rfl) 26 _ rfl _ _ rfl [Value.string NM, Value.string EM, Value.int .i64 v, Value.int .i64 z] _ (rr _ (by assumption)) Tryz.underlying26 rfl nfi ?_) | (go_at_call 35; with_reducible refine (cR _ (by assumption)).mono ?_; rintro e1 W1 ⟨rfl, g1⟩; replace g1 := Grew.trans' (a := U) (by assumption) g1) | (go_at_call 23; with_reducible refine (cP _ (by assumption)).mono ?_; rintro e1 W1 ⟨rfl, g1⟩; replace g1 := Grew.trans' (a := U) (by assumption) g1) | (refine wpList_store_row rfl 26 (.tmp 2) (.tmp 133) rfl w.heap.size zeroN.cells.toArray rfl rfl 26 _ (hbl _ (by assumption)) (infoIdn' zeroN) rfl (all_oneCell_toArray zeroN.one) ?_))
              refine bodyPost_ret (results_cell_tmp_mid Tryz.results30 _ _ w.heap.size 0 zeroN.cells _ rfl (range_setRow (hbl _ (by assumption)) _) Tryz.underlying26 rfl (infoIdn zeroN)) rfl ?_
              exact ⟨below_setRow (hww _ (by assumption)) (Nat.le_refl _) _, .inr ⟨HN.out (by intro h; exact WE.out h.1), rfl⟩⟩
        · rw [decide_eq_false h32] at e32
          have hno : ∀ j : Idn, rightN j = true → printN j ≠ s.data.toList := by
            intro j hj hjs
            obtain ⟨h1, -⟩ := HP2.out j hj hjs
            rcases h1 with ⟨h, -⟩ | ⟨-, -, h⟩
            · omega
            · rw [Nat.add_sub_cancel, HCC.out] at h
              exact h32 (Option.some.inj h)
          have HN := Lib.hid hno
          clear hno
          go_wp2_with (first | (refine wpList_store_row rfl 26 (.tmp 2) (.tmp 59) rfl w.heap.size zeroN.cells.toArray rfl rfl 26 _ (hb _ (by assumption)) (infoIdn' zeroN) rfl (all_oneCell_toArray zeroN.one) ?_))
          refine bodyPost_ret (results_cell_tmp_mid Tryz.results30 _ _ w.heap.size 0 zeroN.cells _ rfl (range_setRow (hb _ (by assumption)) _) Tryz.underlying26 rfl (infoIdn zeroN)) rfl ?_
          exact ⟨below_setRow (hbw _ (by assumption)) (Nat.le_refl _) _, .inr ⟨HN.out, rfl⟩⟩

end Go.Proofs.YtemojhcbhljemaaGreatDoor

/- The law TreeOrder of layer 8, walked. Conditions: the library's tables are laid. -/
import Derived.Test.YtpgcjljaokopaaaDoorLaw08a
import Derived.Test.YtpgcjljaokopaaaDoorOrd
import Derived.Test.YtpgcjljaokopaaaDoorFlags
namespace Go.Proofs.YtpgcjljaokopaaaDoor
set_option linter.unusedVariables false
set_option linter.unusedSimpArgs false
open Go.RowKit

/-- An id of one byte and nothing else. -/
def idOf (c : UInt8) : List UInt8 := [c, 0, 0, 0, 0, 0, 0, 0, 0, 0, 0, 0, 0, 0, 0, 0, 0, 0, 0, 0]
theorem run_idOf (c : UInt8) (w : World) : (Instr.build 23 #[(0, .int .u8 (c.toNat : Int))]).run Tryd.prog w = .ok (.agg (Lib.byteCells (idOf c)).toArray) w := run_build w _ _ _ (by kernel_rfl)
abbrev cells1 (m : Int) (n : ByteArray) (j : Int) : Array Value := #[.int .i64 m, .string n, .int .u8 (j + 1), .int .u8 0, .int .u8 0, .int .u8 0, .int .u8 0, .int .u8 0, .int .u8 0, .int .u8 0, .int .u8 0, .int .u8 0, .int .u8 0, .int .u8 0, .int .u8 0, .int .u8 0, .int .u8 0, .int .u8 0, .int .u8 0, .int .u8 0, .int .u8 0, .int .u8 0]
theorem cells1_eq (m : Int) (n : ByteArray) (c : UInt8) (j : Nat) (h : c.toNat = j + 1) : (⟨m, n, idOf c⟩ : Itm).cells.toArray = cells1 m n (j : Int) := by
  unfold cells1
  rw [show (j : Int) + 1 = (c.toNat : Int) by omega]
  rfl
theorem row_new (w : World) (i : Itm) : (w.alloc (.cells i.cells.toArray 25)).rangeAt w.heap.size 0 i.cells := by
  have := range_row (heap_alloc_new w (.cells i.cells.toArray 25))
  simpa using this

set_option maxRecDepth 100000 in
set_option maxHeartbeats 8000000 in
theorem law_TreeOrder (p : Option Addr) (zs : List Int) (cap : Nat) (q : Option Addr) (bs : List Bool) (cap2 : Nat) (t : Bool) (w : World) (hz : RdZ w p zs) (hzl : zs.length ≤ 9223372036854775807) (hzw : ∀ z ∈ zs, -9223372036854775808 ≤ z ∧ z ≤ 9223372036854775807) (hb : RdF w q bs) (hbl : bs.length ≤ 9223372036854775807) (hm : MaxOk w) (hu : U8Ok w) (hF : FoldOk w) :
    Calls Tryd.prog 4 #[.slice p zs.length cap, .slice q bs.length cap2, .bool t] w fun e w' => e = .returned (.bool true) ∧ Grew w w' := by
  have g0 : Grew w w := Below.refl _ _
  have HZ := Lib.hid hz
  have HB := Lib.hid hb
  have HM := Lib.hid hm
  have HU := Lib.hid hu
  have HFO := Lib.hid hF
  clear hz hb hm hu hF hzw
  go_enter Tryd.func4, Tryd.ntmps4
  go_wp2
  go_loopw [7, 8] (fun lv i wr => ∃ (j : Nat) (its : List Itm) (v : Value), v = lv ∧ .int .i64 (j : Int) = i ∧ j ≤ 20 ∧ j ≤ zs.length ∧ Grew w wr ∧ OwnI wr w.heap.size v its ∧ its.length ≤ j ∧ Hid (Pool its)) (fun _ i _ => 20 - (intOf i).toNat)
  case atStart => exact ⟨0, [], _, rfl, rfl, Nat.zero_le _, Nat.zero_le _, g0, OwnI.nil _ _, Nat.le_refl _, Pool.nil⟩
  case round =>
    obtain ⟨j, its, v, rfl, rfl, hj20, hjz, hg, hown, hil, hP⟩ := hrel
    clear g0
    obtain ⟨wo, rfl⟩ : ∃ wo : World, wo = wr := ⟨_, rfl⟩
    by_cases hlt : j < zs.length ∧ j < 20
    · obtain ⟨hlt1, hlt2⟩ := hlt
      have f1 : decide ((j : Int) < (zs.length : Int)) = true := decide_eq_true (by omega)
      have f2 : decide ((j : Int) < 20) = true := decide_eq_true (by omega)
      rcases HZ.out with h | ⟨b, o, rfl, hblt, hc⟩
      · subst h; simp at hlt1
      have hce := (hg.cell (p := ⟨b, o + j, none⟩) hblt).trans (hc j hlt1)
      obtain ⟨z, hzk⟩ : ∃ z, zs.getD j 0 = z := ⟨_, rfl⟩
      rw [hzk] at hce
      obtain ⟨K, hK, hK7⟩ := pick_wrap z 7 7 rfl (by decide) (by decide)
      obtain ⟨wA, hwA⟩ : ∃ wA : World, wo.alloc (.cells #[Value.string { data := #[97] }, Value.string { data := #[97, 46, 98] }, Value.string { data := #[97, 45, 98] }, Value.string { data := #[97, 98] }, Value.string { data := #[98] }, Value.string { data := #[65] }, Value.string { data := #[97, 48] }] 9) = wA := ⟨_, rfl⟩
      have gA : Grew wo wA := by rw [← hwA]; exact (Below.refl _ _).alloc (Nat.le_refl _) _
      have hceA : wA.cell? ⟨b, o + j, none⟩ = some (.int .i64 z) := cell_grew hce gA
      have hpc : wA.cell? ⟨wo.heap.size, K, none⟩ = some (.string ⟨(names7.getD K []).toArray⟩) := by
        rw [← hwA, cell_of_row _ _ _ _ _ (0, 0) (heap_alloc_new wo _)]
        have : K = 0 ∨ K = 1 ∨ K = 2 ∨ K = 3 ∨ K = 4 ∨ K = 5 ∨ K = 6 := by omega
        rcases this with rfl | rfl | rfl | rfl | rfl | rfl | rfl <;> rfl
      have hn7 : names7.getD K [] ∈ names7 := by
        have : K = 0 ∨ K = 1 ∨ K = 2 ∨ K = 3 ∨ K = 4 ∨ K = 5 ∨ K = 6 := by omega
        rcases this with rfl | rfl | rfl | rfl | rfl | rfl | rfl <;> decide
      obtain ⟨N, hN⟩ : ∃ N : ByteArray, (⟨(names7.getD K []).toArray⟩ : ByteArray) = N := ⟨_, rfl⟩
      rw [hN] at hpc
      have hNl : N.data.toList ∈ names7 := by rw [← hN]; simpa using hn7
      have hownA := hown.below gA
      have gwA := hg.trans' gA
      have HNL := Lib.hid hNl
      have HK := Lib.hid hK7
      clear hzk hN hn7 hNl hc hown hce hg
      go_wp2
      obtain ⟨pv, cv, rfl, hri, hcv⟩ := hownA.val
      go_loopw [10, 11] (fun s i wr => ∃ k : Nat, .int .i64 (k : Int) = i ∧ k ≤ its.length ∧ wr = wA ∧ s = .bool ((its.take k).any (fun y => y.name.toList == N.toList))) (fun _ i _ => its.length - (intOf i).toNat)
      case atStart => exact ⟨0, rfl, Nat.zero_le _, rfl, rfl⟩
      case round =>
        obtain ⟨k, rfl, hk, rfl, rfl⟩ := hrel
        by_cases hkl : k < its.length
        · have f3 : decide ((k : Int) < (its.length : Int)) = true := decide_eq_true (by omega)
          obtain ⟨x, hx⟩ : ∃ x, its[k]? = some x := ⟨_, List.getElem?_eq_getElem hkl⟩
          rcases hri with h | ⟨b2, o2, rfl, hc2⟩
          · subst h; simp at hkl
          have hnm : wr.cell? ⟨b2, o2 + k * 22 + 1, none⟩ = some (.string x.name) := by have := hc2 k x hx 1 _ x.cell1; exact this
          have hstep : (its.take (k + 1)).any (fun y => y.name.toList == N.toList) = ((its.take k).any (fun y => y.name.toList == N.toList) || (x.name.toList == N.toList)) := by rw [List.take_add_one, hx]; simp
          have HS := Lib.hid hstep
          obtain ⟨s, hs⟩ : ∃ s, (its.take k).any (fun y => y.name.toList == N.toList) = s := ⟨_, rfl⟩
          have HSS := Lib.hid hs
          rw [hs]
          clear hstep hs hc2 hx
          cases s
          · go_wp2
            go_roundw
            case rel => exact ⟨k + 1, by go_num, by omega, trivial, by rw [HS.out, HSS.out]; rfl⟩
            case measure => simp [intOf]; omega
          · go_wp2
            go_roundw
            case rel => exact ⟨k + 1, by go_num, by omega, trivial, by rw [HS.out, HSS.out]; rfl⟩
            case measure => simp [intOf]; omega
        · obtain rfl : k = its.length := by omega
          rw [List.take_length]
          have f3 : decide ((its.length : Int) < (its.length : Int)) = false := decide_eq_false (by omega)
          obtain ⟨s, hs⟩ : ∃ s, its.any (fun y => y.name.toList == N.toList) = s := ⟨_, rfl⟩
          have HSS := Lib.hid hs
          rw [hs]
          clear hs
          cases s
          · obtain ⟨c, hcj⟩ : ∃ c : UInt8, c.toNat = j + 1 := ⟨UInt8.ofNat (j + 1), by simp; omega⟩
            have hw8 : IntKind.u8.wrap ((j : Int) + 1) = (c.toNat : Int) := by rw [hcj]; simp [IntKind.wrap, IntKind.bits, IntKind.signed]; omega
            have hpool : ∀ m : Int, m = 1 ∨ m = 4 → PoolI ⟨m, N, idOf c⟩ := fun m h => ⟨HNL.out, h, rfl, by
              have : c ≠ 0 := fun e => by subst e; simp at hcj
              simp [idOf, zeros20, this]⟩
            have hany : ∀ m : Int, its.any (fun y => y.name.data.toList == (⟨m, N, idOf c⟩ : Itm).name.data.toList) = false := fun m => by have := HSS.out; simpa [ByteArray.toList_eq] using this
            have HPO := Lib.hid hpool
            have HAN := Lib.hid hany
            clear hpool hany
            by_cases hd : j < bs.length
            · have f4 : decide ((j : Int) < (bs.length : Int)) = true := decide_eq_true (by omega)
              rcases HB.out with h | ⟨b3, o3, rfl, hblt3, hc3⟩
              · subst h; simp at hd
              have hce3 := (gwA.cell (p := ⟨b3, o3 + j, none⟩) hblt3).trans (hc3 j hd)
              generalize bs.getD j false = dd at hce3
              clear hc3
              cases dd
              · obtain ⟨X, hX⟩ : ∃ X : Itm, X = ⟨1, N, idOf c⟩ := ⟨_, rfl⟩
                have hx20 : X.id.length = 20 := by rw [hX]; rfl
                have hXc : X.cells.toArray = cells1 1 N (j : Int) := by rw [hX]; exact cells1_eq 1 N c j hcj
                unfold cells1 at hXc
                have HX := Lib.hid hX
                clear hX
                have rX := row_new wr X
                have gX : Grew wr (wr.alloc (.cells X.cells.toArray 25)) := (Below.refl _ _).alloc (Nat.le_refl _) _
                have ownX := hownA.below gX
                have gwX := Grew.trans' gwA gX
                have hilb : its.length ≤ 1073741824 := by omega
                rw [hXc] at rX ownX gwX
                clear gX hXc
                go_wp2_with (at_builtin; refine wpList_append_I rfl (.tmp 65) (.tmp 73) rfl w.heap.size _ its X wr.heap.size rfl rfl ownX hx20 rX gwX.size hilb ?_)
                intro v4 w4 hown4 hb4 hg4
                have gw4 := gwX.trans hb4
                clear hg4 ownX rX gwX
                go_wp2
                go_roundw
                case rel => exact ⟨j + 1, its ++ [X], v4, rfl, by go_num, by omega, by omega, gw4, hown4, by simp; omega, hP.out.add (by rw [HX.out]; exact HPO.out _ (by omega)) (by rw [HX.out]; exact HAN.out 1)⟩
                case measure => simp [intOf]; omega
              · obtain ⟨X, hX⟩ : ∃ X : Itm, X = ⟨4, N, idOf c⟩ := ⟨_, rfl⟩
                have hx20 : X.id.length = 20 := by rw [hX]; rfl
                have hXc : X.cells.toArray = cells1 4 N (j : Int) := by rw [hX]; exact cells1_eq 4 N c j hcj
                unfold cells1 at hXc
                have HX := Lib.hid hX
                clear hX
                have rX := row_new wr X
                have gX : Grew wr (wr.alloc (.cells X.cells.toArray 25)) := (Below.refl _ _).alloc (Nat.le_refl _) _
                have ownX := hownA.below gX
                have gwX := Grew.trans' gwA gX
                have hilb : its.length ≤ 1073741824 := by omega
                rw [hXc] at rX ownX gwX
                clear gX hXc
                go_wp2_with (at_builtin; refine wpList_append_I rfl (.tmp 65) (.tmp 73) rfl w.heap.size _ its X wr.heap.size rfl rfl ownX hx20 rX gwX.size hilb ?_)
                intro v4 w4 hown4 hb4 hg4
                have gw4 := gwX.trans hb4
                clear hg4 ownX rX gwX
                go_wp2
                go_roundw
                case rel => exact ⟨j + 1, its ++ [X], v4, rfl, by go_num, by omega, by omega, gw4, hown4, by simp; omega, hP.out.add (by rw [HX.out]; exact HPO.out _ (by omega)) (by rw [HX.out]; exact HAN.out 1)⟩
                case measure => simp [intOf]; omega
            · have f4 : decide ((j : Int) < (bs.length : Int)) = false := decide_eq_false (by omega)
              obtain ⟨X, hX⟩ : ∃ X : Itm, X = ⟨1, N, idOf c⟩ := ⟨_, rfl⟩
              have hx20 : X.id.length = 20 := by rw [hX]; rfl
              have hXc : X.cells.toArray = cells1 1 N (j : Int) := by rw [hX]; exact cells1_eq 1 N c j hcj
              unfold cells1 at hXc
              have HX := Lib.hid hX
              clear hX
              have rX := row_new wr X
              have gX : Grew wr (wr.alloc (.cells X.cells.toArray 25)) := (Below.refl _ _).alloc (Nat.le_refl _) _
              have ownX := hownA.below gX
              have gwX := Grew.trans' gwA gX
              have hilb : its.length ≤ 1073741824 := by omega
              rw [hXc] at rX ownX gwX
              clear gX hXc
              go_wp2_with (at_builtin; refine wpList_append_I rfl (.tmp 65) (.tmp 73) rfl w.heap.size _ its X wr.heap.size rfl rfl ownX hx20 rX gwX.size hilb ?_)
              intro v4 w4 hown4 hb4 hg4
              have gw4 := gwX.trans hb4
              clear hg4 ownX rX gwX
              go_wp2
              go_roundw
              case rel => exact ⟨j + 1, its ++ [X], v4, rfl, by go_num, by omega, by omega, gw4, hown4, by simp; omega, hP.out.add (by rw [HX.out]; exact HPO.out _ (by omega)) (by rw [HX.out]; exact HAN.out 1)⟩
              case measure => simp [intOf]; omega
          · go_wp2
            go_roundw
            case rel => exact ⟨j + 1, its, _, rfl, by go_num, by omega, by omega, gwA, hownA, by omega, hP⟩
            case measure => simp [intOf]; omega
    · have fs : (j < zs.length ∧ decide ((j : Int) < (zs.length : Int)) = true ∧ decide ((j : Int) < 20) = false) ∨ (¬ j < zs.length ∧ decide (j < zs.length) = false ∧ decide ((j : Int) < (zs.length : Int)) = false) := by
        by_cases h : j < zs.length
        · exact .inl ⟨h, decide_eq_true (by omega), decide_eq_false (by omega)⟩
        · exact .inr ⟨h, decide_eq_false (by omega), decide_eq_false (by omega)⟩
      clear hlt
      by_cases hn : its = []
      · subst hn
        have ca := (fun W g => awake08 W (HM.out.grew g) (u8_grew HU.out g) (HFO.out.grew g) : ∀ W, Grew w W → _)
        obtain ⟨pv, cv, rfl, -, -⟩ := hown.val
        have hl0 : ([] : List Itm).length = 0 := rfl
        rw [hl0]
        clear hl0
        rcases fs with ⟨f0, f1, f2⟩ | ⟨f0, f1, f2⟩
        all_goals
          go_wp2_with (first | (go_at_call 9; with_reducible refine (ca _ (by assumption)).mono ?_; rintro e1 W1 ⟨rfl, g1⟩; replace g1 := Grew.trans' (a := w) (by assumption) g1))
        all_goals
          go_ret
          exact ⟨rfl, by assumption⟩
      · obtain ⟨g, cv, rfl, hbg, hcv⟩ := hown.form hn
        have hlp : 0 < its.length := List.length_pos_iff.2 hn
        have hn0 : ((its.length : Int) == 0) = false := beq_eq_false_iff_ne.2 (by omega)
        obtain ⟨n, hnl⟩ : ∃ n, its.length = n := ⟨_, rfl⟩
        rw [hnl] at hlp hn0 hown
        rw [hnl]
        have hn20 : n ≤ 20 := by omega
        have HN := Lib.hid hnl
        have hn1 : (n == 0) = false := beq_eq_false_iff_ne.2 (by omega)
        have hn2 : ¬ n = 0 := by omega
        have hn3 : ¬ (n : Int) = 0 := by omega
        clear hn hcv hnl hil
        rcases fs with ⟨f0, f1, f2⟩ | ⟨f0, f1, f2⟩
        · go_wp2
          clear f0 f1 f2 hn0 hn1 hn2 hn3
          go_loopw [13] (fun i wr => ∃ (a : Nat) (l : List Itm), .int .i64 (a : Int) = i ∧ 1 ≤ a ∧ a ≤ n ∧ Grew w wr ∧ OwnI wr w.heap.size (.slice (some ⟨g, 0, none⟩) n cv) l ∧ l.length = n ∧ Hid (Pool l) ∧ Hid (Upto l a)) (fun i _ => n - (intOf i).toNat)
          case atStart => exact ⟨1, its, rfl, by omega, hlp, hg, hown, HN.out, hP, Upto.one its⟩
          case round =>
            obtain ⟨a, l, rfl, ha1, han, hga, hown1, hll, hP1, hU⟩ := hrel
            clear hown hg hP
            obtain ⟨wb, rfl⟩ : ∃ W : World, W = wr := ⟨_, rfl⟩
            by_cases hlt : a < n
            · have f5 : decide ((a : Int) < (n : Int)) = true := decide_eq_true (by omega)
              go_wp2
              go_loopw [14] (fun kk wr => ∃ (k : Nat) (l : List Itm), .int .i64 (k : Int) = kk ∧ k ≤ a ∧ Grew w wr ∧ OwnI wr w.heap.size (.slice (some ⟨g, 0, none⟩) n cv) l ∧ l.length = n ∧ Hid (Pool l) ∧ Hid (But l a k)) (fun kk _ => (intOf kk).toNat)
              case atStart => exact ⟨a, l, rfl, Nat.le_refl _, hga, hown1, hll, hP1, hU.out.but⟩
              case round =>
                clear hga hown1 hP1 hU hll f5
                obtain ⟨k, l2, rfl, hka, hgb, hown2, hll2, hP2, hBt⟩ := hrel
                obtain ⟨wc, rfl⟩ : ∃ W : World, W = wr := ⟨_, rfl⟩
                have gcc : Grew wc wc := Below.refl _ _
                by_cases hk0 : k = 0
                · subst hk0
                  go_wp2
                  refine wp_region_held_drew (S := fun w' => Grew wc w') (by kernel_rfl) (by first | assumption | exact Below.drew (by assumption)) (fun hHeld => ?_)
                  first
                    | (refine wpAnyH_take (i := 0) (v := ?_) rfl (by kernel_rfl) (by kernel_rfl) (by kernel_rfl) (fun _ _ _ h => h) (Or.inl ⟨by rfl, ?_⟩) (by assumption) ?_; rotate_left 1; focus (intro w hSw; (try dsimp only at hSw); go_simp; (try with_reducible rfl)))
                    | fail
                  try simp only [Act.put, List.getElem_toArray, List.getElem_cons_succ, List.getElem_cons_zero, List.setIfInBounds_toArray, List.set_cons_zero, List.set_cons_succ]
                  first
                    | (refine wpAnyH_take (i := 1) (v := ?_) rfl (by kernel_rfl) (by kernel_rfl) (by kernel_rfl) (fun _ _ _ h => h) (Or.inl ⟨by rfl, ?_⟩) (by assumption) ?_; rotate_left 1; focus (intro w hSw; (try dsimp only at hSw); go_simp; (try with_reducible rfl)))
                    | fail
                  try simp only [Act.put, List.getElem_toArray, List.getElem_cons_succ, List.getElem_cons_zero, List.setIfInBounds_toArray, List.set_cons_zero, List.set_cons_succ]
                  first
                    | (refine wpAnyH_take (i := 2) (v := ?_) rfl (by kernel_rfl) (by kernel_rfl) (by kernel_rfl) (fun _ _ _ h => h) (Or.inl ⟨by rfl, ?_⟩) (by assumption) ?_; rotate_left 1; focus (intro w hSw; (try dsimp only at hSw); go_simp; (try with_reducible rfl)))
                    | fail
                  try simp only [Act.put, List.getElem_toArray, List.getElem_cons_succ, List.getElem_cons_zero, List.setIfInBounds_toArray, List.set_cons_zero, List.set_cons_succ]
                  first
                    | (refine wpAnyH_take (i := 3) (v := ?_) rfl (by kernel_rfl) (by kernel_rfl) (by kernel_rfl) (fun _ _ _ h => h) (Or.inl ⟨by rfl, ?_⟩) (by assumption) ?_; rotate_left 1; focus (intro w hSw; (try dsimp only at hSw); go_simp; (try with_reducible rfl)))
                    | (refine wpAnyH_take (i := 3) (v := undef) rfl (by kernel_rfl) (by kernel_rfl) (by kernel_rfl) (fun _ _ _ h => h) (Or.inr ⟨by rfl, rfl⟩) (by assumption) ?_)
                    | fail
                  try simp only [Act.put, List.getElem_toArray, List.getElem_cons_succ, List.getElem_cons_zero, List.setIfInBounds_toArray, List.set_cons_zero, List.set_cons_succ]
                  first
                    | (refine wpAnyH_take (i := 4) (v := ?_) rfl (by kernel_rfl) (by kernel_rfl) (by kernel_rfl) (fun _ _ _ h => h) (Or.inl ⟨by rfl, ?_⟩) (by assumption) ?_; rotate_left 1; focus (intro w hSw; (try dsimp only at hSw); go_simp; (try with_reducible rfl)))
                    | (refine wpAnyH_take (i := 4) (v := undef) rfl (by kernel_rfl) (by kernel_rfl) (by kernel_rfl) (fun _ _ _ h => h) (Or.inr ⟨by rfl, rfl⟩) (by assumption) ?_)
                    | fail
                  try simp only [Act.put, List.getElem_toArray, List.getElem_cons_succ, List.getElem_cons_zero, List.setIfInBounds_toArray, List.set_cons_zero, List.set_cons_succ]
                  first
                    | (refine wpAnyH_take (i := 5) (v := ?_) rfl (by kernel_rfl) (by kernel_rfl) (by kernel_rfl) (fun _ _ _ h => h) (Or.inl ⟨by rfl, ?_⟩) (by assumption) ?_; rotate_left 1; focus (intro w hSw; (try dsimp only at hSw); go_simp; (try with_reducible rfl)))
                    | (refine wpAnyH_take (i := 5) (v := undef) rfl (by kernel_rfl) (by kernel_rfl) (by kernel_rfl) (fun _ _ _ h => h) (Or.inr ⟨by rfl, rfl⟩) (by assumption) ?_)
                    | fail
                  try simp only [Act.put, List.getElem_toArray, List.getElem_cons_succ, List.getElem_cons_zero, List.setIfInBounds_toArray, List.set_cons_zero, List.set_cons_succ]
                  first
                    | (refine' wpAnyH_take (i := 6) (v := _) rfl (by kernel_rfl) (by kernel_rfl) (by kernel_rfl) (fun _ _ _ h => h) (yieldsIf_load_mid (by rfl) _ _ rfl _ _ rfl _ _ (fun w hSw => (by fail)) Tryd.underlying25 rfl (by first | assumption | kernel_rfl)) (by assumption) ?_)
                    | (refine wpAnyH_take (i := 6) (v := undef) rfl (by kernel_rfl) (by kernel_rfl) (by kernel_rfl) (fun _ _ _ h => h) (Or.inr ⟨by rfl, rfl⟩) (by assumption) ?_)
                    | fail
                  try simp only [Act.put, List.getElem_toArray, List.getElem_cons_succ, List.getElem_cons_zero, List.setIfInBounds_toArray, List.set_cons_zero, List.set_cons_succ]
                  first
                    | (refine wpAnyH_take (i := 7) (v := ?_) rfl (by kernel_rfl) (by kernel_rfl) (by kernel_rfl) (fun _ _ _ h => h) (Or.inl ⟨by rfl, ?_⟩) (by assumption) ?_; rotate_left 1; focus (intro w hSw; (try dsimp only at hSw); go_simp; (try with_reducible rfl)))
                    | (refine wpAnyH_take (i := 7) (v := undef) rfl (by kernel_rfl) (by kernel_rfl) (by kernel_rfl) (fun _ _ _ h => h) (Or.inr ⟨by rfl, rfl⟩) (by assumption) ?_)
                    | fail
                  try simp only [Act.put, List.getElem_toArray, List.getElem_cons_succ, List.getElem_cons_zero, List.setIfInBounds_toArray, List.set_cons_zero, List.set_cons_succ]
                  first
                    | (refine wpAnyH_take (i := 8) (v := ?_) rfl (by kernel_rfl) (by kernel_rfl) (by kernel_rfl) (fun _ _ _ h => h) (Or.inl ⟨by rfl, ?_⟩) (by assumption) ?_; rotate_left 1; focus (intro w hSw; (try dsimp only at hSw); go_simp; (try with_reducible rfl)))
                    | (refine wpAnyH_take (i := 8) (v := undef) rfl (by kernel_rfl) (by kernel_rfl) (by kernel_rfl) (fun _ _ _ h => h) (Or.inr ⟨by rfl, rfl⟩) (by assumption) ?_)
                    | fail
                  try simp only [Act.put, List.getElem_toArray, List.getElem_cons_succ, List.getElem_cons_zero, List.setIfInBounds_toArray, List.set_cons_zero, List.set_cons_succ]
                  first
                    | (refine wpAnyH_take (i := 9) (v := ?_) rfl (by kernel_rfl) (by kernel_rfl) (by kernel_rfl) (fun _ _ _ h => h) (Or.inl ⟨by rfl, ?_⟩) (by assumption) ?_; rotate_left 1; focus (intro w hSw; (try dsimp only at hSw); go_simp; (try with_reducible rfl)))
                    | (refine wpAnyH_take (i := 9) (v := undef) rfl (by kernel_rfl) (by kernel_rfl) (by kernel_rfl) (fun _ _ _ h => h) (Or.inr ⟨by rfl, rfl⟩) (by assumption) ?_)
                    | fail
                  try simp only [Act.put, List.getElem_toArray, List.getElem_cons_succ, List.getElem_cons_zero, List.setIfInBounds_toArray, List.set_cons_zero, List.set_cons_succ]
                  first
                    | (refine wpAnyH_take (i := 10) (v := ?_) rfl (by kernel_rfl) (by kernel_rfl) (by kernel_rfl) (fun _ _ _ h => h) (Or.inl ⟨by rfl, ?_⟩) (by assumption) ?_; rotate_left 1; focus (intro w hSw; (try dsimp only at hSw); go_simp; (try with_reducible rfl)))
                    | (refine wpAnyH_take (i := 10) (v := undef) rfl (by kernel_rfl) (by kernel_rfl) (by kernel_rfl) (fun _ _ _ h => h) (Or.inr ⟨by rfl, rfl⟩) (by assumption) ?_)
                    | fail
                  try simp only [Act.put, List.getElem_toArray, List.getElem_cons_succ, List.getElem_cons_zero, List.setIfInBounds_toArray, List.set_cons_zero, List.set_cons_succ]
                  first
                    | (refine' wpAnyH_take (i := 11) (v := _) rfl (by kernel_rfl) (by kernel_rfl) (by kernel_rfl) (fun _ _ _ h => h) (yieldsIf_load_mid (by rfl) _ _ rfl _ _ rfl _ _ (fun w hSw => (by fail)) Tryd.underlying25 rfl (by first | assumption | kernel_rfl)) (by assumption) ?_)
                    | (refine wpAnyH_take (i := 11) (v := undef) rfl (by kernel_rfl) (by kernel_rfl) (by kernel_rfl) (fun _ _ _ h => h) (Or.inr ⟨by rfl, rfl⟩) (by assumption) ?_)
                    | fail
                  try simp only [Act.put, List.getElem_toArray, List.getElem_cons_succ, List.getElem_cons_zero, List.setIfInBounds_toArray, List.set_cons_zero, List.set_cons_succ]
                  first
                    | (refine wpAnyH_take (i := 12) (v := undef) rfl (by kernel_rfl) (by kernel_rfl) (by kernel_rfl) (fun _ _ _ h => h) (Or.inr ⟨by rfl, rfl⟩) (by assumption) ?_; try simp only [Act.put, List.getElem_toArray, List.getElem_cons_succ, List.getElem_cons_zero, List.setIfInBounds_toArray, List.set_cons_zero, List.set_cons_succ])
                    | (refine wpAnyH_ready (rs := [12]) (by kernel_rfl) (by simp) ?_; refine AllReadyH.cons rfl (fun K hK => ?_) AllReadyH.nil; go_simp; fail; go_wp2_with fail; refine hK.out _ _ (by first | assumption | exact Below.drew (by assumption)) (fun hHeld => ?_); clear hK K; (try simp only [Act.put, List.getElem_toArray, List.getElem_cons_succ, List.getElem_cons_zero, List.setIfInBounds_toArray, List.set_cons_zero, List.set_cons_succ]))
                    | fail
                  first
                    | (refine wpAnyH_take (i := 13) (v := ?_) rfl (by kernel_rfl) (by kernel_rfl) (by kernel_rfl) (fun _ _ _ h => h) (Or.inl ⟨by rfl, ?_⟩) (by assumption) ?_; rotate_left 1; focus (intro w hSw; (try dsimp only at hSw); go_simp; (try with_reducible rfl)))
                    | fail
                  try simp only [Act.put, List.getElem_toArray, List.getElem_cons_succ, List.getElem_cons_zero, List.setIfInBounds_toArray, List.set_cons_zero, List.set_cons_succ]
                  refine wpAnyH_done (by kernel_rfl) ?_ _
                  go_wp2
                  go_roundw
                  case rel => exact ⟨a + 1, l2, by go_num, by omega, by omega, hgb.trans' (by first | assumption | exact Below.drew (by assumption)), hown2.below (by first | assumption | exact Below.drew (by assumption)), hll2, hP2, hBt.out.zero⟩
                  case measure => simp [intOf]; omega
                · obtain ⟨m, rfl⟩ : ∃ m, k = m + 1 := ⟨k - 1, by omega⟩
                  obtain ⟨x, hx⟩ : ∃ x, l2[m]? = some x := ⟨_, List.getElem?_eq_getElem (by omega)⟩
                  obtain ⟨y, hy⟩ : ∃ y, l2[m + 1]? = some y := ⟨_, List.getElem?_eq_getElem (by omega)⟩
                  have hxf := (hP2.out.1 x (List.mem_of_getElem? hx)).fine
                  have hyf := (hP2.out.1 y (List.mem_of_getElem? hy)).fine
                  obtain ⟨hx20, hxs⟩ := hxf
                  obtain ⟨hy20, hys⟩ := hyf
                  have own3 : OwnI wc w.heap.size (.slice (some ⟨g, 0, none⟩) l2.length cv) l2 := by rw [hll2]; exact hown2
                  have rx := own3.range hx
                  have ry := own3.range hy
                  have RX : ∀ W, Grew wc W → W.rangeAt g (m * 22) x.cells := fun W g => range_grew rx g
                  have RY : ∀ W, Grew wc W → W.rangeAt g ((m + 1) * 22) y.cells := fun W g => range_grew ry g
                  have nfx := infoItem x hx20
                  have nfy := infoItem y hy20
                  have cB := (fun W (g : Grew wc W) => ref_Before y x W hys hxs hy20 hx20)
                  have hw2 : (0 : Int) < (m : Int) + 1 := by omega
                  have hw6 : (0 : Int) ≤ (m : Int) + 1 := by omega
                  have hw3 : IntKind.i64.wrap (m : Int) = (m : Int) := IntWalk.i64_in _ (by omega)
                  have hw4 : (m : Int) < (n : Int) := by omega
                  have hw5 : (m : Int) + 1 < (n : Int) := by omega
                  have HX := Lib.hid hx
                  have HY := Lib.hid hy
                  have OW := Lib.hid own3
                  have OW2 := Lib.hid hown2
                  obtain ⟨B, hB⟩ : ∃ B, beforeI y x = B := ⟨_, rfl⟩
                  rw [hB] at cB
                  have HBB := Lib.hid hB
                  clear hB hx hy rx ry own3 hown2
                  cases B
                  · go_wp2
                    refine wp_region_held_drew (S := fun w' => Grew wc w') (by kernel_rfl) (by first | assumption | exact Below.drew (by assumption)) (fun hHeld => ?_)
                    first
                      | (refine wpAnyH_take (i := 0) (v := ?_) rfl (by kernel_rfl) (by kernel_rfl) (by kernel_rfl) (fun _ _ _ h => h) (Or.inl ⟨by rfl, ?_⟩) (by assumption) ?_; rotate_left 1; focus (intro w hSw; (try dsimp only at hSw); go_simp; (try with_reducible rfl)))
                      | fail
                    try simp only [Act.put, List.getElem_toArray, List.getElem_cons_succ, List.getElem_cons_zero, List.setIfInBounds_toArray, List.set_cons_zero, List.set_cons_succ]
                    first
                      | (refine wpAnyH_take (i := 1) (v := ?_) rfl (by kernel_rfl) (by kernel_rfl) (by kernel_rfl) (fun _ _ _ h => h) (Or.inl ⟨by rfl, ?_⟩) (by assumption) ?_; rotate_left 1; focus (intro w hSw; (try dsimp only at hSw); go_simp; (try with_reducible rfl)))
                      | fail
                    try simp only [Act.put, List.getElem_toArray, List.getElem_cons_succ, List.getElem_cons_zero, List.setIfInBounds_toArray, List.set_cons_zero, List.set_cons_succ]
                    first
                      | (refine wpAnyH_take (i := 2) (v := ?_) rfl (by kernel_rfl) (by kernel_rfl) (by kernel_rfl) (fun _ _ _ h => h) (Or.inl ⟨by rfl, ?_⟩) (by assumption) ?_; rotate_left 1; focus (intro w hSw; (try dsimp only at hSw); go_simp; (try with_reducible rfl)))
                      | fail
                    try simp only [Act.put, List.getElem_toArray, List.getElem_cons_succ, List.getElem_cons_zero, List.setIfInBounds_toArray, List.set_cons_zero, List.set_cons_succ]
                    first
                      | (refine wpAnyH_take (i := 3) (v := ?_) rfl (by kernel_rfl) (by kernel_rfl) (by kernel_rfl) (fun _ _ _ h => h) (Or.inl ⟨by rfl, ?_⟩) (by assumption) ?_; rotate_left 1; focus (intro w hSw; (try dsimp only at hSw); go_simp; (try with_reducible rfl)))
                      | (refine wpAnyH_take (i := 3) (v := undef) rfl (by kernel_rfl) (by kernel_rfl) (by kernel_rfl) (fun _ _ _ h => h) (Or.inr ⟨by rfl, rfl⟩) (by assumption) ?_)
                      | fail
                    try simp only [Act.put, List.getElem_toArray, List.getElem_cons_succ, List.getElem_cons_zero, List.setIfInBounds_toArray, List.set_cons_zero, List.set_cons_succ]
                    first
                      | (refine wpAnyH_take (i := 4) (v := ?_) rfl (by kernel_rfl) (by kernel_rfl) (by kernel_rfl) (fun _ _ _ h => h) (Or.inl ⟨by rfl, ?_⟩) (by assumption) ?_; rotate_left 1; focus (intro w hSw; (try dsimp only at hSw); go_simp; (try with_reducible rfl)))
                      | (refine wpAnyH_take (i := 4) (v := undef) rfl (by kernel_rfl) (by kernel_rfl) (by kernel_rfl) (fun _ _ _ h => h) (Or.inr ⟨by rfl, rfl⟩) (by assumption) ?_)
                      | fail
                    try simp only [Act.put, List.getElem_toArray, List.getElem_cons_succ, List.getElem_cons_zero, List.setIfInBounds_toArray, List.set_cons_zero, List.set_cons_succ]
                    first
                      | (refine wpAnyH_take (i := 5) (v := ?_) rfl (by kernel_rfl) (by kernel_rfl) (by kernel_rfl) (fun _ _ _ h => h) (Or.inl ⟨by rfl, ?_⟩) (by assumption) ?_; rotate_left 1; focus (intro w hSw; (try dsimp only at hSw); go_simp; (try with_reducible rfl)))
                      | (refine wpAnyH_take (i := 5) (v := undef) rfl (by kernel_rfl) (by kernel_rfl) (by kernel_rfl) (fun _ _ _ h => h) (Or.inr ⟨by rfl, rfl⟩) (by assumption) ?_)
                      | fail
                    try simp only [Act.put, List.getElem_toArray, List.getElem_cons_succ, List.getElem_cons_zero, List.setIfInBounds_toArray, List.set_cons_zero, List.set_cons_succ]
                    first
                      | (refine' wpAnyH_take (i := 6) (v := _) rfl (by kernel_rfl) (by kernel_rfl) (by kernel_rfl) (fun _ _ _ h => h) (yieldsIf_load_mid (by rfl) _ _ rfl _ _ rfl _ _ (fun w hSw => (by (first | exact RX _ hSw | exact RY _ hSw))) Tryd.underlying25 rfl (by first | assumption | kernel_rfl)) (by assumption) ?_)
                      | (refine wpAnyH_take (i := 6) (v := undef) rfl (by kernel_rfl) (by kernel_rfl) (by kernel_rfl) (fun _ _ _ h => h) (Or.inr ⟨by rfl, rfl⟩) (by assumption) ?_)
                      | fail
                    try simp only [Act.put, List.getElem_toArray, List.getElem_cons_succ, List.getElem_cons_zero, List.setIfInBounds_toArray, List.set_cons_zero, List.set_cons_succ]
                    first
                      | (refine wpAnyH_take (i := 7) (v := ?_) rfl (by kernel_rfl) (by kernel_rfl) (by kernel_rfl) (fun _ _ _ h => h) (Or.inl ⟨by rfl, ?_⟩) (by assumption) ?_; rotate_left 1; focus (intro w hSw; (try dsimp only at hSw); go_simp; (try with_reducible rfl)))
                      | (refine wpAnyH_take (i := 7) (v := undef) rfl (by kernel_rfl) (by kernel_rfl) (by kernel_rfl) (fun _ _ _ h => h) (Or.inr ⟨by rfl, rfl⟩) (by assumption) ?_)
                      | fail
                    try simp only [Act.put, List.getElem_toArray, List.getElem_cons_succ, List.getElem_cons_zero, List.setIfInBounds_toArray, List.set_cons_zero, List.set_cons_succ]
                    first
                      | (refine wpAnyH_take (i := 8) (v := ?_) rfl (by kernel_rfl) (by kernel_rfl) (by kernel_rfl) (fun _ _ _ h => h) (Or.inl ⟨by rfl, ?_⟩) (by assumption) ?_; rotate_left 1; focus (intro w hSw; (try dsimp only at hSw); go_simp; (try with_reducible rfl)))
                      | (refine wpAnyH_take (i := 8) (v := undef) rfl (by kernel_rfl) (by kernel_rfl) (by kernel_rfl) (fun _ _ _ h => h) (Or.inr ⟨by rfl, rfl⟩) (by assumption) ?_)
                      | fail
                    try simp only [Act.put, List.getElem_toArray, List.getElem_cons_succ, List.getElem_cons_zero, List.setIfInBounds_toArray, List.set_cons_zero, List.set_cons_succ]
                    first
                      | (refine wpAnyH_take (i := 9) (v := ?_) rfl (by kernel_rfl) (by kernel_rfl) (by kernel_rfl) (fun _ _ _ h => h) (Or.inl ⟨by rfl, ?_⟩) (by assumption) ?_; rotate_left 1; focus (intro w hSw; (try dsimp only at hSw); go_simp; (try with_reducible rfl)))
                      | (refine wpAnyH_take (i := 9) (v := undef) rfl (by kernel_rfl) (by kernel_rfl) (by kernel_rfl) (fun _ _ _ h => h) (Or.inr ⟨by rfl, rfl⟩) (by assumption) ?_)
                      | fail
                    try simp only [Act.put, List.getElem_toArray, List.getElem_cons_succ, List.getElem_cons_zero, List.setIfInBounds_toArray, List.set_cons_zero, List.set_cons_succ]
                    first
                      | (refine wpAnyH_take (i := 10) (v := ?_) rfl (by kernel_rfl) (by kernel_rfl) (by kernel_rfl) (fun _ _ _ h => h) (Or.inl ⟨by rfl, ?_⟩) (by assumption) ?_; rotate_left 1; focus (intro w hSw; (try dsimp only at hSw); go_simp; (try with_reducible rfl)))
                      | (refine wpAnyH_take (i := 10) (v := undef) rfl (by kernel_rfl) (by kernel_rfl) (by kernel_rfl) (fun _ _ _ h => h) (Or.inr ⟨by rfl, rfl⟩) (by assumption) ?_)
                      | fail
                    try simp only [Act.put, List.getElem_toArray, List.getElem_cons_succ, List.getElem_cons_zero, List.setIfInBounds_toArray, List.set_cons_zero, List.set_cons_succ]
                    first
                      | (refine' wpAnyH_take (i := 11) (v := _) rfl (by kernel_rfl) (by kernel_rfl) (by kernel_rfl) (fun _ _ _ h => h) (yieldsIf_load_mid (by rfl) _ _ rfl _ _ rfl _ _ (fun w hSw => (by (first | exact RX _ hSw | exact RY _ hSw))) Tryd.underlying25 rfl (by first | assumption | kernel_rfl)) (by assumption) ?_)
                      | (refine wpAnyH_take (i := 11) (v := undef) rfl (by kernel_rfl) (by kernel_rfl) (by kernel_rfl) (fun _ _ _ h => h) (Or.inr ⟨by rfl, rfl⟩) (by assumption) ?_)
                      | fail
                    try simp only [Act.put, List.getElem_toArray, List.getElem_cons_succ, List.getElem_cons_zero, List.setIfInBounds_toArray, List.set_cons_zero, List.set_cons_succ]
                    first
                      | (refine wpAnyH_take (i := 12) (v := undef) rfl (by kernel_rfl) (by kernel_rfl) (by kernel_rfl) (fun _ _ _ h => h) (Or.inr ⟨by rfl, rfl⟩) (by assumption) ?_; try simp only [Act.put, List.getElem_toArray, List.getElem_cons_succ, List.getElem_cons_zero, List.setIfInBounds_toArray, List.set_cons_zero, List.set_cons_succ])
                      | (refine wpAnyH_ready (rs := [12]) (by kernel_rfl) (by simp) ?_; refine AllReadyH.cons rfl (fun K hK => ?_) AllReadyH.nil; go_simp; ((go_at_call 13; with_reducible refine (cB _ (by first | assumption | exact Below.drew (by assumption))).mono ?_; rintro e1 W1 ⟨rfl, g1⟩; replace g1 := Grew.trans' (a := wc) (by first | assumption | exact Below.drew (by assumption)) g1)); go_wp2_with fail; refine hK.out _ _ (by first | assumption | exact Below.drew (by assumption)) (fun hHeld => ?_); clear hK K; (try simp only [Act.put, List.getElem_toArray, List.getElem_cons_succ, List.getElem_cons_zero, List.setIfInBounds_toArray, List.set_cons_zero, List.set_cons_succ]))
                      | fail
                    first
                      | (refine wpAnyH_take (i := 13) (v := ?_) rfl (by kernel_rfl) (by kernel_rfl) (by kernel_rfl) (fun _ _ _ h => h) (Or.inl ⟨by rfl, ?_⟩) (by assumption) ?_; rotate_left 1; focus (intro w hSw; (try dsimp only at hSw); go_simp; (try with_reducible rfl)))
                      | fail
                    try simp only [Act.put, List.getElem_toArray, List.getElem_cons_succ, List.getElem_cons_zero, List.setIfInBounds_toArray, List.set_cons_zero, List.set_cons_succ]
                    refine wpAnyH_done (by kernel_rfl) ?_ _
                    go_wp2
                    go_roundw
                    case rel => exact ⟨a + 1, l2, by go_num, by omega, by omega, hgb.trans' (by assumption), OW2.out.below (by assumption), hll2, hP2, hBt.out.done hP2.out HX.out HY.out HBB.out⟩
                    case measure => simp [intOf]; omega
                  · go_wp2
                    refine wp_region_held_drew (S := fun w' => Grew wc w') (by kernel_rfl) (by first | assumption | exact Below.drew (by assumption)) (fun hHeld => ?_)
                    first
                      | (refine wpAnyH_take (i := 0) (v := ?_) rfl (by kernel_rfl) (by kernel_rfl) (by kernel_rfl) (fun _ _ _ h => h) (Or.inl ⟨by rfl, ?_⟩) (by assumption) ?_; rotate_left 1; focus (intro w hSw; (try dsimp only at hSw); go_simp; (try with_reducible rfl)))
                      | fail
                    try simp only [Act.put, List.getElem_toArray, List.getElem_cons_succ, List.getElem_cons_zero, List.setIfInBounds_toArray, List.set_cons_zero, List.set_cons_succ]
                    first
                      | (refine wpAnyH_take (i := 1) (v := ?_) rfl (by kernel_rfl) (by kernel_rfl) (by kernel_rfl) (fun _ _ _ h => h) (Or.inl ⟨by rfl, ?_⟩) (by assumption) ?_; rotate_left 1; focus (intro w hSw; (try dsimp only at hSw); go_simp; (try with_reducible rfl)))
                      | fail
                    try simp only [Act.put, List.getElem_toArray, List.getElem_cons_succ, List.getElem_cons_zero, List.setIfInBounds_toArray, List.set_cons_zero, List.set_cons_succ]
                    first
                      | (refine wpAnyH_take (i := 2) (v := ?_) rfl (by kernel_rfl) (by kernel_rfl) (by kernel_rfl) (fun _ _ _ h => h) (Or.inl ⟨by rfl, ?_⟩) (by assumption) ?_; rotate_left 1; focus (intro w hSw; (try dsimp only at hSw); go_simp; (try with_reducible rfl)))
                      | fail
                    try simp only [Act.put, List.getElem_toArray, List.getElem_cons_succ, List.getElem_cons_zero, List.setIfInBounds_toArray, List.set_cons_zero, List.set_cons_succ]
                    first
                      | (refine wpAnyH_take (i := 3) (v := ?_) rfl (by kernel_rfl) (by kernel_rfl) (by kernel_rfl) (fun _ _ _ h => h) (Or.inl ⟨by rfl, ?_⟩) (by assumption) ?_; rotate_left 1; focus (intro w hSw; (try dsimp only at hSw); go_simp; (try with_reducible rfl)))
                      | (refine wpAnyH_take (i := 3) (v := undef) rfl (by kernel_rfl) (by kernel_rfl) (by kernel_rfl) (fun _ _ _ h => h) (Or.inr ⟨by rfl, rfl⟩) (by assumption) ?_)
                      | fail
                    try simp only [Act.put, List.getElem_toArray, List.getElem_cons_succ, List.getElem_cons_zero, List.setIfInBounds_toArray, List.set_cons_zero, List.set_cons_succ]
                    first
                      | (refine wpAnyH_take (i := 4) (v := ?_) rfl (by kernel_rfl) (by kernel_rfl) (by kernel_rfl) (fun _ _ _ h => h) (Or.inl ⟨by rfl, ?_⟩) (by assumption) ?_; rotate_left 1; focus (intro w hSw; (try dsimp only at hSw); go_simp; (try with_reducible rfl)))
                      | (refine wpAnyH_take (i := 4) (v := undef) rfl (by kernel_rfl) (by kernel_rfl) (by kernel_rfl) (fun _ _ _ h => h) (Or.inr ⟨by rfl, rfl⟩) (by assumption) ?_)
                      | fail
                    try simp only [Act.put, List.getElem_toArray, List.getElem_cons_succ, List.getElem_cons_zero, List.setIfInBounds_toArray, List.set_cons_zero, List.set_cons_succ]
                    first
                      | (refine wpAnyH_take (i := 5) (v := ?_) rfl (by kernel_rfl) (by kernel_rfl) (by kernel_rfl) (fun _ _ _ h => h) (Or.inl ⟨by rfl, ?_⟩) (by assumption) ?_; rotate_left 1; focus (intro w hSw; (try dsimp only at hSw); go_simp; (try with_reducible rfl)))
                      | (refine wpAnyH_take (i := 5) (v := undef) rfl (by kernel_rfl) (by kernel_rfl) (by kernel_rfl) (fun _ _ _ h => h) (Or.inr ⟨by rfl, rfl⟩) (by assumption) ?_)
                      | fail
                    try simp only [Act.put, List.getElem_toArray, List.getElem_cons_succ, List.getElem_cons_zero, List.setIfInBounds_toArray, List.set_cons_zero, List.set_cons_succ]
                    first
                      | (refine' wpAnyH_take (i := 6) (v := _) rfl (by kernel_rfl) (by kernel_rfl) (by kernel_rfl) (fun _ _ _ h => h) (yieldsIf_load_mid (by rfl) _ _ rfl _ _ rfl _ _ (fun w hSw => (by (first | exact RX _ hSw | exact RY _ hSw))) Tryd.underlying25 rfl (by first | assumption | kernel_rfl)) (by assumption) ?_)
                      | (refine wpAnyH_take (i := 6) (v := undef) rfl (by kernel_rfl) (by kernel_rfl) (by kernel_rfl) (fun _ _ _ h => h) (Or.inr ⟨by rfl, rfl⟩) (by assumption) ?_)
                      | fail
                    try simp only [Act.put, List.getElem_toArray, List.getElem_cons_succ, List.getElem_cons_zero, List.setIfInBounds_toArray, List.set_cons_zero, List.set_cons_succ]
                    first
                      | (refine wpAnyH_take (i := 7) (v := ?_) rfl (by kernel_rfl) (by kernel_rfl) (by kernel_rfl) (fun _ _ _ h => h) (Or.inl ⟨by rfl, ?_⟩) (by assumption) ?_; rotate_left 1; focus (intro w hSw; (try dsimp only at hSw); go_simp; (try with_reducible rfl)))
                      | (refine wpAnyH_take (i := 7) (v := undef) rfl (by kernel_rfl) (by kernel_rfl) (by kernel_rfl) (fun _ _ _ h => h) (Or.inr ⟨by rfl, rfl⟩) (by assumption) ?_)
                      | fail
                    try simp only [Act.put, List.getElem_toArray, List.getElem_cons_succ, List.getElem_cons_zero, List.setIfInBounds_toArray, List.set_cons_zero, List.set_cons_succ]
                    first
                      | (refine wpAnyH_take (i := 8) (v := ?_) rfl (by kernel_rfl) (by kernel_rfl) (by kernel_rfl) (fun _ _ _ h => h) (Or.inl ⟨by rfl, ?_⟩) (by assumption) ?_; rotate_left 1; focus (intro w hSw; (try dsimp only at hSw); go_simp; (try with_reducible rfl)))
                      | (refine wpAnyH_take (i := 8) (v := undef) rfl (by kernel_rfl) (by kernel_rfl) (by kernel_rfl) (fun _ _ _ h => h) (Or.inr ⟨by rfl, rfl⟩) (by assumption) ?_)
                      | fail
                    try simp only [Act.put, List.getElem_toArray, List.getElem_cons_succ, List.getElem_cons_zero, List.setIfInBounds_toArray, List.set_cons_zero, List.set_cons_succ]
                    first
                      | (refine wpAnyH_take (i := 9) (v := ?_) rfl (by kernel_rfl) (by kernel_rfl) (by kernel_rfl) (fun _ _ _ h => h) (Or.inl ⟨by rfl, ?_⟩) (by assumption) ?_; rotate_left 1; focus (intro w hSw; (try dsimp only at hSw); go_simp; (try with_reducible rfl)))
                      | (refine wpAnyH_take (i := 9) (v := undef) rfl (by kernel_rfl) (by kernel_rfl) (by kernel_rfl) (fun _ _ _ h => h) (Or.inr ⟨by rfl, rfl⟩) (by assumption) ?_)
                      | fail
                    try simp only [Act.put, List.getElem_toArray, List.getElem_cons_succ, List.getElem_cons_zero, List.setIfInBounds_toArray, List.set_cons_zero, List.set_cons_succ]
                    first
                      | (refine wpAnyH_take (i := 10) (v := ?_) rfl (by kernel_rfl) (by kernel_rfl) (by kernel_rfl) (fun _ _ _ h => h) (Or.inl ⟨by rfl, ?_⟩) (by assumption) ?_; rotate_left 1; focus (intro w hSw; (try dsimp only at hSw); go_simp; (try with_reducible rfl)))
                      | (refine wpAnyH_take (i := 10) (v := undef) rfl (by kernel_rfl) (by kernel_rfl) (by kernel_rfl) (fun _ _ _ h => h) (Or.inr ⟨by rfl, rfl⟩) (by assumption) ?_)
                      | fail
                    try simp only [Act.put, List.getElem_toArray, List.getElem_cons_succ, List.getElem_cons_zero, List.setIfInBounds_toArray, List.set_cons_zero, List.set_cons_succ]
                    first
                      | (refine' wpAnyH_take (i := 11) (v := _) rfl (by kernel_rfl) (by kernel_rfl) (by kernel_rfl) (fun _ _ _ h => h) (yieldsIf_load_mid (by rfl) _ _ rfl _ _ rfl _ _ (fun w hSw => (by (first | exact RX _ hSw | exact RY _ hSw))) Tryd.underlying25 rfl (by first | assumption | kernel_rfl)) (by assumption) ?_)
                      | (refine wpAnyH_take (i := 11) (v := undef) rfl (by kernel_rfl) (by kernel_rfl) (by kernel_rfl) (fun _ _ _ h => h) (Or.inr ⟨by rfl, rfl⟩) (by assumption) ?_)
                      | fail
                    try simp only [Act.put, List.getElem_toArray, List.getElem_cons_succ, List.getElem_cons_zero, List.setIfInBounds_toArray, List.set_cons_zero, List.set_cons_succ]
                    first
                      | (refine wpAnyH_take (i := 12) (v := undef) rfl (by kernel_rfl) (by kernel_rfl) (by kernel_rfl) (fun _ _ _ h => h) (Or.inr ⟨by rfl, rfl⟩) (by assumption) ?_; try simp only [Act.put, List.getElem_toArray, List.getElem_cons_succ, List.getElem_cons_zero, List.setIfInBounds_toArray, List.set_cons_zero, List.set_cons_succ])
                      | (refine wpAnyH_ready (rs := [12]) (by kernel_rfl) (by simp) ?_; refine AllReadyH.cons rfl (fun K hK => ?_) AllReadyH.nil; go_simp; ((go_at_call 13; with_reducible refine (cB _ (by first | assumption | exact Below.drew (by assumption))).mono ?_; rintro e1 W1 ⟨rfl, g1⟩; replace g1 := Grew.trans' (a := wc) (by first | assumption | exact Below.drew (by assumption)) g1)); go_wp2_with fail; refine hK.out _ _ (by first | assumption | exact Below.drew (by assumption)) (fun hHeld => ?_); clear hK K; (try simp only [Act.put, List.getElem_toArray, List.getElem_cons_succ, List.getElem_cons_zero, List.setIfInBounds_toArray, List.set_cons_zero, List.set_cons_succ]))
                      | fail
                    first
                      | (refine wpAnyH_take (i := 13) (v := ?_) rfl (by kernel_rfl) (by kernel_rfl) (by kernel_rfl) (fun _ _ _ h => h) (Or.inl ⟨by rfl, ?_⟩) (by assumption) ?_; rotate_left 1; focus (intro w hSw; (try dsimp only at hSw); go_simp; (try with_reducible rfl)))
                      | fail
                    try simp only [Act.put, List.getElem_toArray, List.getElem_cons_succ, List.getElem_cons_zero, List.setIfInBounds_toArray, List.set_cons_zero, List.set_cons_succ]
                    refine wpAnyH_done (by kernel_rfl) ?_ _
                    have gW1 : Grew wc W1 := by assumption
                    have gwD : Grew w W1.drew := hgb.trans' (Below.drew gW1)
                    have rx24 := RX _ (Below.drew gW1)
                    have ry24 := RY _ (Below.drew gW1)
                    have own24 := OW.out.below (Below.drew gW1)
                    have hm1 : m + 1 < l2.length := by omega
                    clear RX RY cB
                    go_wp2
                    refine wp_region_held_drew (S := fun w' => True) (by kernel_rfl) (by trivial) (fun hHeld => ?_)
                    first
                      | (refine wpAnyH_take (i := 0) (v := ?_) rfl (by kernel_rfl) (by kernel_rfl) (by kernel_rfl) (fun _ _ _ h => h) (Or.inl ⟨by rfl, ?_⟩) (by assumption) ?_; rotate_left 1; focus (intro w hSw; (try dsimp only at hSw); go_simp; (try with_reducible rfl)))
                      | fail
                    try simp only [Act.put, List.getElem_toArray, List.getElem_cons_succ, List.getElem_cons_zero, List.setIfInBounds_toArray, List.set_cons_zero, List.set_cons_succ]
                    first
                      | (refine wpAnyH_take (i := 1) (v := ?_) rfl (by kernel_rfl) (by kernel_rfl) (by kernel_rfl) (fun _ _ _ h => h) (Or.inl ⟨by rfl, ?_⟩) (by assumption) ?_; rotate_left 1; focus (intro w hSw; (try dsimp only at hSw); go_simp; (try with_reducible rfl)))
                      | fail
                    try simp only [Act.put, List.getElem_toArray, List.getElem_cons_succ, List.getElem_cons_zero, List.setIfInBounds_toArray, List.set_cons_zero, List.set_cons_succ]
                    first
                      | (refine wpAnyH_take (i := 2) (v := ?_) rfl (by kernel_rfl) (by kernel_rfl) (by kernel_rfl) (fun _ _ _ h => h) (Or.inl ⟨by rfl, ?_⟩) (by assumption) ?_; rotate_left 1; focus (intro w hSw; (try dsimp only at hSw); go_simp; (try with_reducible rfl)))
                      | fail
                    try simp only [Act.put, List.getElem_toArray, List.getElem_cons_succ, List.getElem_cons_zero, List.setIfInBounds_toArray, List.set_cons_zero, List.set_cons_succ]
                    first
                      | (refine wpAnyH_take (i := 3) (v := ?_) rfl (by kernel_rfl) (by kernel_rfl) (by kernel_rfl) (fun _ _ _ h => h) (Or.inl ⟨by rfl, ?_⟩) (by assumption) ?_; rotate_left 1; focus (intro w hSw; (try dsimp only at hSw); go_simp; (try with_reducible rfl)))
                      | fail
                    try simp only [Act.put, List.getElem_toArray, List.getElem_cons_succ, List.getElem_cons_zero, List.setIfInBounds_toArray, List.set_cons_zero, List.set_cons_succ]
                    first
                      | (refine wpAnyH_take (i := 4) (v := ?_) rfl (by kernel_rfl) (by kernel_rfl) (by kernel_rfl) (fun _ _ _ h => h) (Or.inl ⟨by rfl, ?_⟩) (by assumption) ?_; rotate_left 1; focus (intro w hSw; (try dsimp only at hSw); go_simp; (try with_reducible rfl)))
                      | fail
                    try simp only [Act.put, List.getElem_toArray, List.getElem_cons_succ, List.getElem_cons_zero, List.setIfInBounds_toArray, List.set_cons_zero, List.set_cons_succ]
                    first
                      | (refine wpAnyH_take (i := 5) (v := ?_) rfl (by kernel_rfl) (by kernel_rfl) (by kernel_rfl) (fun _ _ _ h => h) (Or.inl ⟨by rfl, ?_⟩) (by assumption) ?_; rotate_left 1; focus (intro w hSw; (try dsimp only at hSw); go_simp; (try with_reducible rfl)))
                      | fail
                    try simp only [Act.put, List.getElem_toArray, List.getElem_cons_succ, List.getElem_cons_zero, List.setIfInBounds_toArray, List.set_cons_zero, List.set_cons_succ]
                    first
                      | (refine wpAnyH_take (i := 6) (v := ?_) rfl (by kernel_rfl) (by kernel_rfl) (by kernel_rfl) (fun _ _ _ h => h) (Or.inl ⟨by rfl, ?_⟩) (by assumption) ?_; rotate_left 1; focus (intro w hSw; (try dsimp only at hSw); go_simp; (try with_reducible rfl)))
                      | fail
                    try simp only [Act.put, List.getElem_toArray, List.getElem_cons_succ, List.getElem_cons_zero, List.setIfInBounds_toArray, List.set_cons_zero, List.set_cons_succ]
                    first
                      | (refine wpAnyH_take (i := 7) (v := ?_) rfl (by kernel_rfl) (by kernel_rfl) (by kernel_rfl) (fun _ _ _ h => h) (Or.inl ⟨by rfl, ?_⟩) (by assumption) ?_; rotate_left 1; focus (intro w hSw; (try dsimp only at hSw); go_simp; (try with_reducible rfl)))
                      | fail
                    try simp only [Act.put, List.getElem_toArray, List.getElem_cons_succ, List.getElem_cons_zero, List.setIfInBounds_toArray, List.set_cons_zero, List.set_cons_succ]
                    first
                      | (refine wpAnyH_take (i := 8) (v := ?_) rfl (by kernel_rfl) (by kernel_rfl) (by kernel_rfl) (fun _ _ _ h => h) (Or.inl ⟨by rfl, ?_⟩) (by assumption) ?_; rotate_left 1; focus (intro w hSw; (try dsimp only at hSw); go_simp; (try with_reducible rfl)))
                      | fail
                    try simp only [Act.put, List.getElem_toArray, List.getElem_cons_succ, List.getElem_cons_zero, List.setIfInBounds_toArray, List.set_cons_zero, List.set_cons_succ]
                    first
                      | (refine wpAnyH_take (i := 10) (v := ?_) rfl (by kernel_rfl) (by kernel_rfl) (by kernel_rfl) (fun _ _ _ h => h) (Or.inl ⟨by rfl, ?_⟩) (by assumption) ?_; rotate_left 1; focus (intro w hSw; (try dsimp only at hSw); go_simp; (try with_reducible rfl)))
                      | fail
                    try simp only [Act.put, List.getElem_toArray, List.getElem_cons_succ, List.getElem_cons_zero, List.setIfInBounds_toArray, List.set_cons_zero, List.set_cons_succ]
                    first
                      | (refine wpAnyH_take (i := 11) (v := ?_) rfl (by kernel_rfl) (by kernel_rfl) (by kernel_rfl) (fun _ _ _ h => h) (Or.inl ⟨by rfl, ?_⟩) (by assumption) ?_; rotate_left 1; focus (intro w hSw; (try dsimp only at hSw); go_simp; (try with_reducible rfl)))
                      | fail
                    try simp only [Act.put, List.getElem_toArray, List.getElem_cons_succ, List.getElem_cons_zero, List.setIfInBounds_toArray, List.set_cons_zero, List.set_cons_succ]
                    first
                      | (refine wpAnyH_take (i := 12) (v := ?_) rfl (by kernel_rfl) (by kernel_rfl) (by kernel_rfl) (fun _ _ _ h => h) (Or.inl ⟨by rfl, ?_⟩) (by assumption) ?_; rotate_left 1; focus (intro w hSw; (try dsimp only at hSw); go_simp; (try with_reducible rfl)))
                      | fail
                    try simp only [Act.put, List.getElem_toArray, List.getElem_cons_succ, List.getElem_cons_zero, List.setIfInBounds_toArray, List.set_cons_zero, List.set_cons_succ]
                    refine wpAnyH_ready (rs := [9, 13]) (by kernel_rfl) (by simp) ?_
                    refine AllReadyH.cons rfl (fun K hK => ?_) (AllReadyH.cons rfl (fun K hK => ?_) AllReadyH.nil)
                    · (refine step_load_at rfl 25 _ rfl g (m * 22) rfl x.cells _ rx24 Tryd.underlying25 rfl nfx ?_)
                      refine hK.out _ _ (by trivial) (fun hHeld => ?_)
                      clear hK K
                      try simp only [Act.put, List.getElem_toArray, List.getElem_cons_succ, List.getElem_cons_zero, List.setIfInBounds_toArray, List.set_cons_zero, List.set_cons_succ]
                      refine wpAnyH_ready (rs := [13]) (by kernel_rfl) (by simp) ?_
                      refine AllReadyH.cons rfl (fun K hK => ?_) AllReadyH.nil
                      (refine step_load_at rfl 25 _ rfl g ((m + 1) * 22) rfl y.cells _ ry24 Tryd.underlying25 rfl nfy ?_)
                      refine hK.out _ _ (by trivial) (fun hHeld => ?_)
                      clear hK K
                      try simp only [Act.put, List.getElem_toArray, List.getElem_cons_succ, List.getElem_cons_zero, List.setIfInBounds_toArray, List.set_cons_zero, List.set_cons_succ]
                      first
                        | (refine wpAnyH_take (i := 14) (v := ?_) rfl (by kernel_rfl) (by kernel_rfl) (by kernel_rfl) (fun _ _ _ h => h) (Or.inl ⟨by rfl, ?_⟩) (by assumption) ?_; rotate_left 1; focus (intro w hSw; (try dsimp only at hSw); go_simp; (try with_reducible rfl)))
                        | fail
                      try simp only [Act.put, List.getElem_toArray, List.getElem_cons_succ, List.getElem_cons_zero, List.setIfInBounds_toArray, List.set_cons_zero, List.set_cons_succ]
                      refine wpAnyH_ready (rs := [15]) (by kernel_rfl) (by simp) ?_
                      refine AllReadyH.cons rfl (fun K hK => ?_) AllReadyH.nil
                      (refine step_store_I rfl _ _ rfl w.heap.size g cv l2 (m + 1) x rfl rfl own24 hm1 hx20 ?_; intro w5 own5 hg5)
                      refine hK.out _ _ (by trivial) (fun hHeld => ?_)
                      clear hK K
                      try simp only [Act.put, List.getElem_toArray, List.getElem_cons_succ, List.getElem_cons_zero, List.setIfInBounds_toArray, List.set_cons_zero, List.set_cons_succ]
                      first
                        | (refine wpAnyH_take (i := 16) (v := ?_) rfl (by kernel_rfl) (by kernel_rfl) (by kernel_rfl) (fun _ _ _ h => h) (Or.inl ⟨by rfl, ?_⟩) (by assumption) ?_; rotate_left 1; focus (intro w hSw; (try dsimp only at hSw); go_simp; (try with_reducible rfl)))
                        | fail
                      try simp only [Act.put, List.getElem_toArray, List.getElem_cons_succ, List.getElem_cons_zero, List.setIfInBounds_toArray, List.set_cons_zero, List.set_cons_succ]
                      refine wpAnyH_ready (rs := [17]) (by kernel_rfl) (by simp) ?_
                      refine AllReadyH.cons rfl (fun K hK => ?_) AllReadyH.nil
                      (refine step_store_I rfl _ _ rfl w.heap.size g cv _ m y rfl rfl own5 (by simp; omega) hy20 ?_; intro w6 own6 hg6)
                      refine hK.out _ _ (by trivial) (fun hHeld => ?_)
                      clear hK K
                      try simp only [Act.put, List.getElem_toArray, List.getElem_cons_succ, List.getElem_cons_zero, List.setIfInBounds_toArray, List.set_cons_zero, List.set_cons_succ]
                      refine wpAnyH_done (by kernel_rfl) ?_ _
                      go_wp2
                      have g5 := gwD.grown hg5 gwD.size (fun q hq => by cases hq; exact hbg)
                      have g6 := g5.grown hg6 g5.size (fun q hq => by cases hq; exact hbg)
                      go_roundw
                      case rel => exact ⟨m, swapI l2 m x y, by go_num, by omega, g6, by have := own6; simpa [swapI, hll2] using this, by rw [swap_len]; exact hll2, hP2.out.perm (swap_perm HX.out HY.out), hBt.out.swap (by omega) HX.out HY.out HBB.out⟩
                      case measure => simp [intOf]
                    · (refine step_load_at rfl 25 _ rfl g ((m + 1) * 22) rfl y.cells _ ry24 Tryd.underlying25 rfl nfy ?_)
                      refine hK.out _ _ (by trivial) (fun hHeld => ?_)
                      clear hK K
                      try simp only [Act.put, List.getElem_toArray, List.getElem_cons_succ, List.getElem_cons_zero, List.setIfInBounds_toArray, List.set_cons_zero, List.set_cons_succ]
                      refine wpAnyH_ready (rs := [9]) (by kernel_rfl) (by simp) ?_
                      refine AllReadyH.cons rfl (fun K hK => ?_) AllReadyH.nil
                      (refine step_load_at rfl 25 _ rfl g (m * 22) rfl x.cells _ rx24 Tryd.underlying25 rfl nfx ?_)
                      refine hK.out _ _ (by trivial) (fun hHeld => ?_)
                      clear hK K
                      try simp only [Act.put, List.getElem_toArray, List.getElem_cons_succ, List.getElem_cons_zero, List.setIfInBounds_toArray, List.set_cons_zero, List.set_cons_succ]
                      first
                        | (refine wpAnyH_take (i := 14) (v := ?_) rfl (by kernel_rfl) (by kernel_rfl) (by kernel_rfl) (fun _ _ _ h => h) (Or.inl ⟨by rfl, ?_⟩) (by assumption) ?_; rotate_left 1; focus (intro w hSw; (try dsimp only at hSw); go_simp; (try with_reducible rfl)))
                        | fail
                      try simp only [Act.put, List.getElem_toArray, List.getElem_cons_succ, List.getElem_cons_zero, List.setIfInBounds_toArray, List.set_cons_zero, List.set_cons_succ]
                      refine wpAnyH_ready (rs := [15]) (by kernel_rfl) (by simp) ?_
                      refine AllReadyH.cons rfl (fun K hK => ?_) AllReadyH.nil
                      (refine step_store_I rfl _ _ rfl w.heap.size g cv l2 (m + 1) x rfl rfl own24 hm1 hx20 ?_; intro w5 own5 hg5)
                      refine hK.out _ _ (by trivial) (fun hHeld => ?_)
                      clear hK K
                      try simp only [Act.put, List.getElem_toArray, List.getElem_cons_succ, List.getElem_cons_zero, List.setIfInBounds_toArray, List.set_cons_zero, List.set_cons_succ]
                      first
                        | (refine wpAnyH_take (i := 16) (v := ?_) rfl (by kernel_rfl) (by kernel_rfl) (by kernel_rfl) (fun _ _ _ h => h) (Or.inl ⟨by rfl, ?_⟩) (by assumption) ?_; rotate_left 1; focus (intro w hSw; (try dsimp only at hSw); go_simp; (try with_reducible rfl)))
                        | fail
                      try simp only [Act.put, List.getElem_toArray, List.getElem_cons_succ, List.getElem_cons_zero, List.setIfInBounds_toArray, List.set_cons_zero, List.set_cons_succ]
                      refine wpAnyH_ready (rs := [17]) (by kernel_rfl) (by simp) ?_
                      refine AllReadyH.cons rfl (fun K hK => ?_) AllReadyH.nil
                      (refine step_store_I rfl _ _ rfl w.heap.size g cv _ m y rfl rfl own5 (by simp; omega) hy20 ?_; intro w6 own6 hg6)
                      refine hK.out _ _ (by trivial) (fun hHeld => ?_)
                      clear hK K
                      try simp only [Act.put, List.getElem_toArray, List.getElem_cons_succ, List.getElem_cons_zero, List.setIfInBounds_toArray, List.set_cons_zero, List.set_cons_succ]
                      refine wpAnyH_done (by kernel_rfl) ?_ _
                      go_wp2
                      have g5 := gwD.grown hg5 gwD.size (fun q hq => by cases hq; exact hbg)
                      have g6 := g5.grown hg6 g5.size (fun q hq => by cases hq; exact hbg)
                      go_roundw
                      case rel => exact ⟨m, swapI l2 m x y, by go_num, by omega, g6, by have := own6; simpa [swapI, hll2] using this, by rw [swap_len]; exact hll2, hP2.out.perm (swap_perm HX.out HY.out), hBt.out.swap (by omega) HX.out HY.out HBB.out⟩
                      case measure => simp [intOf]
            · have f5 : decide ((a : Int) < (n : Int)) = false := decide_eq_false (by omega)
              have han2 : a = l.length := by omega
              have hU2 : Upto l l.length := by rw [← han2]; exact hU.out
              have own3 : OwnI wb w.heap.size (.slice (some ⟨g, 0, none⟩) l.length cv) l := by rw [hll]; exact hown1
              have hne : l ≠ [] := by intro e; subst e; simp at hll; omega
              have hR := right_of hP1.out hU2 hne (by omega)
              have hff : ∀ x ∈ l, FineI x := fun x hx => (hP1.out.1 x hx).fine
              have hl30 : l.length ≤ 1073741824 := by omega
              have ca := (fun W g9 => awake08 W (HM.out.grew (hga.trans' g9)) (u8_grew HU.out (hga.trans' g9)) (HFO.out.grew (hga.trans' g9)) : ∀ W, Grew wb W → _)
              have hrd : RdI wb (some ⟨g, 0, none⟩) l := .inr ⟨g, 0, rfl, fun k x hx => by rw [Nat.zero_add]; exact own3.range hx⟩
              have cR := (fun W (g9 : Grew wb W) => tree_Right (some ⟨g, 0, none⟩) l cv W hl30 (hrd.grew g9) hff (HM.out.grew (hga.trans' g9)) (u8_grew HU.out (hga.trans' g9)) (HFO.out.grew (hga.trans' g9)))
              simp only [hll, hR] at cR
              have gbb : Grew wb wb := Below.refl _ _
              have OW := Lib.hid own3
              have HFF := Lib.hid hff
              have HU2 := Lib.hid hU2
              have HNE := Lib.hid hne
              have hm20 := Lib.hid (fun x hx => (hff x hx).1 : ∀ x ∈ l, x.id.length = 20)
              clear hU hR hrd hU2 hff hne own3 hown1 ha1 hl30
              cases t
              · by_cases h2 : n < 2
                · have f6 : decide ((n : Int) < 2) = true := decide_eq_true (by omega)
                  go_wp2_with (first | (go_at_call 9; with_reducible refine (ca _ (by assumption)).mono ?_; rintro e1 W1 ⟨rfl, g1⟩; replace g1 := Grew.trans' (a := wb) (by assumption) g1) | (go_at_call 14; with_reducible refine (cR _ (by assumption)).mono ?_; rintro e1 W1 ⟨rfl, g1⟩; replace g1 := Grew.trans' (a := wb) (by assumption) g1))
                  go_ret
                  exact ⟨rfl, hga.trans' (by assumption)⟩
                · have f6 : decide ((n : Int) < 2) = false := decide_eq_false (by omega)
                  obtain ⟨x, hx⟩ : ∃ x, l[0]? = some x := ⟨_, List.getElem?_eq_getElem (by omega)⟩
                  obtain ⟨y, hy⟩ : ∃ y, l[0 + 1]? = some y := ⟨_, List.getElem?_eq_getElem (by omega)⟩
                  have HX := Lib.hid hx
                  have HY := Lib.hid hy
                  have nfx := infoItem x (hm20.out x (List.mem_of_getElem? hx))
                  have nfy := infoItem y (hm20.out y (List.mem_of_getElem? hy))
                  clear hx hy
                  go_wp2_with (first | (go_at_call 9; with_reducible refine (ca _ (by assumption)).mono ?_; rintro e1 W1 ⟨rfl, g1⟩; replace g1 := Grew.trans' (a := wb) (by assumption) g1) | (go_at_call 14; with_reducible refine (cR _ (by assumption)).mono ?_; rintro e1 W1 ⟨rfl, g1⟩; replace g1 := Grew.trans' (a := wb) (by assumption) g1) | (at_builtin; refine wpList_append_Is rfl (.const (.slice none 0 0)) (.tmp 141) rfl w.heap.size _ [] l g n cv hll rfl rfl (OwnI.nil _ _) hm20.out (fun k x hx => range_grew (OW.out.range hx) (by assumption)) (Below.size (hga.trans' (by assumption))) (by simp; omega) ?_))
                  intro v4 w4 hown4 hb4 hg4
                  obtain ⟨g7, c7, e7, hbg7, -⟩ := hown4.form HNE.out
                  subst e7
                  have gw4 : Grew w w4 := Below.trans (hga.trans' (by assumption)) hb4
                  have rx4 := hown4.range HX.out
                  have ry4 := hown4.range HY.out
                  have own4 := hown4.below (Below.drew (Below.refl w4.heap.size w4))
                  have rx5 := range_grew rx4 (Below.drew (Below.refl w4.heap.size w4))
                  have ry5 := range_grew ry4 (Below.drew (Below.refl w4.heap.size w4))
                  rw [hll]
                  have hl0 : 0 < l.length := by omega
                  have hl1 : 1 < l.length := by omega
                  have hi1 : (1 : Int) < (n : Int) := by omega
                  have hi0 : (0 : Int) < (n : Int) := by omega
                  clear hown4 hb4 hg4 rx4 ry4 cR ca f5 f6
                  go_wp2
                  refine wp_region_held_drew (S := fun w' => True) (by kernel_rfl) (by trivial) (fun hHeld => ?_)
                  first
                    | (refine wpAnyH_take (i := 0) (v := ?_) rfl (by kernel_rfl) (by kernel_rfl) (by kernel_rfl) (fun _ _ _ h => h) (Or.inl ⟨by rfl, ?_⟩) (by assumption) ?_; rotate_left 1; focus (intro w hSw; (try dsimp only at hSw); go_simp; (try with_reducible rfl)))
                    | fail
                  try simp only [Act.put, List.getElem_toArray, List.getElem_cons_succ, List.getElem_cons_zero, List.setIfInBounds_toArray, List.set_cons_zero, List.set_cons_succ]
                  first
                    | (refine wpAnyH_take (i := 1) (v := ?_) rfl (by kernel_rfl) (by kernel_rfl) (by kernel_rfl) (fun _ _ _ h => h) (Or.inl ⟨by rfl, ?_⟩) (by assumption) ?_; rotate_left 1; focus (intro w hSw; (try dsimp only at hSw); go_simp; (try with_reducible rfl)))
                    | fail
                  try simp only [Act.put, List.getElem_toArray, List.getElem_cons_succ, List.getElem_cons_zero, List.setIfInBounds_toArray, List.set_cons_zero, List.set_cons_succ]
                  first
                    | (refine wpAnyH_take (i := 2) (v := ?_) rfl (by kernel_rfl) (by kernel_rfl) (by kernel_rfl) (fun _ _ _ h => h) (Or.inl ⟨by rfl, ?_⟩) (by assumption) ?_; rotate_left 1; focus (intro w hSw; (try dsimp only at hSw); go_simp; (try with_reducible rfl)))
                    | fail
                  try simp only [Act.put, List.getElem_toArray, List.getElem_cons_succ, List.getElem_cons_zero, List.setIfInBounds_toArray, List.set_cons_zero, List.set_cons_succ]
                  first
                    | (refine wpAnyH_take (i := 3) (v := ?_) rfl (by kernel_rfl) (by kernel_rfl) (by kernel_rfl) (fun _ _ _ h => h) (Or.inl ⟨by rfl, ?_⟩) (by assumption) ?_; rotate_left 1; focus (intro w hSw; (try dsimp only at hSw); go_simp; (try with_reducible rfl)))
                    | fail
                  try simp only [Act.put, List.getElem_toArray, List.getElem_cons_succ, List.getElem_cons_zero, List.setIfInBounds_toArray, List.set_cons_zero, List.set_cons_succ]
                  first
                    | (refine wpAnyH_take (i := 5) (v := ?_) rfl (by kernel_rfl) (by kernel_rfl) (by kernel_rfl) (fun _ _ _ h => h) (Or.inl ⟨by rfl, ?_⟩) (by assumption) ?_; rotate_left 1; focus (intro w hSw; (try dsimp only at hSw); go_simp; (try with_reducible rfl)))
                    | fail
                  try simp only [Act.put, List.getElem_toArray, List.getElem_cons_succ, List.getElem_cons_zero, List.setIfInBounds_toArray, List.set_cons_zero, List.set_cons_succ]
                  first
                    | (refine wpAnyH_take (i := 6) (v := ?_) rfl (by kernel_rfl) (by kernel_rfl) (by kernel_rfl) (fun _ _ _ h => h) (Or.inl ⟨by rfl, ?_⟩) (by assumption) ?_; rotate_left 1; focus (intro w hSw; (try dsimp only at hSw); go_simp; (try with_reducible rfl)))
                    | fail
                  try simp only [Act.put, List.getElem_toArray, List.getElem_cons_succ, List.getElem_cons_zero, List.setIfInBounds_toArray, List.set_cons_zero, List.set_cons_succ]
                  refine wpAnyH_ready (rs := [4, 7]) (by kernel_rfl) (by simp) ?_
                  refine AllReadyH.cons rfl (fun K hK => ?_) (AllReadyH.cons rfl (fun K hK => ?_) AllReadyH.nil)
                  · (refine step_load_at rfl 25 _ rfl g7 (1 * 22) rfl y.cells _ ry5 Tryd.underlying25 rfl nfy ?_)
                    refine hK.out _ _ (by trivial) (fun hHeld => ?_)
                    clear hK K
                    try simp only [Act.put, List.getElem_toArray, List.getElem_cons_succ, List.getElem_cons_zero, List.setIfInBounds_toArray, List.set_cons_zero, List.set_cons_succ]
                    refine wpAnyH_ready (rs := [7]) (by kernel_rfl) (by simp) ?_
                    refine AllReadyH.cons rfl (fun K hK => ?_) AllReadyH.nil
                    (refine step_load_at rfl 25 _ rfl g7 (0 * 22) rfl x.cells _ rx5 Tryd.underlying25 rfl nfx ?_)
                    refine hK.out _ _ (by trivial) (fun hHeld => ?_)
                    clear hK K
                    try simp only [Act.put, List.getElem_toArray, List.getElem_cons_succ, List.getElem_cons_zero, List.setIfInBounds_toArray, List.set_cons_zero, List.set_cons_succ]
                    first
                      | (refine wpAnyH_take (i := 8) (v := ?_) rfl (by kernel_rfl) (by kernel_rfl) (by kernel_rfl) (fun _ _ _ h => h) (Or.inl ⟨by rfl, ?_⟩) (by assumption) ?_; rotate_left 1; focus (intro w hSw; (try dsimp only at hSw); go_simp; (try with_reducible rfl)))
                      | fail
                    try simp only [Act.put, List.getElem_toArray, List.getElem_cons_succ, List.getElem_cons_zero, List.setIfInBounds_toArray, List.set_cons_zero, List.set_cons_succ]
                    refine wpAnyH_ready (rs := [9]) (by kernel_rfl) (by simp) ?_
                    refine AllReadyH.cons rfl (fun K hK => ?_) AllReadyH.nil
                    (refine step_store_I rfl _ _ rfl w.heap.size g7 c7 l 0 y rfl rfl own4 hl0 (hm20.out y (List.mem_of_getElem? HY.out)) ?_; intro w5 own5 hg5)
                    refine hK.out _ _ (by trivial) (fun hHeld => ?_)
                    clear hK K
                    try simp only [Act.put, List.getElem_toArray, List.getElem_cons_succ, List.getElem_cons_zero, List.setIfInBounds_toArray, List.set_cons_zero, List.set_cons_succ]
                    first
                      | (refine wpAnyH_take (i := 10) (v := ?_) rfl (by kernel_rfl) (by kernel_rfl) (by kernel_rfl) (fun _ _ _ h => h) (Or.inl ⟨by rfl, ?_⟩) (by assumption) ?_; rotate_left 1; focus (intro w hSw; (try dsimp only at hSw); go_simp; (try with_reducible rfl)))
                      | fail
                    try simp only [Act.put, List.getElem_toArray, List.getElem_cons_succ, List.getElem_cons_zero, List.setIfInBounds_toArray, List.set_cons_zero, List.set_cons_succ]
                    refine wpAnyH_ready (rs := [11]) (by kernel_rfl) (by simp) ?_
                    refine AllReadyH.cons rfl (fun K hK => ?_) AllReadyH.nil
                    (refine step_store_I rfl _ _ rfl w.heap.size g7 c7 _ 1 x rfl rfl own5 (by rw [List.length_set]; exact hl1) (hm20.out x (List.mem_of_getElem? HX.out)) ?_; intro w6 own6 hg6)
                    refine hK.out _ _ (by trivial) (fun hHeld => ?_)
                    clear hK K
                    try simp only [Act.put, List.getElem_toArray, List.getElem_cons_succ, List.getElem_cons_zero, List.setIfInBounds_toArray, List.set_cons_zero, List.set_cons_succ]
                    refine wpAnyH_done (by kernel_rfl) ?_ _
                    have g5 : Grew w w5 := (Below.drew gw4).grown hg5 (Below.drew gw4).size (fun q hq => by cases hq; exact hbg7)
                    have g6 : Grew w w6 := g5.grown hg6 g5.size (fun q hq => by cases hq; exact hbg7)
                    have hsw : (l.set 0 y).set 1 x = swapI l 0 x y := by unfold swapI; rw [List.set_comm _ _ (by omega)]
                    rw [hsw] at own6
                    have hRS := right_swapped HU2.out HX.out HY.out
                    have hpm := swap_perm HX.out HY.out
                    have hsl : (swapI l 0 x y).length = n := by rw [swap_len]; exact hll
                    have hPS := hP1.out.perm hpm
                    have hffS : ∀ z ∈ swapI l 0 x y, FineI z := fun z hz => (hPS.1 z hz).fine
                    have hneS : swapI l 0 x y ≠ [] := by intro e; rw [e] at hsl; simp at hsl; omega
                    generalize swapI l 0 x y = S at *
                    have hrdS : RdI w6 (some ⟨g7, 0, none⟩) S := .inr ⟨g7, 0, rfl, fun k x hx => by rw [Nat.zero_add]; exact own6.range hx⟩
                    have cP := tree_Print (some ⟨g7, 0, none⟩) S c7 w6 (by omega) hrdS hffS (HM.out.grew g6) (u8_grew HU.out g6) (HFO.out.grew g6)
                    have cR := (fun W (g9 : Grew w6 W) => tree_Right (some ⟨g7, 0, none⟩) S c7 W (by omega) (hrdS.grew g9) hffS (HM.out.grew (g6.trans' g9)) (u8_grew HU.out (g6.trans' g9)) (HFO.out.grew (g6.trans' g9)))
                    simp only [hsl, hRS] at cR
                    rw [hsl] at cP
                    have g66 : Grew w6 w6 := Below.refl _ _
                    have HRS := Lib.hid hRS
                    have HNS := Lib.hid hneS
                    clear own6 own5 own4 hg5 hg6 g5 gw4 hrdS hffS hPS hpm hsw rx5 ry5 hRS hneS
                    go_wp2_with fail
                    refine Calls.mono cP ?_
                    rintro e5 W5 ⟨g5, ⟨hn5, hb5, rfl⟩ | ⟨hn5, _, rfl⟩ | ⟨hn5, _, v5, rfl, _⟩⟩
                    · clear cP
                      go_wp2_with (first | (go_at_call 14; with_reducible refine (cR _ (by assumption)).mono ?_; rintro e1 W1 ⟨rfl, g1⟩; replace g1 := Grew.trans' (a := w6) (by assumption) g1))
                      go_ret
                      exact ⟨rfl, g6.trans' (by assumption)⟩
                    · rcases hn5 with h | h
                      · exact absurd h HNS.out
                      · rw [HRS.out] at h; cases h
                    · rcases hn5 with h | h
                      · exact absurd h HNS.out
                      · rw [HRS.out] at h; cases h
                  · (refine step_load_at rfl 25 _ rfl g7 (0 * 22) rfl x.cells _ rx5 Tryd.underlying25 rfl nfx ?_)
                    refine hK.out _ _ (by trivial) (fun hHeld => ?_)
                    clear hK K
                    try simp only [Act.put, List.getElem_toArray, List.getElem_cons_succ, List.getElem_cons_zero, List.setIfInBounds_toArray, List.set_cons_zero, List.set_cons_succ]
                    refine wpAnyH_ready (rs := [4]) (by kernel_rfl) (by simp) ?_
                    refine AllReadyH.cons rfl (fun K hK => ?_) AllReadyH.nil
                    (refine step_load_at rfl 25 _ rfl g7 (1 * 22) rfl y.cells _ ry5 Tryd.underlying25 rfl nfy ?_)
                    refine hK.out _ _ (by trivial) (fun hHeld => ?_)
                    clear hK K
                    try simp only [Act.put, List.getElem_toArray, List.getElem_cons_succ, List.getElem_cons_zero, List.setIfInBounds_toArray, List.set_cons_zero, List.set_cons_succ]
                    first
                      | (refine wpAnyH_take (i := 8) (v := ?_) rfl (by kernel_rfl) (by kernel_rfl) (by kernel_rfl) (fun _ _ _ h => h) (Or.inl ⟨by rfl, ?_⟩) (by assumption) ?_; rotate_left 1; focus (intro w hSw; (try dsimp only at hSw); go_simp; (try with_reducible rfl)))
                      | fail
                    try simp only [Act.put, List.getElem_toArray, List.getElem_cons_succ, List.getElem_cons_zero, List.setIfInBounds_toArray, List.set_cons_zero, List.set_cons_succ]
                    refine wpAnyH_ready (rs := [9]) (by kernel_rfl) (by simp) ?_
                    refine AllReadyH.cons rfl (fun K hK => ?_) AllReadyH.nil
                    (refine step_store_I rfl _ _ rfl w.heap.size g7 c7 l 0 y rfl rfl own4 hl0 (hm20.out y (List.mem_of_getElem? HY.out)) ?_; intro w5 own5 hg5)
                    refine hK.out _ _ (by trivial) (fun hHeld => ?_)
                    clear hK K
                    try simp only [Act.put, List.getElem_toArray, List.getElem_cons_succ, List.getElem_cons_zero, List.setIfInBounds_toArray, List.set_cons_zero, List.set_cons_succ]
                    first
                      | (refine wpAnyH_take (i := 10) (v := ?_) rfl (by kernel_rfl) (by kernel_rfl) (by kernel_rfl) (fun _ _ _ h => h) (Or.inl ⟨by rfl, ?_⟩) (by assumption) ?_; rotate_left 1; focus (intro w hSw; (try dsimp only at hSw); go_simp; (try with_reducible rfl)))
                      | fail
                    try simp only [Act.put, List.getElem_toArray, List.getElem_cons_succ, List.getElem_cons_zero, List.setIfInBounds_toArray, List.set_cons_zero, List.set_cons_succ]
                    refine wpAnyH_ready (rs := [11]) (by kernel_rfl) (by simp) ?_
                    refine AllReadyH.cons rfl (fun K hK => ?_) AllReadyH.nil
                    (refine step_store_I rfl _ _ rfl w.heap.size g7 c7 _ 1 x rfl rfl own5 (by rw [List.length_set]; exact hl1) (hm20.out x (List.mem_of_getElem? HX.out)) ?_; intro w6 own6 hg6)
                    refine hK.out _ _ (by trivial) (fun hHeld => ?_)
                    clear hK K
                    try simp only [Act.put, List.getElem_toArray, List.getElem_cons_succ, List.getElem_cons_zero, List.setIfInBounds_toArray, List.set_cons_zero, List.set_cons_succ]
                    refine wpAnyH_done (by kernel_rfl) ?_ _
                    have g5 : Grew w w5 := (Below.drew gw4).grown hg5 (Below.drew gw4).size (fun q hq => by cases hq; exact hbg7)
                    have g6 : Grew w w6 := g5.grown hg6 g5.size (fun q hq => by cases hq; exact hbg7)
                    have hsw : (l.set 0 y).set 1 x = swapI l 0 x y := by unfold swapI; rw [List.set_comm _ _ (by omega)]
                    rw [hsw] at own6
                    have hRS := right_swapped HU2.out HX.out HY.out
                    have hpm := swap_perm HX.out HY.out
                    have hsl : (swapI l 0 x y).length = n := by rw [swap_len]; exact hll
                    have hPS := hP1.out.perm hpm
                    have hffS : ∀ z ∈ swapI l 0 x y, FineI z := fun z hz => (hPS.1 z hz).fine
                    have hneS : swapI l 0 x y ≠ [] := by intro e; rw [e] at hsl; simp at hsl; omega
                    generalize swapI l 0 x y = S at *
                    have hrdS : RdI w6 (some ⟨g7, 0, none⟩) S := .inr ⟨g7, 0, rfl, fun k x hx => by rw [Nat.zero_add]; exact own6.range hx⟩
                    have cP := tree_Print (some ⟨g7, 0, none⟩) S c7 w6 (by omega) hrdS hffS (HM.out.grew g6) (u8_grew HU.out g6) (HFO.out.grew g6)
                    have cR := (fun W (g9 : Grew w6 W) => tree_Right (some ⟨g7, 0, none⟩) S c7 W (by omega) (hrdS.grew g9) hffS (HM.out.grew (g6.trans' g9)) (u8_grew HU.out (g6.trans' g9)) (HFO.out.grew (g6.trans' g9)))
                    simp only [hsl, hRS] at cR
                    rw [hsl] at cP
                    have g66 : Grew w6 w6 := Below.refl _ _
                    have HRS := Lib.hid hRS
                    have HNS := Lib.hid hneS
                    clear own6 own5 own4 hg5 hg6 g5 gw4 hrdS hffS hPS hpm hsw rx5 ry5 hRS hneS
                    go_wp2_with fail
                    refine Calls.mono cP ?_
                    rintro e5 W5 ⟨g5, ⟨hn5, hb5, rfl⟩ | ⟨hn5, _, rfl⟩ | ⟨hn5, _, v5, rfl, _⟩⟩
                    · clear cP
                      go_wp2_with (first | (go_at_call 14; with_reducible refine (cR _ (by assumption)).mono ?_; rintro e1 W1 ⟨rfl, g1⟩; replace g1 := Grew.trans' (a := w6) (by assumption) g1))
                      go_ret
                      exact ⟨rfl, g6.trans' (by assumption)⟩
                    · rcases hn5 with h | h
                      · exact absurd h HNS.out
                      · rw [HRS.out] at h; cases h
                    · rcases hn5 with h | h
                      · exact absurd h HNS.out
                      · rw [HRS.out] at h; cases h
              · obtain ⟨Z, hZ⟩ : ∃ Z, l[n - 1]? = some Z := ⟨_, List.getElem?_eq_getElem (by omega)⟩
                obtain ⟨n1, rfl⟩ : ∃ n1, n = n1 + 1 := ⟨n - 1, by omega⟩
                rw [Nat.add_sub_cancel] at hZ
                have hz20 := hm20.out Z (List.mem_of_getElem? hZ)
                have hZf := HFF.out Z (List.mem_of_getElem? hZ)
                have nfZ := infoItem Z hz20
                have hRT := right_twice (List.mem_of_getElem? hZ)
                have HRT := Lib.hid hRT
                have hffZ : ∀ x ∈ l ++ [Z], FineI x := by
                  intro x hx
                  rcases List.mem_append.1 hx with h | h
                  · exact HFF.out x h
                  · simp at h; subst h; exact hZf
                have HZ2 := Lib.hid hZ
                have hw1 : (0 : Int) < (n1 : Int) + 1 := by omega
                have hw2 : (0 : Int) ≤ (n1 : Int) := by omega
                have hw3 : IntKind.i64.wrap (n1 : Int) = (n1 : Int) := IntWalk.i64_in _ (by omega)
                have hw4 : (n1 : Int) < (n1 : Int) + 1 := by omega
                clear hZ hRT
                go_wp2_with (first | (go_at_call 9; with_reducible refine (ca _ (by assumption)).mono ?_; rintro e1 W1 ⟨rfl, g1⟩; replace g1 := Grew.trans' (a := wb) (by assumption) g1) | (go_at_call 14; with_reducible refine (cR _ (by assumption)).mono ?_; rintro e1 W1 ⟨rfl, g1⟩; replace g1 := Grew.trans' (a := wb) (by assumption) g1))
                obtain ⟨ws, hws⟩ : ∃ W : World, W = W1 := ⟨_, rfl⟩
                have gbs : Grew wb ws := by rw [hws]; assumption
                rw [← hws]
                have gss : Grew ws ws := Below.refl _ _
                have gws := hga.trans' gbs
                have ows := OW.out.below gbs
                have RZ : ∀ W, Grew ws W → W.rangeAt g (n1 * 22) Z.cells := fun W g => range_grew (ows.range HZ2.out) g
                have OWS := Lib.hid ows
                have HWS := Lib.hid hws
                clear hws ows cR ca f5
                refine wp_region_held_drew (S := fun w' => Grew ws w') (by kernel_rfl) (by first | assumption | exact Below.drew (by assumption) | (refine Grew.trans' (by first | assumption | exact Below.drew (by assumption)) ((Below.refl _ _).alloc (Nat.le_refl _) _))) (fun hHeld => ?_)
                first
                  | (refine wpAnyH_take (i := 0) (v := ?_) rfl (by kernel_rfl) (by kernel_rfl) (by kernel_rfl) (fun _ _ _ h => h) (Or.inl ⟨by rfl, ?_⟩) (by assumption) ?_; rotate_left 1; focus (intro w hSw; (try dsimp only at hSw); go_simp; (try with_reducible rfl)))
                  | fail
                try simp only [Act.put, List.getElem_toArray, List.getElem_cons_succ, List.getElem_cons_zero, List.setIfInBounds_toArray, List.set_cons_zero, List.set_cons_succ]
                first
                  | (refine wpAnyH_take (i := 2) (v := ?_) rfl (by kernel_rfl) (by kernel_rfl) (by kernel_rfl) (fun _ _ _ h => h) (Or.inl ⟨by rfl, ?_⟩) (by assumption) ?_; rotate_left 1; focus (intro w hSw; (try dsimp only at hSw); go_simp; (try with_reducible rfl)))
                  | fail
                try simp only [Act.put, List.getElem_toArray, List.getElem_cons_succ, List.getElem_cons_zero, List.setIfInBounds_toArray, List.set_cons_zero, List.set_cons_succ]
                first
                  | (refine wpAnyH_take (i := 3) (v := ?_) rfl (by kernel_rfl) (by kernel_rfl) (by kernel_rfl) (fun _ _ _ h => h) (Or.inl ⟨by rfl, ?_⟩) (by assumption) ?_; rotate_left 1; focus (intro w hSw; (try dsimp only at hSw); go_simp; (try with_reducible rfl)))
                  | fail
                try simp only [Act.put, List.getElem_toArray, List.getElem_cons_succ, List.getElem_cons_zero, List.setIfInBounds_toArray, List.set_cons_zero, List.set_cons_succ]
                first
                  | (refine wpAnyH_take (i := 4) (v := ?_) rfl (by kernel_rfl) (by kernel_rfl) (by kernel_rfl) (fun _ _ _ h => h) (Or.inl ⟨by rfl, ?_⟩) (by assumption) ?_; rotate_left 1; focus (intro w hSw; (try dsimp only at hSw); go_simp; (try with_reducible rfl)))
                  | fail
                try simp only [Act.put, List.getElem_toArray, List.getElem_cons_succ, List.getElem_cons_zero, List.setIfInBounds_toArray, List.set_cons_zero, List.set_cons_succ]
                first
                  | (refine wpAnyH_take (i := 5) (v := ?_) rfl (by kernel_rfl) (by kernel_rfl) (by kernel_rfl) (fun _ _ _ h => h) (Or.inl ⟨by rfl, ?_⟩) (by assumption) ?_; rotate_left 1; focus (intro w hSw; (try dsimp only at hSw); go_simp; (try with_reducible rfl)))
                  | fail
                try simp only [Act.put, List.getElem_toArray, List.getElem_cons_succ, List.getElem_cons_zero, List.setIfInBounds_toArray, List.set_cons_zero, List.set_cons_succ]
                first
                  | (refine wpAnyH_take (i := 6) (v := ?_) rfl (by kernel_rfl) (by kernel_rfl) (by kernel_rfl) (fun _ _ _ h => h) (Or.inl ⟨by rfl, ?_⟩) (by assumption) ?_; rotate_left 1; focus (intro w hSw; (try dsimp only at hSw); go_simp; (try with_reducible rfl)))
                  | fail
                try simp only [Act.put, List.getElem_toArray, List.getElem_cons_succ, List.getElem_cons_zero, List.setIfInBounds_toArray, List.set_cons_zero, List.set_cons_succ]
                first
                  | (refine' wpAnyH_take (i := 7) (v := _) rfl (by kernel_rfl) (by kernel_rfl) (by kernel_rfl) (fun _ _ _ h => h) (yieldsIf_load_mid (by rfl) _ _ rfl _ _ rfl _ _ (fun w hSw => (by (first | exact RZ _ hSw))) Tryd.underlying25 rfl (by first | assumption | kernel_rfl)) (by assumption) ?_)
                  | fail
                try simp only [Act.put, List.getElem_toArray, List.getElem_cons_succ, List.getElem_cons_zero, List.setIfInBounds_toArray, List.set_cons_zero, List.set_cons_succ]
                refine wpAnyH_ready (rs := [1, 8]) (by kernel_rfl) (by simp) ?_
                refine AllReadyH.cons rfl (fun K hK => ?_) (AllReadyH.cons rfl (fun K hK => ?_) AllReadyH.nil)
                · (refine step_append_Is rfl _ _ rfl ws.heap.size _ [] l g (n1 + 1) cv hll rfl rfl (OwnI.nil _ _) hm20.out (fun k x hx => range_grew (OWS.out.range hx) (by first | assumption | exact Below.drew (by assumption))) (Below.size (by first | assumption | exact Below.drew (by assumption))) (by simp; omega) ?_; intro v4 w4 hown4 hb4 hg4; have q4 : Grew ws w4 := Below.trans (by first | assumption | exact Below.drew (by assumption)) hb4)
                  refine hK.out _ _ (by first | assumption | exact Below.drew (by assumption) | (refine Grew.trans' (by first | assumption | exact Below.drew (by assumption)) ((Below.refl _ _).alloc (Nat.le_refl _) _))) (fun hHeld => ?_)
                  clear hK K
                  try simp only [Act.put, List.getElem_toArray, List.getElem_cons_succ, List.getElem_cons_zero, List.setIfInBounds_toArray, List.set_cons_zero, List.set_cons_succ]
                  refine wpAnyH_ready (rs := [8]) (by kernel_rfl) (by simp) ?_
                  refine AllReadyH.cons rfl (fun K hK => ?_) AllReadyH.nil
                  (refine step_run rfl _ _ (exec_buildSlice _ _ _ rfl _ (run_slice_item Z hz20 _)) ?_)
                  refine hK.out _ _ (by first | assumption | exact Below.drew (by assumption) | (refine Grew.trans' (by first | assumption | exact Below.drew (by assumption)) ((Below.refl _ _).alloc (Nat.le_refl _) _))) (fun hHeld => ?_)
                  clear hK K
                  try simp only [Act.put, List.getElem_toArray, List.getElem_cons_succ, List.getElem_cons_zero, List.setIfInBounds_toArray, List.set_cons_zero, List.set_cons_succ]
                  refine wpAnyH_ready (rs := [9]) (by kernel_rfl) (by simp) ?_
                  refine AllReadyH.cons rfl (fun K hK => ?_) AllReadyH.nil
                  (refine step_append_I rfl _ _ rfl ws.heap.size _ l Z _ rfl rfl (by first | exact hown4 | exact hown4.below ((Below.refl _ _).alloc (Nat.le_refl _) _)) hz20 (by first | exact row_new _ Z | exact range_grown (row_new _ Z) hg4 (show (none : Option Nat) ≠ some _ from fun e => by cases e)) (Below.size (by first | assumption | exact Below.drew (by assumption))) (by omega) ?_; intro v5 w5 hown5 hb5 hg5; have q5 : Grew ws w5 := Below.trans (by first | assumption | exact Below.drew (by assumption)) hb5; obtain ⟨g8, c8, e8, hg8, -⟩ := hown5.form (by simp); have hl8 : (l ++ [Z]).length = n1 + 1 + 1 := (by simp; omega); rw [hl8] at e8; subst e8)
                  refine hK.out _ _ (by first | assumption | exact Below.drew (by assumption) | (refine Grew.trans' (by first | assumption | exact Below.drew (by assumption)) ((Below.refl _ _).alloc (Nat.le_refl _) _))) (fun hHeld => ?_)
                  clear hK K
                  try simp only [Act.put, List.getElem_toArray, List.getElem_cons_succ, List.getElem_cons_zero, List.setIfInBounds_toArray, List.set_cons_zero, List.set_cons_succ]
                  refine wpAnyH_ready (rs := [10]) (by kernel_rfl) (by simp) ?_
                  refine AllReadyH.cons rfl (fun K hK => ?_) AllReadyH.nil
                  go_simp
                  (have cR9 := (fun W (g9 : Grew w5 W) => tree_Right (some ⟨g8, 0, none⟩) (l ++ [Z]) c8 W (by omega) (.inr ⟨g8, 0, rfl, fun k x hx => by rw [Nat.zero_add]; exact range_grew (OwnI.range (cap := c8) (by rw [hl8]; exact hown5) hx) g9⟩) hffZ (HM.out.grew (gws.trans' (q5.trans' g9))) (u8_grew HU.out (gws.trans' (q5.trans' g9))) (HFO.out.grew (gws.trans' (q5.trans' g9)))); simp only [hl8, HRT.out] at cR9; go_at_call 14; with_reducible refine (cR9 _ (Below.refl _ _)).mono ?_; rintro e1 W9 ⟨rfl, g9⟩; replace g9 := q5.trans' g9)
                  go_wp2_with fail
                  refine hK.out _ _ (by first | assumption | exact Below.drew (by assumption) | (refine Grew.trans' (by first | assumption | exact Below.drew (by assumption)) ((Below.refl _ _).alloc (Nat.le_refl _) _))) (fun hHeld => ?_)
                  clear hK K
                  try simp only [Act.put, List.getElem_toArray, List.getElem_cons_succ, List.getElem_cons_zero, List.setIfInBounds_toArray, List.set_cons_zero, List.set_cons_succ]
                  first
                    | (refine wpAnyH_take (i := 11) (v := ?_) rfl (by kernel_rfl) (by kernel_rfl) (by kernel_rfl) (fun _ _ _ h => h) (Or.inl ⟨by rfl, ?_⟩) (by assumption) ?_; rotate_left 1; focus (intro w hSw; (try dsimp only at hSw); go_simp; (try with_reducible rfl)))
                    | fail
                  try simp only [Act.put, List.getElem_toArray, List.getElem_cons_succ, List.getElem_cons_zero, List.setIfInBounds_toArray, List.set_cons_zero, List.set_cons_succ]
                  first
                    | (refine wpAnyH_take (i := 12) (v := ?_) rfl (by kernel_rfl) (by kernel_rfl) (by kernel_rfl) (fun _ _ _ h => h) (Or.inl ⟨by rfl, ?_⟩) (by assumption) ?_; rotate_left 1; focus (intro w hSw; (try dsimp only at hSw); go_simp; (try with_reducible rfl)))
                    | fail
                  try simp only [Act.put, List.getElem_toArray, List.getElem_cons_succ, List.getElem_cons_zero, List.setIfInBounds_toArray, List.set_cons_zero, List.set_cons_succ]
                  refine wpAnyH_done (by kernel_rfl) ?_ _
                  go_wp2
                  go_ret
                  exact ⟨rfl, gws.trans' (by assumption)⟩
                · (refine step_run rfl _ _ (exec_buildSlice _ _ _ rfl _ (run_slice_item Z hz20 _)) ?_)
                  refine hK.out _ _ (by first | assumption | exact Below.drew (by assumption) | (refine Grew.trans' (by first | assumption | exact Below.drew (by assumption)) ((Below.refl _ _).alloc (Nat.le_refl _) _))) (fun hHeld => ?_)
                  clear hK K
                  try simp only [Act.put, List.getElem_toArray, List.getElem_cons_succ, List.getElem_cons_zero, List.setIfInBounds_toArray, List.set_cons_zero, List.set_cons_succ]
                  refine wpAnyH_ready (rs := [1]) (by kernel_rfl) (by simp) ?_
                  refine AllReadyH.cons rfl (fun K hK => ?_) AllReadyH.nil
                  (refine step_append_Is rfl _ _ rfl ws.heap.size _ [] l g (n1 + 1) cv hll rfl rfl (OwnI.nil _ _) hm20.out (fun k x hx => range_grew (OWS.out.range hx) (by first | assumption | exact Below.drew (by assumption))) (Below.size (by first | assumption | exact Below.drew (by assumption))) (by simp; omega) ?_; intro v4 w4 hown4 hb4 hg4; have q4 : Grew ws w4 := Below.trans (by first | assumption | exact Below.drew (by assumption)) hb4)
                  refine hK.out _ _ (by first | assumption | exact Below.drew (by assumption) | (refine Grew.trans' (by first | assumption | exact Below.drew (by assumption)) ((Below.refl _ _).alloc (Nat.le_refl _) _))) (fun hHeld => ?_)
                  clear hK K
                  try simp only [Act.put, List.getElem_toArray, List.getElem_cons_succ, List.getElem_cons_zero, List.setIfInBounds_toArray, List.set_cons_zero, List.set_cons_succ]
                  refine wpAnyH_ready (rs := [9]) (by kernel_rfl) (by simp) ?_
                  refine AllReadyH.cons rfl (fun K hK => ?_) AllReadyH.nil
                  (refine step_append_I rfl _ _ rfl ws.heap.size _ l Z _ rfl rfl (by first | exact hown4 | exact hown4.below ((Below.refl _ _).alloc (Nat.le_refl _) _)) hz20 (by first | exact row_new _ Z | exact range_grown (row_new _ Z) hg4 (show (none : Option Nat) ≠ some _ from fun e => by cases e)) (Below.size (by first | assumption | exact Below.drew (by assumption))) (by omega) ?_; intro v5 w5 hown5 hb5 hg5; have q5 : Grew ws w5 := Below.trans (by first | assumption | exact Below.drew (by assumption)) hb5; obtain ⟨g8, c8, e8, hg8, -⟩ := hown5.form (by simp); have hl8 : (l ++ [Z]).length = n1 + 1 + 1 := (by simp; omega); rw [hl8] at e8; subst e8)
                  refine hK.out _ _ (by first | assumption | exact Below.drew (by assumption) | (refine Grew.trans' (by first | assumption | exact Below.drew (by assumption)) ((Below.refl _ _).alloc (Nat.le_refl _) _))) (fun hHeld => ?_)
                  clear hK K
                  try simp only [Act.put, List.getElem_toArray, List.getElem_cons_succ, List.getElem_cons_zero, List.setIfInBounds_toArray, List.set_cons_zero, List.set_cons_succ]
                  refine wpAnyH_ready (rs := [10]) (by kernel_rfl) (by simp) ?_
                  refine AllReadyH.cons rfl (fun K hK => ?_) AllReadyH.nil
                  go_simp
                  (have cR9 := (fun W (g9 : Grew w5 W) => tree_Right (some ⟨g8, 0, none⟩) (l ++ [Z]) c8 W (by omega) (.inr ⟨g8, 0, rfl, fun k x hx => by rw [Nat.zero_add]; exact range_grew (OwnI.range (cap := c8) (by rw [hl8]; exact hown5) hx) g9⟩) hffZ (HM.out.grew (gws.trans' (q5.trans' g9))) (u8_grew HU.out (gws.trans' (q5.trans' g9))) (HFO.out.grew (gws.trans' (q5.trans' g9)))); simp only [hl8, HRT.out] at cR9; go_at_call 14; with_reducible refine (cR9 _ (Below.refl _ _)).mono ?_; rintro e1 W9 ⟨rfl, g9⟩; replace g9 := q5.trans' g9)
                  go_wp2_with fail
                  refine hK.out _ _ (by first | assumption | exact Below.drew (by assumption) | (refine Grew.trans' (by first | assumption | exact Below.drew (by assumption)) ((Below.refl _ _).alloc (Nat.le_refl _) _))) (fun hHeld => ?_)
                  clear hK K
                  try simp only [Act.put, List.getElem_toArray, List.getElem_cons_succ, List.getElem_cons_zero, List.setIfInBounds_toArray, List.set_cons_zero, List.set_cons_succ]
                  first
                    | (refine wpAnyH_take (i := 11) (v := ?_) rfl (by kernel_rfl) (by kernel_rfl) (by kernel_rfl) (fun _ _ _ h => h) (Or.inl ⟨by rfl, ?_⟩) (by assumption) ?_; rotate_left 1; focus (intro w hSw; (try dsimp only at hSw); go_simp; (try with_reducible rfl)))
                    | fail
                  try simp only [Act.put, List.getElem_toArray, List.getElem_cons_succ, List.getElem_cons_zero, List.setIfInBounds_toArray, List.set_cons_zero, List.set_cons_succ]
                  first
                    | (refine wpAnyH_take (i := 12) (v := ?_) rfl (by kernel_rfl) (by kernel_rfl) (by kernel_rfl) (fun _ _ _ h => h) (Or.inl ⟨by rfl, ?_⟩) (by assumption) ?_; rotate_left 1; focus (intro w hSw; (try dsimp only at hSw); go_simp; (try with_reducible rfl)))
                    | fail
                  try simp only [Act.put, List.getElem_toArray, List.getElem_cons_succ, List.getElem_cons_zero, List.setIfInBounds_toArray, List.set_cons_zero, List.set_cons_succ]
                  refine wpAnyH_done (by kernel_rfl) ?_ _
                  go_wp2
                  go_ret
                  exact ⟨rfl, gws.trans' (by assumption)⟩
        · go_wp2
          clear f0 f1 f2 hn0 hn1 hn2 hn3
          go_loopw [13] (fun i wr => ∃ (a : Nat) (l : List Itm), .int .i64 (a : Int) = i ∧ 1 ≤ a ∧ a ≤ n ∧ Grew w wr ∧ OwnI wr w.heap.size (.slice (some ⟨g, 0, none⟩) n cv) l ∧ l.length = n ∧ Hid (Pool l) ∧ Hid (Upto l a)) (fun i _ => n - (intOf i).toNat)
          case atStart => exact ⟨1, its, rfl, by omega, hlp, hg, hown, HN.out, hP, Upto.one its⟩
          case round =>
            obtain ⟨a, l, rfl, ha1, han, hga, hown1, hll, hP1, hU⟩ := hrel
            clear hown hg hP
            obtain ⟨wb, rfl⟩ : ∃ W : World, W = wr := ⟨_, rfl⟩
            by_cases hlt : a < n
            · have f5 : decide ((a : Int) < (n : Int)) = true := decide_eq_true (by omega)
              go_wp2
              go_loopw [14] (fun kk wr => ∃ (k : Nat) (l : List Itm), .int .i64 (k : Int) = kk ∧ k ≤ a ∧ Grew w wr ∧ OwnI wr w.heap.size (.slice (some ⟨g, 0, none⟩) n cv) l ∧ l.length = n ∧ Hid (Pool l) ∧ Hid (But l a k)) (fun kk _ => (intOf kk).toNat)
              case atStart => exact ⟨a, l, rfl, Nat.le_refl _, hga, hown1, hll, hP1, hU.out.but⟩
              case round =>
                clear hga hown1 hP1 hU hll f5
                obtain ⟨k, l2, rfl, hka, hgb, hown2, hll2, hP2, hBt⟩ := hrel
                obtain ⟨wc, rfl⟩ : ∃ W : World, W = wr := ⟨_, rfl⟩
                have gcc : Grew wc wc := Below.refl _ _
                by_cases hk0 : k = 0
                · subst hk0
                  go_wp2
                  refine wp_region_held_drew (S := fun w' => Grew wc w') (by kernel_rfl) (by first | assumption | exact Below.drew (by assumption)) (fun hHeld => ?_)
                  first
                    | (refine wpAnyH_take (i := 0) (v := ?_) rfl (by kernel_rfl) (by kernel_rfl) (by kernel_rfl) (fun _ _ _ h => h) (Or.inl ⟨by rfl, ?_⟩) (by assumption) ?_; rotate_left 1; focus (intro w hSw; (try dsimp only at hSw); go_simp; (try with_reducible rfl)))
                    | fail
                  try simp only [Act.put, List.getElem_toArray, List.getElem_cons_succ, List.getElem_cons_zero, List.setIfInBounds_toArray, List.set_cons_zero, List.set_cons_succ]
                  first
                    | (refine wpAnyH_take (i := 1) (v := ?_) rfl (by kernel_rfl) (by kernel_rfl) (by kernel_rfl) (fun _ _ _ h => h) (Or.inl ⟨by rfl, ?_⟩) (by assumption) ?_; rotate_left 1; focus (intro w hSw; (try dsimp only at hSw); go_simp; (try with_reducible rfl)))
                    | fail
                  try simp only [Act.put, List.getElem_toArray, List.getElem_cons_succ, List.getElem_cons_zero, List.setIfInBounds_toArray, List.set_cons_zero, List.set_cons_succ]
                  first
                    | (refine wpAnyH_take (i := 2) (v := ?_) rfl (by kernel_rfl) (by kernel_rfl) (by kernel_rfl) (fun _ _ _ h => h) (Or.inl ⟨by rfl, ?_⟩) (by assumption) ?_; rotate_left 1; focus (intro w hSw; (try dsimp only at hSw); go_simp; (try with_reducible rfl)))
                    | fail
                  try simp only [Act.put, List.getElem_toArray, List.getElem_cons_succ, List.getElem_cons_zero, List.setIfInBounds_toArray, List.set_cons_zero, List.set_cons_succ]
                  first
                    | (refine wpAnyH_take (i := 3) (v := ?_) rfl (by kernel_rfl) (by kernel_rfl) (by kernel_rfl) (fun _ _ _ h => h) (Or.inl ⟨by rfl, ?_⟩) (by assumption) ?_; rotate_left 1; focus (intro w hSw; (try dsimp only at hSw); go_simp; (try with_reducible rfl)))
                    | (refine wpAnyH_take (i := 3) (v := undef) rfl (by kernel_rfl) (by kernel_rfl) (by kernel_rfl) (fun _ _ _ h => h) (Or.inr ⟨by rfl, rfl⟩) (by assumption) ?_)
                    | fail
                  try simp only [Act.put, List.getElem_toArray, List.getElem_cons_succ, List.getElem_cons_zero, List.setIfInBounds_toArray, List.set_cons_zero, List.set_cons_succ]
                  first
                    | (refine wpAnyH_take (i := 4) (v := ?_) rfl (by kernel_rfl) (by kernel_rfl) (by kernel_rfl) (fun _ _ _ h => h) (Or.inl ⟨by rfl, ?_⟩) (by assumption) ?_; rotate_left 1; focus (intro w hSw; (try dsimp only at hSw); go_simp; (try with_reducible rfl)))
                    | (refine wpAnyH_take (i := 4) (v := undef) rfl (by kernel_rfl) (by kernel_rfl) (by kernel_rfl) (fun _ _ _ h => h) (Or.inr ⟨by rfl, rfl⟩) (by assumption) ?_)
                    | fail
                  try simp only [Act.put, List.getElem_toArray, List.getElem_cons_succ, List.getElem_cons_zero, List.setIfInBounds_toArray, List.set_cons_zero, List.set_cons_succ]
                  first
                    | (refine wpAnyH_take (i := 5) (v := ?_) rfl (by kernel_rfl) (by kernel_rfl) (by kernel_rfl) (fun _ _ _ h => h) (Or.inl ⟨by rfl, ?_⟩) (by assumption) ?_; rotate_left 1; focus (intro w hSw; (try dsimp only at hSw); go_simp; (try with_reducible rfl)))
                    | (refine wpAnyH_take (i := 5) (v := undef) rfl (by kernel_rfl) (by kernel_rfl) (by kernel_rfl) (fun _ _ _ h => h) (Or.inr ⟨by rfl, rfl⟩) (by assumption) ?_)
                    | fail
                  try simp only [Act.put, List.getElem_toArray, List.getElem_cons_succ, List.getElem_cons_zero, List.setIfInBounds_toArray, List.set_cons_zero, List.set_cons_succ]
                  first
                    | (refine' wpAnyH_take (i := 6) (v := _) rfl (by kernel_rfl) (by kernel_rfl) (by kernel_rfl) (fun _ _ _ h => h) (yieldsIf_load_mid (by rfl) _ _ rfl _ _ rfl _ _ (fun w hSw => (by fail)) Tryd.underlying25 rfl (by first | assumption | kernel_rfl)) (by assumption) ?_)
                    | (refine wpAnyH_take (i := 6) (v := undef) rfl (by kernel_rfl) (by kernel_rfl) (by kernel_rfl) (fun _ _ _ h => h) (Or.inr ⟨by rfl, rfl⟩) (by assumption) ?_)
                    | fail
                  try simp only [Act.put, List.getElem_toArray, List.getElem_cons_succ, List.getElem_cons_zero, List.setIfInBounds_toArray, List.set_cons_zero, List.set_cons_succ]
                  first
                    | (refine wpAnyH_take (i := 7) (v := ?_) rfl (by kernel_rfl) (by kernel_rfl) (by kernel_rfl) (fun _ _ _ h => h) (Or.inl ⟨by rfl, ?_⟩) (by assumption) ?_; rotate_left 1; focus (intro w hSw; (try dsimp only at hSw); go_simp; (try with_reducible rfl)))
                    | (refine wpAnyH_take (i := 7) (v := undef) rfl (by kernel_rfl) (by kernel_rfl) (by kernel_rfl) (fun _ _ _ h => h) (Or.inr ⟨by rfl, rfl⟩) (by assumption) ?_)
                    | fail
                  try simp only [Act.put, List.getElem_toArray, List.getElem_cons_succ, List.getElem_cons_zero, List.setIfInBounds_toArray, List.set_cons_zero, List.set_cons_succ]
                  first
                    | (refine wpAnyH_take (i := 8) (v := ?_) rfl (by kernel_rfl) (by kernel_rfl) (by kernel_rfl) (fun _ _ _ h => h) (Or.inl ⟨by rfl, ?_⟩) (by assumption) ?_; rotate_left 1; focus (intro w hSw; (try dsimp only at hSw); go_simp; (try with_reducible rfl)))
                    | (refine wpAnyH_take (i := 8) (v := undef) rfl (by kernel_rfl) (by kernel_rfl) (by kernel_rfl) (fun _ _ _ h => h) (Or.inr ⟨by rfl, rfl⟩) (by assumption) ?_)
                    | fail
                  try simp only [Act.put, List.getElem_toArray, List.getElem_cons_succ, List.getElem_cons_zero, List.setIfInBounds_toArray, List.set_cons_zero, List.set_cons_succ]
                  first
                    | (refine wpAnyH_take (i := 9) (v := ?_) rfl (by kernel_rfl) (by kernel_rfl) (by kernel_rfl) (fun _ _ _ h => h) (Or.inl ⟨by rfl, ?_⟩) (by assumption) ?_; rotate_left 1; focus (intro w hSw; (try dsimp only at hSw); go_simp; (try with_reducible rfl)))
                    | (refine wpAnyH_take (i := 9) (v := undef) rfl (by kernel_rfl) (by kernel_rfl) (by kernel_rfl) (fun _ _ _ h => h) (Or.inr ⟨by rfl, rfl⟩) (by assumption) ?_)
                    | fail
                  try simp only [Act.put, List.getElem_toArray, List.getElem_cons_succ, List.getElem_cons_zero, List.setIfInBounds_toArray, List.set_cons_zero, List.set_cons_succ]
                  first
                    | (refine wpAnyH_take (i := 10) (v := ?_) rfl (by kernel_rfl) (by kernel_rfl) (by kernel_rfl) (fun _ _ _ h => h) (Or.inl ⟨by rfl, ?_⟩) (by assumption) ?_; rotate_left 1; focus (intro w hSw; (try dsimp only at hSw); go_simp; (try with_reducible rfl)))
                    | (refine wpAnyH_take (i := 10) (v := undef) rfl (by kernel_rfl) (by kernel_rfl) (by kernel_rfl) (fun _ _ _ h => h) (Or.inr ⟨by rfl, rfl⟩) (by assumption) ?_)
                    | fail
                  try simp only [Act.put, List.getElem_toArray, List.getElem_cons_succ, List.getElem_cons_zero, List.setIfInBounds_toArray, List.set_cons_zero, List.set_cons_succ]
                  first
                    | (refine' wpAnyH_take (i := 11) (v := _) rfl (by kernel_rfl) (by kernel_rfl) (by kernel_rfl) (fun _ _ _ h => h) (yieldsIf_load_mid (by rfl) _ _ rfl _ _ rfl _ _ (fun w hSw => (by fail)) Tryd.underlying25 rfl (by first | assumption | kernel_rfl)) (by assumption) ?_)
                    | (refine wpAnyH_take (i := 11) (v := undef) rfl (by kernel_rfl) (by kernel_rfl) (by kernel_rfl) (fun _ _ _ h => h) (Or.inr ⟨by rfl, rfl⟩) (by assumption) ?_)
                    | fail
                  try simp only [Act.put, List.getElem_toArray, List.getElem_cons_succ, List.getElem_cons_zero, List.setIfInBounds_toArray, List.set_cons_zero, List.set_cons_succ]
                  first
                    | (refine wpAnyH_take (i := 12) (v := undef) rfl (by kernel_rfl) (by kernel_rfl) (by kernel_rfl) (fun _ _ _ h => h) (Or.inr ⟨by rfl, rfl⟩) (by assumption) ?_; try simp only [Act.put, List.getElem_toArray, List.getElem_cons_succ, List.getElem_cons_zero, List.setIfInBounds_toArray, List.set_cons_zero, List.set_cons_succ])
                    | (refine wpAnyH_ready (rs := [12]) (by kernel_rfl) (by simp) ?_; refine AllReadyH.cons rfl (fun K hK => ?_) AllReadyH.nil; go_simp; fail; go_wp2_with fail; refine hK.out _ _ (by first | assumption | exact Below.drew (by assumption)) (fun hHeld => ?_); clear hK K; (try simp only [Act.put, List.getElem_toArray, List.getElem_cons_succ, List.getElem_cons_zero, List.setIfInBounds_toArray, List.set_cons_zero, List.set_cons_succ]))
                    | fail
                  first
                    | (refine wpAnyH_take (i := 13) (v := ?_) rfl (by kernel_rfl) (by kernel_rfl) (by kernel_rfl) (fun _ _ _ h => h) (Or.inl ⟨by rfl, ?_⟩) (by assumption) ?_; rotate_left 1; focus (intro w hSw; (try dsimp only at hSw); go_simp; (try with_reducible rfl)))
                    | fail
                  try simp only [Act.put, List.getElem_toArray, List.getElem_cons_succ, List.getElem_cons_zero, List.setIfInBounds_toArray, List.set_cons_zero, List.set_cons_succ]
                  refine wpAnyH_done (by kernel_rfl) ?_ _
                  go_wp2
                  go_roundw
                  case rel => exact ⟨a + 1, l2, by go_num, by omega, by omega, hgb.trans' (by first | assumption | exact Below.drew (by assumption)), hown2.below (by first | assumption | exact Below.drew (by assumption)), hll2, hP2, hBt.out.zero⟩
                  case measure => simp [intOf]; omega
                · obtain ⟨m, rfl⟩ : ∃ m, k = m + 1 := ⟨k - 1, by omega⟩
                  obtain ⟨x, hx⟩ : ∃ x, l2[m]? = some x := ⟨_, List.getElem?_eq_getElem (by omega)⟩
                  obtain ⟨y, hy⟩ : ∃ y, l2[m + 1]? = some y := ⟨_, List.getElem?_eq_getElem (by omega)⟩
                  have hxf := (hP2.out.1 x (List.mem_of_getElem? hx)).fine
                  have hyf := (hP2.out.1 y (List.mem_of_getElem? hy)).fine
                  obtain ⟨hx20, hxs⟩ := hxf
                  obtain ⟨hy20, hys⟩ := hyf
                  have own3 : OwnI wc w.heap.size (.slice (some ⟨g, 0, none⟩) l2.length cv) l2 := by rw [hll2]; exact hown2
                  have rx := own3.range hx
                  have ry := own3.range hy
                  have RX : ∀ W, Grew wc W → W.rangeAt g (m * 22) x.cells := fun W g => range_grew rx g
                  have RY : ∀ W, Grew wc W → W.rangeAt g ((m + 1) * 22) y.cells := fun W g => range_grew ry g
                  have nfx := infoItem x hx20
                  have nfy := infoItem y hy20
                  have cB := (fun W (g : Grew wc W) => ref_Before y x W hys hxs hy20 hx20)
                  have hw2 : (0 : Int) < (m : Int) + 1 := by omega
                  have hw6 : (0 : Int) ≤ (m : Int) + 1 := by omega
                  have hw3 : IntKind.i64.wrap (m : Int) = (m : Int) := IntWalk.i64_in _ (by omega)
                  have hw4 : (m : Int) < (n : Int) := by omega
                  have hw5 : (m : Int) + 1 < (n : Int) := by omega
                  have HX := Lib.hid hx
                  have HY := Lib.hid hy
                  have OW := Lib.hid own3
                  have OW2 := Lib.hid hown2
                  obtain ⟨B, hB⟩ : ∃ B, beforeI y x = B := ⟨_, rfl⟩
                  rw [hB] at cB
                  have HBB := Lib.hid hB
                  clear hB hx hy rx ry own3 hown2
                  cases B
                  · go_wp2
                    refine wp_region_held_drew (S := fun w' => Grew wc w') (by kernel_rfl) (by first | assumption | exact Below.drew (by assumption)) (fun hHeld => ?_)
                    first
                      | (refine wpAnyH_take (i := 0) (v := ?_) rfl (by kernel_rfl) (by kernel_rfl) (by kernel_rfl) (fun _ _ _ h => h) (Or.inl ⟨by rfl, ?_⟩) (by assumption) ?_; rotate_left 1; focus (intro w hSw; (try dsimp only at hSw); go_simp; (try with_reducible rfl)))
                      | fail
                    try simp only [Act.put, List.getElem_toArray, List.getElem_cons_succ, List.getElem_cons_zero, List.setIfInBounds_toArray, List.set_cons_zero, List.set_cons_succ]
                    first
                      | (refine wpAnyH_take (i := 1) (v := ?_) rfl (by kernel_rfl) (by kernel_rfl) (by kernel_rfl) (fun _ _ _ h => h) (Or.inl ⟨by rfl, ?_⟩) (by assumption) ?_; rotate_left 1; focus (intro w hSw; (try dsimp only at hSw); go_simp; (try with_reducible rfl)))
                      | fail
                    try simp only [Act.put, List.getElem_toArray, List.getElem_cons_succ, List.getElem_cons_zero, List.setIfInBounds_toArray, List.set_cons_zero, List.set_cons_succ]
                    first
                      | (refine wpAnyH_take (i := 2) (v := ?_) rfl (by kernel_rfl) (by kernel_rfl) (by kernel_rfl) (fun _ _ _ h => h) (Or.inl ⟨by rfl, ?_⟩) (by assumption) ?_; rotate_left 1; focus (intro w hSw; (try dsimp only at hSw); go_simp; (try with_reducible rfl)))
                      | fail
                    try simp only [Act.put, List.getElem_toArray, List.getElem_cons_succ, List.getElem_cons_zero, List.setIfInBounds_toArray, List.set_cons_zero, List.set_cons_succ]
                    first
                      | (refine wpAnyH_take (i := 3) (v := ?_) rfl (by kernel_rfl) (by kernel_rfl) (by kernel_rfl) (fun _ _ _ h => h) (Or.inl ⟨by rfl, ?_⟩) (by assumption) ?_; rotate_left 1; focus (intro w hSw; (try dsimp only at hSw); go_simp; (try with_reducible rfl)))
                      | (refine wpAnyH_take (i := 3) (v := undef) rfl (by kernel_rfl) (by kernel_rfl) (by kernel_rfl) (fun _ _ _ h => h) (Or.inr ⟨by rfl, rfl⟩) (by assumption) ?_)
                      | fail
                    try simp only [Act.put, List.getElem_toArray, List.getElem_cons_succ, List.getElem_cons_zero, List.setIfInBounds_toArray, List.set_cons_zero, List.set_cons_succ]
                    first
                      | (refine wpAnyH_take (i := 4) (v := ?_) rfl (by kernel_rfl) (by kernel_rfl) (by kernel_rfl) (fun _ _ _ h => h) (Or.inl ⟨by rfl, ?_⟩) (by assumption) ?_; rotate_left 1; focus (intro w hSw; (try dsimp only at hSw); go_simp; (try with_reducible rfl)))
                      | (refine wpAnyH_take (i := 4) (v := undef) rfl (by kernel_rfl) (by kernel_rfl) (by kernel_rfl) (fun _ _ _ h => h) (Or.inr ⟨by rfl, rfl⟩) (by assumption) ?_)
                      | fail
                    try simp only [Act.put, List.getElem_toArray, List.getElem_cons_succ, List.getElem_cons_zero, List.setIfInBounds_toArray, List.set_cons_zero, List.set_cons_succ]
                    first
                      | (refine wpAnyH_take (i := 5) (v := ?_) rfl (by kernel_rfl) (by kernel_rfl) (by kernel_rfl) (fun _ _ _ h => h) (Or.inl ⟨by rfl, ?_⟩) (by assumption) ?_; rotate_left 1; focus (intro w hSw; (try dsimp only at hSw); go_simp; (try with_reducible rfl)))
                      | (refine wpAnyH_take (i := 5) (v := undef) rfl (by kernel_rfl) (by kernel_rfl) (by kernel_rfl) (fun _ _ _ h => h) (Or.inr ⟨by rfl, rfl⟩) (by assumption) ?_)
                      | fail
                    try simp only [Act.put, List.getElem_toArray, List.getElem_cons_succ, List.getElem_cons_zero, List.setIfInBounds_toArray, List.set_cons_zero, List.set_cons_succ]
                    first
                      | (refine' wpAnyH_take (i := 6) (v := _) rfl (by kernel_rfl) (by kernel_rfl) (by kernel_rfl) (fun _ _ _ h => h) (yieldsIf_load_mid (by rfl) _ _ rfl _ _ rfl _ _ (fun w hSw => (by (first | exact RX _ hSw | exact RY _ hSw))) Tryd.underlying25 rfl (by first | assumption | kernel_rfl)) (by assumption) ?_)
                      | (refine wpAnyH_take (i := 6) (v := undef) rfl (by kernel_rfl) (by kernel_rfl) (by kernel_rfl) (fun _ _ _ h => h) (Or.inr ⟨by rfl, rfl⟩) (by assumption) ?_)
                      | fail
                    try simp only [Act.put, List.getElem_toArray, List.getElem_cons_succ, List.getElem_cons_zero, List.setIfInBounds_toArray, List.set_cons_zero, List.set_cons_succ]
                    first
                      | (refine wpAnyH_take (i := 7) (v := ?_) rfl (by kernel_rfl) (by kernel_rfl) (by kernel_rfl) (fun _ _ _ h => h) (Or.inl ⟨by rfl, ?_⟩) (by assumption) ?_; rotate_left 1; focus (intro w hSw; (try dsimp only at hSw); go_simp; (try with_reducible rfl)))
                      | (refine wpAnyH_take (i := 7) (v := undef) rfl (by kernel_rfl) (by kernel_rfl) (by kernel_rfl) (fun _ _ _ h => h) (Or.inr ⟨by rfl, rfl⟩) (by assumption) ?_)
                      | fail
                    try simp only [Act.put, List.getElem_toArray, List.getElem_cons_succ, List.getElem_cons_zero, List.setIfInBounds_toArray, List.set_cons_zero, List.set_cons_succ]
                    first
                      | (refine wpAnyH_take (i := 8) (v := ?_) rfl (by kernel_rfl) (by kernel_rfl) (by kernel_rfl) (fun _ _ _ h => h) (Or.inl ⟨by rfl, ?_⟩) (by assumption) ?_; rotate_left 1; focus (intro w hSw; (try dsimp only at hSw); go_simp; (try with_reducible rfl)))
                      | (refine wpAnyH_take (i := 8) (v := undef) rfl (by kernel_rfl) (by kernel_rfl) (by kernel_rfl) (fun _ _ _ h => h) (Or.inr ⟨by rfl, rfl⟩) (by assumption) ?_)
                      | fail
                    try simp only [Act.put, List.getElem_toArray, List.getElem_cons_succ, List.getElem_cons_zero, List.setIfInBounds_toArray, List.set_cons_zero, List.set_cons_succ]
                    first
                      | (refine wpAnyH_take (i := 9) (v := ?_) rfl (by kernel_rfl) (by kernel_rfl) (by kernel_rfl) (fun _ _ _ h => h) (Or.inl ⟨by rfl, ?_⟩) (by assumption) ?_; rotate_left 1; focus (intro w hSw; (try dsimp only at hSw); go_simp; (try with_reducible rfl)))
                      | (refine wpAnyH_take (i := 9) (v := undef) rfl (by kernel_rfl) (by kernel_rfl) (by kernel_rfl) (fun _ _ _ h => h) (Or.inr ⟨by rfl, rfl⟩) (by assumption) ?_)
                      | fail
                    try simp only [Act.put, List.getElem_toArray, List.getElem_cons_succ, List.getElem_cons_zero, List.setIfInBounds_toArray, List.set_cons_zero, List.set_cons_succ]
                    first
                      | (refine wpAnyH_take (i := 10) (v := ?_) rfl (by kernel_rfl) (by kernel_rfl) (by kernel_rfl) (fun _ _ _ h => h) (Or.inl ⟨by rfl, ?_⟩) (by assumption) ?_; rotate_left 1; focus (intro w hSw; (try dsimp only at hSw); go_simp; (try with_reducible rfl)))
                      | (refine wpAnyH_take (i := 10) (v := undef) rfl (by kernel_rfl) (by kernel_rfl) (by kernel_rfl) (fun _ _ _ h => h) (Or.inr ⟨by rfl, rfl⟩) (by assumption) ?_)
                      | fail
                    try simp only [Act.put, List.getElem_toArray, List.getElem_cons_succ, List.getElem_cons_zero, List.setIfInBounds_toArray, List.set_cons_zero, List.set_cons_succ]
                    first
                      | (refine' wpAnyH_take (i := 11) (v := _) rfl (by kernel_rfl) (by kernel_rfl) (by kernel_rfl) (fun _ _ _ h => h) (yieldsIf_load_mid (by rfl) _ _ rfl _ _ rfl _ _ (fun w hSw => (by (first | exact RX _ hSw | exact RY _ hSw))) Tryd.underlying25 rfl (by first | assumption | kernel_rfl)) (by assumption) ?_)
                      | (refine wpAnyH_take (i := 11) (v := undef) rfl (by kernel_rfl) (by kernel_rfl) (by kernel_rfl) (fun _ _ _ h => h) (Or.inr ⟨by rfl, rfl⟩) (by assumption) ?_)
                      | fail
                    try simp only [Act.put, List.getElem_toArray, List.getElem_cons_succ, List.getElem_cons_zero, List.setIfInBounds_toArray, List.set_cons_zero, List.set_cons_succ]
                    first
                      | (refine wpAnyH_take (i := 12) (v := undef) rfl (by kernel_rfl) (by kernel_rfl) (by kernel_rfl) (fun _ _ _ h => h) (Or.inr ⟨by rfl, rfl⟩) (by assumption) ?_; try simp only [Act.put, List.getElem_toArray, List.getElem_cons_succ, List.getElem_cons_zero, List.setIfInBounds_toArray, List.set_cons_zero, List.set_cons_succ])
                      | (refine wpAnyH_ready (rs := [12]) (by kernel_rfl) (by simp) ?_; refine AllReadyH.cons rfl (fun K hK => ?_) AllReadyH.nil; go_simp; ((go_at_call 13; with_reducible refine (cB _ (by first | assumption | exact Below.drew (by assumption))).mono ?_; rintro e1 W1 ⟨rfl, g1⟩; replace g1 := Grew.trans' (a := wc) (by first | assumption | exact Below.drew (by assumption)) g1)); go_wp2_with fail; refine hK.out _ _ (by first | assumption | exact Below.drew (by assumption)) (fun hHeld => ?_); clear hK K; (try simp only [Act.put, List.getElem_toArray, List.getElem_cons_succ, List.getElem_cons_zero, List.setIfInBounds_toArray, List.set_cons_zero, List.set_cons_succ]))
                      | fail
                    first
                      | (refine wpAnyH_take (i := 13) (v := ?_) rfl (by kernel_rfl) (by kernel_rfl) (by kernel_rfl) (fun _ _ _ h => h) (Or.inl ⟨by rfl, ?_⟩) (by assumption) ?_; rotate_left 1; focus (intro w hSw; (try dsimp only at hSw); go_simp; (try with_reducible rfl)))
                      | fail
                    try simp only [Act.put, List.getElem_toArray, List.getElem_cons_succ, List.getElem_cons_zero, List.setIfInBounds_toArray, List.set_cons_zero, List.set_cons_succ]
                    refine wpAnyH_done (by kernel_rfl) ?_ _
                    go_wp2
                    go_roundw
                    case rel => exact ⟨a + 1, l2, by go_num, by omega, by omega, hgb.trans' (by assumption), OW2.out.below (by assumption), hll2, hP2, hBt.out.done hP2.out HX.out HY.out HBB.out⟩
                    case measure => simp [intOf]; omega
                  · go_wp2
                    refine wp_region_held_drew (S := fun w' => Grew wc w') (by kernel_rfl) (by first | assumption | exact Below.drew (by assumption)) (fun hHeld => ?_)
                    first
                      | (refine wpAnyH_take (i := 0) (v := ?_) rfl (by kernel_rfl) (by kernel_rfl) (by kernel_rfl) (fun _ _ _ h => h) (Or.inl ⟨by rfl, ?_⟩) (by assumption) ?_; rotate_left 1; focus (intro w hSw; (try dsimp only at hSw); go_simp; (try with_reducible rfl)))
                      | fail
                    try simp only [Act.put, List.getElem_toArray, List.getElem_cons_succ, List.getElem_cons_zero, List.setIfInBounds_toArray, List.set_cons_zero, List.set_cons_succ]
                    first
                      | (refine wpAnyH_take (i := 1) (v := ?_) rfl (by kernel_rfl) (by kernel_rfl) (by kernel_rfl) (fun _ _ _ h => h) (Or.inl ⟨by rfl, ?_⟩) (by assumption) ?_; rotate_left 1; focus (intro w hSw; (try dsimp only at hSw); go_simp; (try with_reducible rfl)))
                      | fail
                    try simp only [Act.put, List.getElem_toArray, List.getElem_cons_succ, List.getElem_cons_zero, List.setIfInBounds_toArray, List.set_cons_zero, List.set_cons_succ]
                    first
                      | (refine wpAnyH_take (i := 2) (v := ?_) rfl (by kernel_rfl) (by kernel_rfl) (by kernel_rfl) (fun _ _ _ h => h) (Or.inl ⟨by rfl, ?_⟩) (by assumption) ?_; rotate_left 1; focus (intro w hSw; (try dsimp only at hSw); go_simp; (try with_reducible rfl)))
                      | fail
                    try simp only [Act.put, List.getElem_toArray, List.getElem_cons_succ, List.getElem_cons_zero, List.setIfInBounds_toArray, List.set_cons_zero, List.set_cons_succ]
                    first
                      | (refine wpAnyH_take (i := 3) (v := ?_) rfl (by kernel_rfl) (by kernel_rfl) (by kernel_rfl) (fun _ _ _ h => h) (Or.inl ⟨by rfl, ?_⟩) (by assumption) ?_; rotate_left 1; focus (intro w hSw; (try dsimp only at hSw); go_simp; (try with_reducible rfl)))
                      | (refine wpAnyH_take (i := 3) (v := undef) rfl (by kernel_rfl) (by kernel_rfl) (by kernel_rfl) (fun _ _ _ h => h) (Or.inr ⟨by rfl, rfl⟩) (by assumption) ?_)
                      | fail
                    try simp only [Act.put, List.getElem_toArray, List.getElem_cons_succ, List.getElem_cons_zero, List.setIfInBounds_toArray, List.set_cons_zero, List.set_cons_succ]
                    first
                      | (refine wpAnyH_take (i := 4) (v := ?_) rfl (by kernel_rfl) (by kernel_rfl) (by kernel_rfl) (fun _ _ _ h => h) (Or.inl ⟨by rfl, ?_⟩) (by assumption) ?_; rotate_left 1; focus (intro w hSw; (try dsimp only at hSw); go_simp; (try with_reducible rfl)))
                      | (refine wpAnyH_take (i := 4) (v := undef) rfl (by kernel_rfl) (by kernel_rfl) (by kernel_rfl) (fun _ _ _ h => h) (Or.inr ⟨by rfl, rfl⟩) (by assumption) ?_)
                      | fail
                    try simp only [Act.put, List.getElem_toArray, List.getElem_cons_succ, List.getElem_cons_zero, List.setIfInBounds_toArray, List.set_cons_zero, List.set_cons_succ]
                    first
                      | (refine wpAnyH_take (i := 5) (v := ?_) rfl (by kernel_rfl) (by kernel_rfl) (by kernel_rfl) (fun _ _ _ h => h) (Or.inl ⟨by rfl, ?_⟩) (by assumption) ?_; rotate_left 1; focus (intro w hSw; (try dsimp only at hSw); go_simp; (try with_reducible rfl)))
                      | (refine wpAnyH_take (i := 5) (v := undef) rfl (by kernel_rfl) (by kernel_rfl) (by kernel_rfl) (fun _ _ _ h => h) (Or.inr ⟨by rfl, rfl⟩) (by assumption) ?_)
                      | fail
                    try simp only [Act.put, List.getElem_toArray, List.getElem_cons_succ, List.getElem_cons_zero, List.setIfInBounds_toArray, List.set_cons_zero, List.set_cons_succ]
                    first
                      | (refine' wpAnyH_take (i := 6) (v := _) rfl (by kernel_rfl) (by kernel_rfl) (by kernel_rfl) (fun _ _ _ h => h) (yieldsIf_load_mid (by rfl) _ _ rfl _ _ rfl _ _ (fun w hSw => (by (first | exact RX _ hSw | exact RY _ hSw))) Tryd.underlying25 rfl (by first | assumption | kernel_rfl)) (by assumption) ?_)
                      | (refine wpAnyH_take (i := 6) (v := undef) rfl (by kernel_rfl) (by kernel_rfl) (by kernel_rfl) (fun _ _ _ h => h) (Or.inr ⟨by rfl, rfl⟩) (by assumption) ?_)
                      | fail
                    try simp only [Act.put, List.getElem_toArray, List.getElem_cons_succ, List.getElem_cons_zero, List.setIfInBounds_toArray, List.set_cons_zero, List.set_cons_succ]
                    first
                      | (refine wpAnyH_take (i := 7) (v := ?_) rfl (by kernel_rfl) (by kernel_rfl) (by kernel_rfl) (fun _ _ _ h => h) (Or.inl ⟨by rfl, ?_⟩) (by assumption) ?_; rotate_left 1; focus (intro w hSw; (try dsimp only at hSw); go_simp; (try with_reducible rfl)))
                      | (refine wpAnyH_take (i := 7) (v := undef) rfl (by kernel_rfl) (by kernel_rfl) (by kernel_rfl) (fun _ _ _ h => h) (Or.inr ⟨by rfl, rfl⟩) (by assumption) ?_)
                      | fail
                    try simp only [Act.put, List.getElem_toArray, List.getElem_cons_succ, List.getElem_cons_zero, List.setIfInBounds_toArray, List.set_cons_zero, List.set_cons_succ]
                    first
                      | (refine wpAnyH_take (i := 8) (v := ?_) rfl (by kernel_rfl) (by kernel_rfl) (by kernel_rfl) (fun _ _ _ h => h) (Or.inl ⟨by rfl, ?_⟩) (by assumption) ?_; rotate_left 1; focus (intro w hSw; (try dsimp only at hSw); go_simp; (try with_reducible rfl)))
                      | (refine wpAnyH_take (i := 8) (v := undef) rfl (by kernel_rfl) (by kernel_rfl) (by kernel_rfl) (fun _ _ _ h => h) (Or.inr ⟨by rfl, rfl⟩) (by assumption) ?_)
                      | fail
                    try simp only [Act.put, List.getElem_toArray, List.getElem_cons_succ, List.getElem_cons_zero, List.setIfInBounds_toArray, List.set_cons_zero, List.set_cons_succ]
                    first
                      | (refine wpAnyH_take (i := 9) (v := ?_) rfl (by kernel_rfl) (by kernel_rfl) (by kernel_rfl) (fun _ _ _ h => h) (Or.inl ⟨by rfl, ?_⟩) (by assumption) ?_; rotate_left 1; focus (intro w hSw; (try dsimp only at hSw); go_simp; (try with_reducible rfl)))
                      | (refine wpAnyH_take (i := 9) (v := undef) rfl (by kernel_rfl) (by kernel_rfl) (by kernel_rfl) (fun _ _ _ h => h) (Or.inr ⟨by rfl, rfl⟩) (by assumption) ?_)
                      | fail
                    try simp only [Act.put, List.getElem_toArray, List.getElem_cons_succ, List.getElem_cons_zero, List.setIfInBounds_toArray, List.set_cons_zero, List.set_cons_succ]
                    first
                      | (refine wpAnyH_take (i := 10) (v := ?_) rfl (by kernel_rfl) (by kernel_rfl) (by kernel_rfl) (fun _ _ _ h => h) (Or.inl ⟨by rfl, ?_⟩) (by assumption) ?_; rotate_left 1; focus (intro w hSw; (try dsimp only at hSw); go_simp; (try with_reducible rfl)))
                      | (refine wpAnyH_take (i := 10) (v := undef) rfl (by kernel_rfl) (by kernel_rfl) (by kernel_rfl) (fun _ _ _ h => h) (Or.inr ⟨by rfl, rfl⟩) (by assumption) ?_)
                      | fail
                    try simp only [Act.put, List.getElem_toArray, List.getElem_cons_succ, List.getElem_cons_zero, List.setIfInBounds_toArray, List.set_cons_zero, List.set_cons_succ]
                    first
                      | (refine' wpAnyH_take (i := 11) (v := _) rfl (by kernel_rfl) (by kernel_rfl) (by kernel_rfl) (fun _ _ _ h => h) (yieldsIf_load_mid (by rfl) _ _ rfl _ _ rfl _ _ (fun w hSw => (by (first | exact RX _ hSw | exact RY _ hSw))) Tryd.underlying25 rfl (by first | assumption | kernel_rfl)) (by assumption) ?_)
                      | (refine wpAnyH_take (i := 11) (v := undef) rfl (by kernel_rfl) (by kernel_rfl) (by kernel_rfl) (fun _ _ _ h => h) (Or.inr ⟨by rfl, rfl⟩) (by assumption) ?_)
                      | fail
                    try simp only [Act.put, List.getElem_toArray, List.getElem_cons_succ, List.getElem_cons_zero, List.setIfInBounds_toArray, List.set_cons_zero, List.set_cons_succ]
                    first
                      | (refine wpAnyH_take (i := 12) (v := undef) rfl (by kernel_rfl) (by kernel_rfl) (by kernel_rfl) (fun _ _ _ h => h) (Or.inr ⟨by rfl, rfl⟩) (by assumption) ?_; try simp only [Act.put, List.getElem_toArray, List.getElem_cons_succ, List.getElem_cons_zero, List.setIfInBounds_toArray, List.set_cons_zero, List.set_cons_succ])
                      | (refine wpAnyH_ready (rs := [12]) (by kernel_rfl) (by simp) ?_; refine AllReadyH.cons rfl (fun K hK => ?_) AllReadyH.nil; go_simp; ((go_at_call 13; with_reducible refine (cB _ (by first | assumption | exact Below.drew (by assumption))).mono ?_; rintro e1 W1 ⟨rfl, g1⟩; replace g1 := Grew.trans' (a := wc) (by first | assumption | exact Below.drew (by assumption)) g1)); go_wp2_with fail; refine hK.out _ _ (by first | assumption | exact Below.drew (by assumption)) (fun hHeld => ?_); clear hK K; (try simp only [Act.put, List.getElem_toArray, List.getElem_cons_succ, List.getElem_cons_zero, List.setIfInBounds_toArray, List.set_cons_zero, List.set_cons_succ]))
                      | fail
                    first
                      | (refine wpAnyH_take (i := 13) (v := ?_) rfl (by kernel_rfl) (by kernel_rfl) (by kernel_rfl) (fun _ _ _ h => h) (Or.inl ⟨by rfl, ?_⟩) (by assumption) ?_; rotate_left 1; focus (intro w hSw; (try dsimp only at hSw); go_simp; (try with_reducible rfl)))
                      | fail
                    try simp only [Act.put, List.getElem_toArray, List.getElem_cons_succ, List.getElem_cons_zero, List.setIfInBounds_toArray, List.set_cons_zero, List.set_cons_succ]
                    refine wpAnyH_done (by kernel_rfl) ?_ _
                    have gW1 : Grew wc W1 := by assumption
                    have gwD : Grew w W1.drew := hgb.trans' (Below.drew gW1)
                    have rx24 := RX _ (Below.drew gW1)
                    have ry24 := RY _ (Below.drew gW1)
                    have own24 := OW.out.below (Below.drew gW1)
                    have hm1 : m + 1 < l2.length := by omega
                    clear RX RY cB
                    go_wp2
                    refine wp_region_held_drew (S := fun w' => True) (by kernel_rfl) (by trivial) (fun hHeld => ?_)
                    first
                      | (refine wpAnyH_take (i := 0) (v := ?_) rfl (by kernel_rfl) (by kernel_rfl) (by kernel_rfl) (fun _ _ _ h => h) (Or.inl ⟨by rfl, ?_⟩) (by assumption) ?_; rotate_left 1; focus (intro w hSw; (try dsimp only at hSw); go_simp; (try with_reducible rfl)))
                      | fail
                    try simp only [Act.put, List.getElem_toArray, List.getElem_cons_succ, List.getElem_cons_zero, List.setIfInBounds_toArray, List.set_cons_zero, List.set_cons_succ]
                    first
                      | (refine wpAnyH_take (i := 1) (v := ?_) rfl (by kernel_rfl) (by kernel_rfl) (by kernel_rfl) (fun _ _ _ h => h) (Or.inl ⟨by rfl, ?_⟩) (by assumption) ?_; rotate_left 1; focus (intro w hSw; (try dsimp only at hSw); go_simp; (try with_reducible rfl)))
                      | fail
                    try simp only [Act.put, List.getElem_toArray, List.getElem_cons_succ, List.getElem_cons_zero, List.setIfInBounds_toArray, List.set_cons_zero, List.set_cons_succ]
                    first
                      | (refine wpAnyH_take (i := 2) (v := ?_) rfl (by kernel_rfl) (by kernel_rfl) (by kernel_rfl) (fun _ _ _ h => h) (Or.inl ⟨by rfl, ?_⟩) (by assumption) ?_; rotate_left 1; focus (intro w hSw; (try dsimp only at hSw); go_simp; (try with_reducible rfl)))
                      | fail
                    try simp only [Act.put, List.getElem_toArray, List.getElem_cons_succ, List.getElem_cons_zero, List.setIfInBounds_toArray, List.set_cons_zero, List.set_cons_succ]
                    first
                      | (refine wpAnyH_take (i := 3) (v := ?_) rfl (by kernel_rfl) (by kernel_rfl) (by kernel_rfl) (fun _ _ _ h => h) (Or.inl ⟨by rfl, ?_⟩) (by assumption) ?_; rotate_left 1; focus (intro w hSw; (try dsimp only at hSw); go_simp; (try with_reducible rfl)))
                      | fail
                    try simp only [Act.put, List.getElem_toArray, List.getElem_cons_succ, List.getElem_cons_zero, List.setIfInBounds_toArray, List.set_cons_zero, List.set_cons_succ]
                    first
                      | (refine wpAnyH_take (i := 4) (v := ?_) rfl (by kernel_rfl) (by kernel_rfl) (by kernel_rfl) (fun _ _ _ h => h) (Or.inl ⟨by rfl, ?_⟩) (by assumption) ?_; rotate_left 1; focus (intro w hSw; (try dsimp only at hSw); go_simp; (try with_reducible rfl)))
                      | fail
                    try simp only [Act.put, List.getElem_toArray, List.getElem_cons_succ, List.getElem_cons_zero, List.setIfInBounds_toArray, List.set_cons_zero, List.set_cons_succ]
                    first
                      | (refine wpAnyH_take (i := 5) (v := ?_) rfl (by kernel_rfl) (by kernel_rfl) (by kernel_rfl) (fun _ _ _ h => h) (Or.inl ⟨by rfl, ?_⟩) (by assumption) ?_; rotate_left 1; focus (intro w hSw; (try dsimp only at hSw); go_simp; (try with_reducible rfl)))
                      | fail
                    try simp only [Act.put, List.getElem_toArray, List.getElem_cons_succ, List.getElem_cons_zero, List.setIfInBounds_toArray, List.set_cons_zero, List.set_cons_succ]
                    first
                      | (refine wpAnyH_take (i := 6) (v := ?_) rfl (by kernel_rfl) (by kernel_rfl) (by kernel_rfl) (fun _ _ _ h => h) (Or.inl ⟨by rfl, ?_⟩) (by assumption) ?_; rotate_left 1; focus (intro w hSw; (try dsimp only at hSw); go_simp; (try with_reducible rfl)))
                      | fail
                    try simp only [Act.put, List.getElem_toArray, List.getElem_cons_succ, List.getElem_cons_zero, List.setIfInBounds_toArray, List.set_cons_zero, List.set_cons_succ]
                    first
                      | (refine wpAnyH_take (i := 7) (v := ?_) rfl (by kernel_rfl) (by kernel_rfl) (by kernel_rfl) (fun _ _ _ h => h) (Or.inl ⟨by rfl, ?_⟩) (by assumption) ?_; rotate_left 1; focus (intro w hSw; (try dsimp only at hSw); go_simp; (try with_reducible rfl)))
                      | fail
                    try simp only [Act.put, List.getElem_toArray, List.getElem_cons_succ, List.getElem_cons_zero, List.setIfInBounds_toArray, List.set_cons_zero, List.set_cons_succ]
                    first
                      | (refine wpAnyH_take (i := 8) (v := ?_) rfl (by kernel_rfl) (by kernel_rfl) (by kernel_rfl) (fun _ _ _ h => h) (Or.inl ⟨by rfl, ?_⟩) (by assumption) ?_; rotate_left 1; focus (intro w hSw; (try dsimp only at hSw); go_simp; (try with_reducible rfl)))
                      | fail
                    try simp only [Act.put, List.getElem_toArray, List.getElem_cons_succ, List.getElem_cons_zero, List.setIfInBounds_toArray, List.set_cons_zero, List.set_cons_succ]
                    first
                      | (refine wpAnyH_take (i := 10) (v := ?_) rfl (by kernel_rfl) (by kernel_rfl) (by kernel_rfl) (fun _ _ _ h => h) (Or.inl ⟨by rfl, ?_⟩) (by assumption) ?_; rotate_left 1; focus (intro w hSw; (try dsimp only at hSw); go_simp; (try with_reducible rfl)))
                      | fail
                    try simp only [Act.put, List.getElem_toArray, List.getElem_cons_succ, List.getElem_cons_zero, List.setIfInBounds_toArray, List.set_cons_zero, List.set_cons_succ]
                    first
                      | (refine wpAnyH_take (i := 11) (v := ?_) rfl (by kernel_rfl) (by kernel_rfl) (by kernel_rfl) (fun _ _ _ h => h) (Or.inl ⟨by rfl, ?_⟩) (by assumption) ?_; rotate_left 1; focus (intro w hSw; (try dsimp only at hSw); go_simp; (try with_reducible rfl)))
                      | fail
                    try simp only [Act.put, List.getElem_toArray, List.getElem_cons_succ, List.getElem_cons_zero, List.setIfInBounds_toArray, List.set_cons_zero, List.set_cons_succ]
                    first
                      | (refine wpAnyH_take (i := 12) (v := ?_) rfl (by kernel_rfl) (by kernel_rfl) (by kernel_rfl) (fun _ _ _ h => h) (Or.inl ⟨by rfl, ?_⟩) (by assumption) ?_; rotate_left 1; focus (intro w hSw; (try dsimp only at hSw); go_simp; (try with_reducible rfl)))
                      | fail
                    try simp only [Act.put, List.getElem_toArray, List.getElem_cons_succ, List.getElem_cons_zero, List.setIfInBounds_toArray, List.set_cons_zero, List.set_cons_succ]
                    refine wpAnyH_ready (rs := [9, 13]) (by kernel_rfl) (by simp) ?_
                    refine AllReadyH.cons rfl (fun K hK => ?_) (AllReadyH.cons rfl (fun K hK => ?_) AllReadyH.nil)
                    · (refine step_load_at rfl 25 _ rfl g (m * 22) rfl x.cells _ rx24 Tryd.underlying25 rfl nfx ?_)
                      refine hK.out _ _ (by trivial) (fun hHeld => ?_)
                      clear hK K
                      try simp only [Act.put, List.getElem_toArray, List.getElem_cons_succ, List.getElem_cons_zero, List.setIfInBounds_toArray, List.set_cons_zero, List.set_cons_succ]
                      refine wpAnyH_ready (rs := [13]) (by kernel_rfl) (by simp) ?_
                      refine AllReadyH.cons rfl (fun K hK => ?_) AllReadyH.nil
                      (refine step_load_at rfl 25 _ rfl g ((m + 1) * 22) rfl y.cells _ ry24 Tryd.underlying25 rfl nfy ?_)
                      refine hK.out _ _ (by trivial) (fun hHeld => ?_)
                      clear hK K
                      try simp only [Act.put, List.getElem_toArray, List.getElem_cons_succ, List.getElem_cons_zero, List.setIfInBounds_toArray, List.set_cons_zero, List.set_cons_succ]
                      first
                        | (refine wpAnyH_take (i := 14) (v := ?_) rfl (by kernel_rfl) (by kernel_rfl) (by kernel_rfl) (fun _ _ _ h => h) (Or.inl ⟨by rfl, ?_⟩) (by assumption) ?_; rotate_left 1; focus (intro w hSw; (try dsimp only at hSw); go_simp; (try with_reducible rfl)))
                        | fail
                      try simp only [Act.put, List.getElem_toArray, List.getElem_cons_succ, List.getElem_cons_zero, List.setIfInBounds_toArray, List.set_cons_zero, List.set_cons_succ]
                      refine wpAnyH_ready (rs := [15]) (by kernel_rfl) (by simp) ?_
                      refine AllReadyH.cons rfl (fun K hK => ?_) AllReadyH.nil
                      (refine step_store_I rfl _ _ rfl w.heap.size g cv l2 (m + 1) x rfl rfl own24 hm1 hx20 ?_; intro w5 own5 hg5)
                      refine hK.out _ _ (by trivial) (fun hHeld => ?_)
                      clear hK K
                      try simp only [Act.put, List.getElem_toArray, List.getElem_cons_succ, List.getElem_cons_zero, List.setIfInBounds_toArray, List.set_cons_zero, List.set_cons_succ]
                      first
                        | (refine wpAnyH_take (i := 16) (v := ?_) rfl (by kernel_rfl) (by kernel_rfl) (by kernel_rfl) (fun _ _ _ h => h) (Or.inl ⟨by rfl, ?_⟩) (by assumption) ?_; rotate_left 1; focus (intro w hSw; (try dsimp only at hSw); go_simp; (try with_reducible rfl)))
                        | fail
                      try simp only [Act.put, List.getElem_toArray, List.getElem_cons_succ, List.getElem_cons_zero, List.setIfInBounds_toArray, List.set_cons_zero, List.set_cons_succ]
                      refine wpAnyH_ready (rs := [17]) (by kernel_rfl) (by simp) ?_
                      refine AllReadyH.cons rfl (fun K hK => ?_) AllReadyH.nil
                      (refine step_store_I rfl _ _ rfl w.heap.size g cv _ m y rfl rfl own5 (by simp; omega) hy20 ?_; intro w6 own6 hg6)
                      refine hK.out _ _ (by trivial) (fun hHeld => ?_)
                      clear hK K
                      try simp only [Act.put, List.getElem_toArray, List.getElem_cons_succ, List.getElem_cons_zero, List.setIfInBounds_toArray, List.set_cons_zero, List.set_cons_succ]
                      refine wpAnyH_done (by kernel_rfl) ?_ _
                      go_wp2
                      have g5 := gwD.grown hg5 gwD.size (fun q hq => by cases hq; exact hbg)
                      have g6 := g5.grown hg6 g5.size (fun q hq => by cases hq; exact hbg)
                      go_roundw
                      case rel => exact ⟨m, swapI l2 m x y, by go_num, by omega, g6, by have := own6; simpa [swapI, hll2] using this, by rw [swap_len]; exact hll2, hP2.out.perm (swap_perm HX.out HY.out), hBt.out.swap (by omega) HX.out HY.out HBB.out⟩
                      case measure => simp [intOf]
                    · (refine step_load_at rfl 25 _ rfl g ((m + 1) * 22) rfl y.cells _ ry24 Tryd.underlying25 rfl nfy ?_)
                      refine hK.out _ _ (by trivial) (fun hHeld => ?_)
                      clear hK K
                      try simp only [Act.put, List.getElem_toArray, List.getElem_cons_succ, List.getElem_cons_zero, List.setIfInBounds_toArray, List.set_cons_zero, List.set_cons_succ]
                      refine wpAnyH_ready (rs := [9]) (by kernel_rfl) (by simp) ?_
                      refine AllReadyH.cons rfl (fun K hK => ?_) AllReadyH.nil
                      (refine step_load_at rfl 25 _ rfl g (m * 22) rfl x.cells _ rx24 Tryd.underlying25 rfl nfx ?_)
                      refine hK.out _ _ (by trivial) (fun hHeld => ?_)
                      clear hK K
                      try simp only [Act.put, List.getElem_toArray, List.getElem_cons_succ, List.getElem_cons_zero, List.setIfInBounds_toArray, List.set_cons_zero, List.set_cons_succ]
                      first
                        | (refine wpAnyH_take (i := 14) (v := ?_) rfl (by kernel_rfl) (by kernel_rfl) (by kernel_rfl) (fun _ _ _ h => h) (Or.inl ⟨by rfl, ?_⟩) (by assumption) ?_; rotate_left 1; focus (intro w hSw; (try dsimp only at hSw); go_simp; (try with_reducible rfl)))
                        | fail
                      try simp only [Act.put, List.getElem_toArray, List.getElem_cons_succ, List.getElem_cons_zero, List.setIfInBounds_toArray, List.set_cons_zero, List.set_cons_succ]
                      refine wpAnyH_ready (rs := [15]) (by kernel_rfl) (by simp) ?_
                      refine AllReadyH.cons rfl (fun K hK => ?_) AllReadyH.nil
                      (refine step_store_I rfl _ _ rfl w.heap.size g cv l2 (m + 1) x rfl rfl own24 hm1 hx20 ?_; intro w5 own5 hg5)
                      refine hK.out _ _ (by trivial) (fun hHeld => ?_)
                      clear hK K
                      try simp only [Act.put, List.getElem_toArray, List.getElem_cons_succ, List.getElem_cons_zero, List.setIfInBounds_toArray, List.set_cons_zero, List.set_cons_succ]
                      first
                        | (refine wpAnyH_take (i := 16) (v := ?_) rfl (by kernel_rfl) (by kernel_rfl) (by kernel_rfl) (fun _ _ _ h => h) (Or.inl ⟨by rfl, ?_⟩) (by assumption) ?_; rotate_left 1; focus (intro w hSw; (try dsimp only at hSw); go_simp; (try with_reducible rfl)))
                        | fail
                      try simp only [Act.put, List.getElem_toArray, List.getElem_cons_succ, List.getElem_cons_zero, List.setIfInBounds_toArray, List.set_cons_zero, List.set_cons_succ]
                      refine wpAnyH_ready (rs := [17]) (by kernel_rfl) (by simp) ?_
                      refine AllReadyH.cons rfl (fun K hK => ?_) AllReadyH.nil
                      (refine step_store_I rfl _ _ rfl w.heap.size g cv _ m y rfl rfl own5 (by simp; omega) hy20 ?_; intro w6 own6 hg6)
                      refine hK.out _ _ (by trivial) (fun hHeld => ?_)
                      clear hK K
                      try simp only [Act.put, List.getElem_toArray, List.getElem_cons_succ, List.getElem_cons_zero, List.setIfInBounds_toArray, List.set_cons_zero, List.set_cons_succ]
                      refine wpAnyH_done (by kernel_rfl) ?_ _
                      go_wp2
                      have g5 := gwD.grown hg5 gwD.size (fun q hq => by cases hq; exact hbg)
                      have g6 := g5.grown hg6 g5.size (fun q hq => by cases hq; exact hbg)
                      go_roundw
                      case rel => exact ⟨m, swapI l2 m x y, by go_num, by omega, g6, by have := own6; simpa [swapI, hll2] using this, by rw [swap_len]; exact hll2, hP2.out.perm (swap_perm HX.out HY.out), hBt.out.swap (by omega) HX.out HY.out HBB.out⟩
                      case measure => simp [intOf]
            · have f5 : decide ((a : Int) < (n : Int)) = false := decide_eq_false (by omega)
              have han2 : a = l.length := by omega
              have hU2 : Upto l l.length := by rw [← han2]; exact hU.out
              have own3 : OwnI wb w.heap.size (.slice (some ⟨g, 0, none⟩) l.length cv) l := by rw [hll]; exact hown1
              have hne : l ≠ [] := by intro e; subst e; simp at hll; omega
              have hR := right_of hP1.out hU2 hne (by omega)
              have hff : ∀ x ∈ l, FineI x := fun x hx => (hP1.out.1 x hx).fine
              have hl30 : l.length ≤ 1073741824 := by omega
              have ca := (fun W g9 => awake08 W (HM.out.grew (hga.trans' g9)) (u8_grew HU.out (hga.trans' g9)) (HFO.out.grew (hga.trans' g9)) : ∀ W, Grew wb W → _)
              have hrd : RdI wb (some ⟨g, 0, none⟩) l := .inr ⟨g, 0, rfl, fun k x hx => by rw [Nat.zero_add]; exact own3.range hx⟩
              have cR := (fun W (g9 : Grew wb W) => tree_Right (some ⟨g, 0, none⟩) l cv W hl30 (hrd.grew g9) hff (HM.out.grew (hga.trans' g9)) (u8_grew HU.out (hga.trans' g9)) (HFO.out.grew (hga.trans' g9)))
              simp only [hll, hR] at cR
              have gbb : Grew wb wb := Below.refl _ _
              have OW := Lib.hid own3
              have HFF := Lib.hid hff
              have HU2 := Lib.hid hU2
              have HNE := Lib.hid hne
              have hm20 := Lib.hid (fun x hx => (hff x hx).1 : ∀ x ∈ l, x.id.length = 20)
              clear hU hR hrd hU2 hff hne own3 hown1 ha1 hl30
              cases t
              · by_cases h2 : n < 2
                · have f6 : decide ((n : Int) < 2) = true := decide_eq_true (by omega)
                  go_wp2_with (first | (go_at_call 9; with_reducible refine (ca _ (by assumption)).mono ?_; rintro e1 W1 ⟨rfl, g1⟩; replace g1 := Grew.trans' (a := wb) (by assumption) g1) | (go_at_call 14; with_reducible refine (cR _ (by assumption)).mono ?_; rintro e1 W1 ⟨rfl, g1⟩; replace g1 := Grew.trans' (a := wb) (by assumption) g1))
                  go_ret
                  exact ⟨rfl, hga.trans' (by assumption)⟩
                · have f6 : decide ((n : Int) < 2) = false := decide_eq_false (by omega)
                  obtain ⟨x, hx⟩ : ∃ x, l[0]? = some x := ⟨_, List.getElem?_eq_getElem (by omega)⟩
                  obtain ⟨y, hy⟩ : ∃ y, l[0 + 1]? = some y := ⟨_, List.getElem?_eq_getElem (by omega)⟩
                  have HX := Lib.hid hx
                  have HY := Lib.hid hy
                  have nfx := infoItem x (hm20.out x (List.mem_of_getElem? hx))
                  have nfy := infoItem y (hm20.out y (List.mem_of_getElem? hy))
                  clear hx hy
                  go_wp2_with (first | (go_at_call 9; with_reducible refine (ca _ (by assumption)).mono ?_; rintro e1 W1 ⟨rfl, g1⟩; replace g1 := Grew.trans' (a := wb) (by assumption) g1) | (go_at_call 14; with_reducible refine (cR _ (by assumption)).mono ?_; rintro e1 W1 ⟨rfl, g1⟩; replace g1 := Grew.trans' (a := wb) (by assumption) g1) | (at_builtin; refine wpList_append_Is rfl (.const (.slice none 0 0)) (.tmp 141) rfl w.heap.size _ [] l g n cv hll rfl rfl (OwnI.nil _ _) hm20.out (fun k x hx => range_grew (OW.out.range hx) (by assumption)) (Below.size (hga.trans' (by assumption))) (by simp; omega) ?_))
                  intro v4 w4 hown4 hb4 hg4
                  obtain ⟨g7, c7, e7, hbg7, -⟩ := hown4.form HNE.out
                  subst e7
                  have gw4 : Grew w w4 := Below.trans (hga.trans' (by assumption)) hb4
                  have rx4 := hown4.range HX.out
                  have ry4 := hown4.range HY.out
                  have own4 := hown4.below (Below.drew (Below.refl w4.heap.size w4))
                  have rx5 := range_grew rx4 (Below.drew (Below.refl w4.heap.size w4))
                  have ry5 := range_grew ry4 (Below.drew (Below.refl w4.heap.size w4))
                  rw [hll]
                  have hl0 : 0 < l.length := by omega
                  have hl1 : 1 < l.length := by omega
                  have hi1 : (1 : Int) < (n : Int) := by omega
                  have hi0 : (0 : Int) < (n : Int) := by omega
                  clear hown4 hb4 hg4 rx4 ry4 cR ca f5 f6
                  go_wp2
                  refine wp_region_held_drew (S := fun w' => True) (by kernel_rfl) (by trivial) (fun hHeld => ?_)
                  first
                    | (refine wpAnyH_take (i := 0) (v := ?_) rfl (by kernel_rfl) (by kernel_rfl) (by kernel_rfl) (fun _ _ _ h => h) (Or.inl ⟨by rfl, ?_⟩) (by assumption) ?_; rotate_left 1; focus (intro w hSw; (try dsimp only at hSw); go_simp; (try with_reducible rfl)))
                    | fail
                  try simp only [Act.put, List.getElem_toArray, List.getElem_cons_succ, List.getElem_cons_zero, List.setIfInBounds_toArray, List.set_cons_zero, List.set_cons_succ]
                  first
                    | (refine wpAnyH_take (i := 1) (v := ?_) rfl (by kernel_rfl) (by kernel_rfl) (by kernel_rfl) (fun _ _ _ h => h) (Or.inl ⟨by rfl, ?_⟩) (by assumption) ?_; rotate_left 1; focus (intro w hSw; (try dsimp only at hSw); go_simp; (try with_reducible rfl)))
                    | fail
                  try simp only [Act.put, List.getElem_toArray, List.getElem_cons_succ, List.getElem_cons_zero, List.setIfInBounds_toArray, List.set_cons_zero, List.set_cons_succ]
                  first
                    | (refine wpAnyH_take (i := 2) (v := ?_) rfl (by kernel_rfl) (by kernel_rfl) (by kernel_rfl) (fun _ _ _ h => h) (Or.inl ⟨by rfl, ?_⟩) (by assumption) ?_; rotate_left 1; focus (intro w hSw; (try dsimp only at hSw); go_simp; (try with_reducible rfl)))
                    | fail
                  try simp only [Act.put, List.getElem_toArray, List.getElem_cons_succ, List.getElem_cons_zero, List.setIfInBounds_toArray, List.set_cons_zero, List.set_cons_succ]
                  first
                    | (refine wpAnyH_take (i := 3) (v := ?_) rfl (by kernel_rfl) (by kernel_rfl) (by kernel_rfl) (fun _ _ _ h => h) (Or.inl ⟨by rfl, ?_⟩) (by assumption) ?_; rotate_left 1; focus (intro w hSw; (try dsimp only at hSw); go_simp; (try with_reducible rfl)))
                    | fail
                  try simp only [Act.put, List.getElem_toArray, List.getElem_cons_succ, List.getElem_cons_zero, List.setIfInBounds_toArray, List.set_cons_zero, List.set_cons_succ]
                  first
                    | (refine wpAnyH_take (i := 5) (v := ?_) rfl (by kernel_rfl) (by kernel_rfl) (by kernel_rfl) (fun _ _ _ h => h) (Or.inl ⟨by rfl, ?_⟩) (by assumption) ?_; rotate_left 1; focus (intro w hSw; (try dsimp only at hSw); go_simp; (try with_reducible rfl)))
                    | fail
                  try simp only [Act.put, List.getElem_toArray, List.getElem_cons_succ, List.getElem_cons_zero, List.setIfInBounds_toArray, List.set_cons_zero, List.set_cons_succ]
                  first
                    | (refine wpAnyH_take (i := 6) (v := ?_) rfl (by kernel_rfl) (by kernel_rfl) (by kernel_rfl) (fun _ _ _ h => h) (Or.inl ⟨by rfl, ?_⟩) (by assumption) ?_; rotate_left 1; focus (intro w hSw; (try dsimp only at hSw); go_simp; (try with_reducible rfl)))
                    | fail
                  try simp only [Act.put, List.getElem_toArray, List.getElem_cons_succ, List.getElem_cons_zero, List.setIfInBounds_toArray, List.set_cons_zero, List.set_cons_succ]
                  refine wpAnyH_ready (rs := [4, 7]) (by kernel_rfl) (by simp) ?_
                  refine AllReadyH.cons rfl (fun K hK => ?_) (AllReadyH.cons rfl (fun K hK => ?_) AllReadyH.nil)
                  · (refine step_load_at rfl 25 _ rfl g7 (1 * 22) rfl y.cells _ ry5 Tryd.underlying25 rfl nfy ?_)
                    refine hK.out _ _ (by trivial) (fun hHeld => ?_)
                    clear hK K
                    try simp only [Act.put, List.getElem_toArray, List.getElem_cons_succ, List.getElem_cons_zero, List.setIfInBounds_toArray, List.set_cons_zero, List.set_cons_succ]
                    refine wpAnyH_ready (rs := [7]) (by kernel_rfl) (by simp) ?_
                    refine AllReadyH.cons rfl (fun K hK => ?_) AllReadyH.nil
                    (refine step_load_at rfl 25 _ rfl g7 (0 * 22) rfl x.cells _ rx5 Tryd.underlying25 rfl nfx ?_)
                    refine hK.out _ _ (by trivial) (fun hHeld => ?_)
                    clear hK K
                    try simp only [Act.put, List.getElem_toArray, List.getElem_cons_succ, List.getElem_cons_zero, List.setIfInBounds_toArray, List.set_cons_zero, List.set_cons_succ]
                    first
                      | (refine wpAnyH_take (i := 8) (v := ?_) rfl (by kernel_rfl) (by kernel_rfl) (by kernel_rfl) (fun _ _ _ h => h) (Or.inl ⟨by rfl, ?_⟩) (by assumption) ?_; rotate_left 1; focus (intro w hSw; (try dsimp only at hSw); go_simp; (try with_reducible rfl)))
                      | fail
                    try simp only [Act.put, List.getElem_toArray, List.getElem_cons_succ, List.getElem_cons_zero, List.setIfInBounds_toArray, List.set_cons_zero, List.set_cons_succ]
                    refine wpAnyH_ready (rs := [9]) (by kernel_rfl) (by simp) ?_
                    refine AllReadyH.cons rfl (fun K hK => ?_) AllReadyH.nil
                    (refine step_store_I rfl _ _ rfl w.heap.size g7 c7 l 0 y rfl rfl own4 hl0 (hm20.out y (List.mem_of_getElem? HY.out)) ?_; intro w5 own5 hg5)
                    refine hK.out _ _ (by trivial) (fun hHeld => ?_)
                    clear hK K
                    try simp only [Act.put, List.getElem_toArray, List.getElem_cons_succ, List.getElem_cons_zero, List.setIfInBounds_toArray, List.set_cons_zero, List.set_cons_succ]
                    first
                      | (refine wpAnyH_take (i := 10) (v := ?_) rfl (by kernel_rfl) (by kernel_rfl) (by kernel_rfl) (fun _ _ _ h => h) (Or.inl ⟨by rfl, ?_⟩) (by assumption) ?_; rotate_left 1; focus (intro w hSw; (try dsimp only at hSw); go_simp; (try with_reducible rfl)))
                      | fail
                    try simp only [Act.put, List.getElem_toArray, List.getElem_cons_succ, List.getElem_cons_zero, List.setIfInBounds_toArray, List.set_cons_zero, List.set_cons_succ]
                    refine wpAnyH_ready (rs := [11]) (by kernel_rfl) (by simp) ?_
                    refine AllReadyH.cons rfl (fun K hK => ?_) AllReadyH.nil
                    (refine step_store_I rfl _ _ rfl w.heap.size g7 c7 _ 1 x rfl rfl own5 (by rw [List.length_set]; exact hl1) (hm20.out x (List.mem_of_getElem? HX.out)) ?_; intro w6 own6 hg6)
                    refine hK.out _ _ (by trivial) (fun hHeld => ?_)
                    clear hK K
                    try simp only [Act.put, List.getElem_toArray, List.getElem_cons_succ, List.getElem_cons_zero, List.setIfInBounds_toArray, List.set_cons_zero, List.set_cons_succ]
                    refine wpAnyH_done (by kernel_rfl) ?_ _
                    have g5 : Grew w w5 := (Below.drew gw4).grown hg5 (Below.drew gw4).size (fun q hq => by cases hq; exact hbg7)
                    have g6 : Grew w w6 := g5.grown hg6 g5.size (fun q hq => by cases hq; exact hbg7)
                    have hsw : (l.set 0 y).set 1 x = swapI l 0 x y := by unfold swapI; rw [List.set_comm _ _ (by omega)]
                    rw [hsw] at own6
                    have hRS := right_swapped HU2.out HX.out HY.out
                    have hpm := swap_perm HX.out HY.out
                    have hsl : (swapI l 0 x y).length = n := by rw [swap_len]; exact hll
                    have hPS := hP1.out.perm hpm
                    have hffS : ∀ z ∈ swapI l 0 x y, FineI z := fun z hz => (hPS.1 z hz).fine
                    have hneS : swapI l 0 x y ≠ [] := by intro e; rw [e] at hsl; simp at hsl; omega
                    generalize swapI l 0 x y = S at *
                    have hrdS : RdI w6 (some ⟨g7, 0, none⟩) S := .inr ⟨g7, 0, rfl, fun k x hx => by rw [Nat.zero_add]; exact own6.range hx⟩
                    have cP := tree_Print (some ⟨g7, 0, none⟩) S c7 w6 (by omega) hrdS hffS (HM.out.grew g6) (u8_grew HU.out g6) (HFO.out.grew g6)
                    have cR := (fun W (g9 : Grew w6 W) => tree_Right (some ⟨g7, 0, none⟩) S c7 W (by omega) (hrdS.grew g9) hffS (HM.out.grew (g6.trans' g9)) (u8_grew HU.out (g6.trans' g9)) (HFO.out.grew (g6.trans' g9)))
                    simp only [hsl, hRS] at cR
                    rw [hsl] at cP
                    have g66 : Grew w6 w6 := Below.refl _ _
                    have HRS := Lib.hid hRS
                    have HNS := Lib.hid hneS
                    clear own6 own5 own4 hg5 hg6 g5 gw4 hrdS hffS hPS hpm hsw rx5 ry5 hRS hneS
                    go_wp2_with fail
                    refine Calls.mono cP ?_
                    rintro e5 W5 ⟨g5, ⟨hn5, hb5, rfl⟩ | ⟨hn5, _, rfl⟩ | ⟨hn5, _, v5, rfl, _⟩⟩
                    · clear cP
                      go_wp2_with (first | (go_at_call 14; with_reducible refine (cR _ (by assumption)).mono ?_; rintro e1 W1 ⟨rfl, g1⟩; replace g1 := Grew.trans' (a := w6) (by assumption) g1))
                      go_ret
                      exact ⟨rfl, g6.trans' (by assumption)⟩
                    · rcases hn5 with h | h
                      · exact absurd h HNS.out
                      · rw [HRS.out] at h; cases h
                    · rcases hn5 with h | h
                      · exact absurd h HNS.out
                      · rw [HRS.out] at h; cases h
                  · (refine step_load_at rfl 25 _ rfl g7 (0 * 22) rfl x.cells _ rx5 Tryd.underlying25 rfl nfx ?_)
                    refine hK.out _ _ (by trivial) (fun hHeld => ?_)
                    clear hK K
                    try simp only [Act.put, List.getElem_toArray, List.getElem_cons_succ, List.getElem_cons_zero, List.setIfInBounds_toArray, List.set_cons_zero, List.set_cons_succ]
                    refine wpAnyH_ready (rs := [4]) (by kernel_rfl) (by simp) ?_
                    refine AllReadyH.cons rfl (fun K hK => ?_) AllReadyH.nil
                    (refine step_load_at rfl 25 _ rfl g7 (1 * 22) rfl y.cells _ ry5 Tryd.underlying25 rfl nfy ?_)
                    refine hK.out _ _ (by trivial) (fun hHeld => ?_)
                    clear hK K
                    try simp only [Act.put, List.getElem_toArray, List.getElem_cons_succ, List.getElem_cons_zero, List.setIfInBounds_toArray, List.set_cons_zero, List.set_cons_succ]
                    first
                      | (refine wpAnyH_take (i := 8) (v := ?_) rfl (by kernel_rfl) (by kernel_rfl) (by kernel_rfl) (fun _ _ _ h => h) (Or.inl ⟨by rfl, ?_⟩) (by assumption) ?_; rotate_left 1; focus (intro w hSw; (try dsimp only at hSw); go_simp; (try with_reducible rfl)))
                      | fail
                    try simp only [Act.put, List.getElem_toArray, List.getElem_cons_succ, List.getElem_cons_zero, List.setIfInBounds_toArray, List.set_cons_zero, List.set_cons_succ]
                    refine wpAnyH_ready (rs := [9]) (by kernel_rfl) (by simp) ?_
                    refine AllReadyH.cons rfl (fun K hK => ?_) AllReadyH.nil
                    (refine step_store_I rfl _ _ rfl w.heap.size g7 c7 l 0 y rfl rfl own4 hl0 (hm20.out y (List.mem_of_getElem? HY.out)) ?_; intro w5 own5 hg5)
                    refine hK.out _ _ (by trivial) (fun hHeld => ?_)
                    clear hK K
                    try simp only [Act.put, List.getElem_toArray, List.getElem_cons_succ, List.getElem_cons_zero, List.setIfInBounds_toArray, List.set_cons_zero, List.set_cons_succ]
                    first
                      | (refine wpAnyH_take (i := 10) (v := ?_) rfl (by kernel_rfl) (by kernel_rfl) (by kernel_rfl) (fun _ _ _ h => h) (Or.inl ⟨by rfl, ?_⟩) (by assumption) ?_; rotate_left 1; focus (intro w hSw; (try dsimp only at hSw); go_simp; (try with_reducible rfl)))
                      | fail
                    try simp only [Act.put, List.getElem_toArray, List.getElem_cons_succ, List.getElem_cons_zero, List.setIfInBounds_toArray, List.set_cons_zero, List.set_cons_succ]
                    refine wpAnyH_ready (rs := [11]) (by kernel_rfl) (by simp) ?_
                    refine AllReadyH.cons rfl (fun K hK => ?_) AllReadyH.nil
                    (refine step_store_I rfl _ _ rfl w.heap.size g7 c7 _ 1 x rfl rfl own5 (by rw [List.length_set]; exact hl1) (hm20.out x (List.mem_of_getElem? HX.out)) ?_; intro w6 own6 hg6)
                    refine hK.out _ _ (by trivial) (fun hHeld => ?_)
                    clear hK K
                    try simp only [Act.put, List.getElem_toArray, List.getElem_cons_succ, List.getElem_cons_zero, List.setIfInBounds_toArray, List.set_cons_zero, List.set_cons_succ]
                    refine wpAnyH_done (by kernel_rfl) ?_ _
                    have g5 : Grew w w5 := (Below.drew gw4).grown hg5 (Below.drew gw4).size (fun q hq => by cases hq; exact hbg7)
                    have g6 : Grew w w6 := g5.grown hg6 g5.size (fun q hq => by cases hq; exact hbg7)
                    have hsw : (l.set 0 y).set 1 x = swapI l 0 x y := by unfold swapI; rw [List.set_comm _ _ (by omega)]
                    rw [hsw] at own6
                    have hRS := right_swapped HU2.out HX.out HY.out
                    have hpm := swap_perm HX.out HY.out
                    have hsl : (swapI l 0 x y).length = n := by rw [swap_len]; exact hll
                    have hPS := hP1.out.perm hpm
                    have hffS : ∀ z ∈ swapI l 0 x y, FineI z := fun z hz => (hPS.1 z hz).fine
                    have hneS : swapI l 0 x y ≠ [] := by intro e; rw [e] at hsl; simp at hsl; omega
                    generalize swapI l 0 x y = S at *
                    have hrdS : RdI w6 (some ⟨g7, 0, none⟩) S := .inr ⟨g7, 0, rfl, fun k x hx => by rw [Nat.zero_add]; exact own6.range hx⟩
                    have cP := tree_Print (some ⟨g7, 0, none⟩) S c7 w6 (by omega) hrdS hffS (HM.out.grew g6) (u8_grew HU.out g6) (HFO.out.grew g6)
                    have cR := (fun W (g9 : Grew w6 W) => tree_Right (some ⟨g7, 0, none⟩) S c7 W (by omega) (hrdS.grew g9) hffS (HM.out.grew (g6.trans' g9)) (u8_grew HU.out (g6.trans' g9)) (HFO.out.grew (g6.trans' g9)))
                    simp only [hsl, hRS] at cR
                    rw [hsl] at cP
                    have g66 : Grew w6 w6 := Below.refl _ _
                    have HRS := Lib.hid hRS
                    have HNS := Lib.hid hneS
                    clear own6 own5 own4 hg5 hg6 g5 gw4 hrdS hffS hPS hpm hsw rx5 ry5 hRS hneS
                    go_wp2_with fail
                    refine Calls.mono cP ?_
                    rintro e5 W5 ⟨g5, ⟨hn5, hb5, rfl⟩ | ⟨hn5, _, rfl⟩ | ⟨hn5, _, v5, rfl, _⟩⟩
                    · clear cP
                      go_wp2_with (first | (go_at_call 14; with_reducible refine (cR _ (by assumption)).mono ?_; rintro e1 W1 ⟨rfl, g1⟩; replace g1 := Grew.trans' (a := w6) (by assumption) g1))
                      go_ret
                      exact ⟨rfl, g6.trans' (by assumption)⟩
                    · rcases hn5 with h | h
                      · exact absurd h HNS.out
                      · rw [HRS.out] at h; cases h
                    · rcases hn5 with h | h
                      · exact absurd h HNS.out
                      · rw [HRS.out] at h; cases h
              · obtain ⟨Z, hZ⟩ : ∃ Z, l[n - 1]? = some Z := ⟨_, List.getElem?_eq_getElem (by omega)⟩
                obtain ⟨n1, rfl⟩ : ∃ n1, n = n1 + 1 := ⟨n - 1, by omega⟩
                rw [Nat.add_sub_cancel] at hZ
                have hz20 := hm20.out Z (List.mem_of_getElem? hZ)
                have hZf := HFF.out Z (List.mem_of_getElem? hZ)
                have nfZ := infoItem Z hz20
                have hRT := right_twice (List.mem_of_getElem? hZ)
                have HRT := Lib.hid hRT
                have hffZ : ∀ x ∈ l ++ [Z], FineI x := by
                  intro x hx
                  rcases List.mem_append.1 hx with h | h
                  · exact HFF.out x h
                  · simp at h; subst h; exact hZf
                have HZ2 := Lib.hid hZ
                have hw1 : (0 : Int) < (n1 : Int) + 1 := by omega
                have hw2 : (0 : Int) ≤ (n1 : Int) := by omega
                have hw3 : IntKind.i64.wrap (n1 : Int) = (n1 : Int) := IntWalk.i64_in _ (by omega)
                have hw4 : (n1 : Int) < (n1 : Int) + 1 := by omega
                clear hZ hRT
                go_wp2_with (first | (go_at_call 9; with_reducible refine (ca _ (by assumption)).mono ?_; rintro e1 W1 ⟨rfl, g1⟩; replace g1 := Grew.trans' (a := wb) (by assumption) g1) | (go_at_call 14; with_reducible refine (cR _ (by assumption)).mono ?_; rintro e1 W1 ⟨rfl, g1⟩; replace g1 := Grew.trans' (a := wb) (by assumption) g1))
                obtain ⟨ws, hws⟩ : ∃ W : World, W = W1 := ⟨_, rfl⟩
                have gbs : Grew wb ws := by rw [hws]; assumption
                rw [← hws]
                have gss : Grew ws ws := Below.refl _ _
                have gws := hga.trans' gbs
                have ows := OW.out.below gbs
                have RZ : ∀ W, Grew ws W → W.rangeAt g (n1 * 22) Z.cells := fun W g => range_grew (ows.range HZ2.out) g
                have OWS := Lib.hid ows
                have HWS := Lib.hid hws
                clear hws ows cR ca f5
                refine wp_region_held_drew (S := fun w' => Grew ws w') (by kernel_rfl) (by first | assumption | exact Below.drew (by assumption) | (refine Grew.trans' (by first | assumption | exact Below.drew (by assumption)) ((Below.refl _ _).alloc (Nat.le_refl _) _))) (fun hHeld => ?_)
                first
                  | (refine wpAnyH_take (i := 0) (v := ?_) rfl (by kernel_rfl) (by kernel_rfl) (by kernel_rfl) (fun _ _ _ h => h) (Or.inl ⟨by rfl, ?_⟩) (by assumption) ?_; rotate_left 1; focus (intro w hSw; (try dsimp only at hSw); go_simp; (try with_reducible rfl)))
                  | fail
                try simp only [Act.put, List.getElem_toArray, List.getElem_cons_succ, List.getElem_cons_zero, List.setIfInBounds_toArray, List.set_cons_zero, List.set_cons_succ]
                first
                  | (refine wpAnyH_take (i := 2) (v := ?_) rfl (by kernel_rfl) (by kernel_rfl) (by kernel_rfl) (fun _ _ _ h => h) (Or.inl ⟨by rfl, ?_⟩) (by assumption) ?_; rotate_left 1; focus (intro w hSw; (try dsimp only at hSw); go_simp; (try with_reducible rfl)))
                  | fail
                try simp only [Act.put, List.getElem_toArray, List.getElem_cons_succ, List.getElem_cons_zero, List.setIfInBounds_toArray, List.set_cons_zero, List.set_cons_succ]
                first
                  | (refine wpAnyH_take (i := 3) (v := ?_) rfl (by kernel_rfl) (by kernel_rfl) (by kernel_rfl) (fun _ _ _ h => h) (Or.inl ⟨by rfl, ?_⟩) (by assumption) ?_; rotate_left 1; focus (intro w hSw; (try dsimp only at hSw); go_simp; (try with_reducible rfl)))
                  | fail
                try simp only [Act.put, List.getElem_toArray, List.getElem_cons_succ, List.getElem_cons_zero, List.setIfInBounds_toArray, List.set_cons_zero, List.set_cons_succ]
                first
                  | (refine wpAnyH_take (i := 4) (v := ?_) rfl (by kernel_rfl) (by kernel_rfl) (by kernel_rfl) (fun _ _ _ h => h) (Or.inl ⟨by rfl, ?_⟩) (by assumption) ?_; rotate_left 1; focus (intro w hSw; (try dsimp only at hSw); go_simp; (try with_reducible rfl)))
                  | fail
                try simp only [Act.put, List.getElem_toArray, List.getElem_cons_succ, List.getElem_cons_zero, List.setIfInBounds_toArray, List.set_cons_zero, List.set_cons_succ]
                first
                  | (refine wpAnyH_take (i := 5) (v := ?_) rfl (by kernel_rfl) (by kernel_rfl) (by kernel_rfl) (fun _ _ _ h => h) (Or.inl ⟨by rfl, ?_⟩) (by assumption) ?_; rotate_left 1; focus (intro w hSw; (try dsimp only at hSw); go_simp; (try with_reducible rfl)))
                  | fail
                try simp only [Act.put, List.getElem_toArray, List.getElem_cons_succ, List.getElem_cons_zero, List.setIfInBounds_toArray, List.set_cons_zero, List.set_cons_succ]
                first
                  | (refine wpAnyH_take (i := 6) (v := ?_) rfl (by kernel_rfl) (by kernel_rfl) (by kernel_rfl) (fun _ _ _ h => h) (Or.inl ⟨by rfl, ?_⟩) (by assumption) ?_; rotate_left 1; focus (intro w hSw; (try dsimp only at hSw); go_simp; (try with_reducible rfl)))
                  | fail
                try simp only [Act.put, List.getElem_toArray, List.getElem_cons_succ, List.getElem_cons_zero, List.setIfInBounds_toArray, List.set_cons_zero, List.set_cons_succ]
                first
                  | (refine' wpAnyH_take (i := 7) (v := _) rfl (by kernel_rfl) (by kernel_rfl) (by kernel_rfl) (fun _ _ _ h => h) (yieldsIf_load_mid (by rfl) _ _ rfl _ _ rfl _ _ (fun w hSw => (by (first | exact RZ _ hSw))) Tryd.underlying25 rfl (by first | assumption | kernel_rfl)) (by assumption) ?_)
                  | fail
                try simp only [Act.put, List.getElem_toArray, List.getElem_cons_succ, List.getElem_cons_zero, List.setIfInBounds_toArray, List.set_cons_zero, List.set_cons_succ]
                refine wpAnyH_ready (rs := [1, 8]) (by kernel_rfl) (by simp) ?_
                refine AllReadyH.cons rfl (fun K hK => ?_) (AllReadyH.cons rfl (fun K hK => ?_) AllReadyH.nil)
                · (refine step_append_Is rfl _ _ rfl ws.heap.size _ [] l g (n1 + 1) cv hll rfl rfl (OwnI.nil _ _) hm20.out (fun k x hx => range_grew (OWS.out.range hx) (by first | assumption | exact Below.drew (by assumption))) (Below.size (by first | assumption | exact Below.drew (by assumption))) (by simp; omega) ?_; intro v4 w4 hown4 hb4 hg4; have q4 : Grew ws w4 := Below.trans (by first | assumption | exact Below.drew (by assumption)) hb4)
                  refine hK.out _ _ (by first | assumption | exact Below.drew (by assumption) | (refine Grew.trans' (by first | assumption | exact Below.drew (by assumption)) ((Below.refl _ _).alloc (Nat.le_refl _) _))) (fun hHeld => ?_)
                  clear hK K
                  try simp only [Act.put, List.getElem_toArray, List.getElem_cons_succ, List.getElem_cons_zero, List.setIfInBounds_toArray, List.set_cons_zero, List.set_cons_succ]
                  refine wpAnyH_ready (rs := [8]) (by kernel_rfl) (by simp) ?_
                  refine AllReadyH.cons rfl (fun K hK => ?_) AllReadyH.nil
                  (refine step_run rfl _ _ (exec_buildSlice _ _ _ rfl _ (run_slice_item Z hz20 _)) ?_)
                  refine hK.out _ _ (by first | assumption | exact Below.drew (by assumption) | (refine Grew.trans' (by first | assumption | exact Below.drew (by assumption)) ((Below.refl _ _).alloc (Nat.le_refl _) _))) (fun hHeld => ?_)
                  clear hK K
                  try simp only [Act.put, List.getElem_toArray, List.getElem_cons_succ, List.getElem_cons_zero, List.setIfInBounds_toArray, List.set_cons_zero, List.set_cons_succ]
                  refine wpAnyH_ready (rs := [9]) (by kernel_rfl) (by simp) ?_
                  refine AllReadyH.cons rfl (fun K hK => ?_) AllReadyH.nil
                  (refine step_append_I rfl _ _ rfl ws.heap.size _ l Z _ rfl rfl (by first | exact hown4 | exact hown4.below ((Below.refl _ _).alloc (Nat.le_refl _) _)) hz20 (by first | exact row_new _ Z | exact range_grown (row_new _ Z) hg4 (show (none : Option Nat) ≠ some _ from fun e => by cases e)) (Below.size (by first | assumption | exact Below.drew (by assumption))) (by omega) ?_; intro v5 w5 hown5 hb5 hg5; have q5 : Grew ws w5 := Below.trans (by first | assumption | exact Below.drew (by assumption)) hb5; obtain ⟨g8, c8, e8, hg8, -⟩ := hown5.form (by simp); have hl8 : (l ++ [Z]).length = n1 + 1 + 1 := (by simp; omega); rw [hl8] at e8; subst e8)
                  refine hK.out _ _ (by first | assumption | exact Below.drew (by assumption) | (refine Grew.trans' (by first | assumption | exact Below.drew (by assumption)) ((Below.refl _ _).alloc (Nat.le_refl _) _))) (fun hHeld => ?_)
                  clear hK K
                  try simp only [Act.put, List.getElem_toArray, List.getElem_cons_succ, List.getElem_cons_zero, List.setIfInBounds_toArray, List.set_cons_zero, List.set_cons_succ]
                  refine wpAnyH_ready (rs := [10]) (by kernel_rfl) (by simp) ?_
                  refine AllReadyH.cons rfl (fun K hK => ?_) AllReadyH.nil
                  go_simp
                  (have cR9 := (fun W (g9 : Grew w5 W) => tree_Right (some ⟨g8, 0, none⟩) (l ++ [Z]) c8 W (by omega) (.inr ⟨g8, 0, rfl, fun k x hx => by rw [Nat.zero_add]; exact range_grew (OwnI.range (cap := c8) (by rw [hl8]; exact hown5) hx) g9⟩) hffZ (HM.out.grew (gws.trans' (q5.trans' g9))) (u8_grew HU.out (gws.trans' (q5.trans' g9))) (HFO.out.grew (gws.trans' (q5.trans' g9)))); simp only [hl8, HRT.out] at cR9; go_at_call 14; with_reducible refine (cR9 _ (Below.refl _ _)).mono ?_; rintro e1 W9 ⟨rfl, g9⟩; replace g9 := q5.trans' g9)
                  go_wp2_with fail
                  refine hK.out _ _ (by first | assumption | exact Below.drew (by assumption) | (refine Grew.trans' (by first | assumption | exact Below.drew (by assumption)) ((Below.refl _ _).alloc (Nat.le_refl _) _))) (fun hHeld => ?_)
                  clear hK K
                  try simp only [Act.put, List.getElem_toArray, List.getElem_cons_succ, List.getElem_cons_zero, List.setIfInBounds_toArray, List.set_cons_zero, List.set_cons_succ]
                  first
                    | (refine wpAnyH_take (i := 11) (v := ?_) rfl (by kernel_rfl) (by kernel_rfl) (by kernel_rfl) (fun _ _ _ h => h) (Or.inl ⟨by rfl, ?_⟩) (by assumption) ?_; rotate_left 1; focus (intro w hSw; (try dsimp only at hSw); go_simp; (try with_reducible rfl)))
                    | fail
                  try simp only [Act.put, List.getElem_toArray, List.getElem_cons_succ, List.getElem_cons_zero, List.setIfInBounds_toArray, List.set_cons_zero, List.set_cons_succ]
                  first
                    | (refine wpAnyH_take (i := 12) (v := ?_) rfl (by kernel_rfl) (by kernel_rfl) (by kernel_rfl) (fun _ _ _ h => h) (Or.inl ⟨by rfl, ?_⟩) (by assumption) ?_; rotate_left 1; focus (intro w hSw; (try dsimp only at hSw); go_simp; (try with_reducible rfl)))
                    | fail
                  try simp only [Act.put, List.getElem_toArray, List.getElem_cons_succ, List.getElem_cons_zero, List.setIfInBounds_toArray, List.set_cons_zero, List.set_cons_succ]
                  refine wpAnyH_done (by kernel_rfl) ?_ _
                  go_wp2
                  go_ret
                  exact ⟨rfl, gws.trans' (by assumption)⟩
                · (refine step_run rfl _ _ (exec_buildSlice _ _ _ rfl _ (run_slice_item Z hz20 _)) ?_)
                  refine hK.out _ _ (by first | assumption | exact Below.drew (by assumption) | (refine Grew.trans' (by first | assumption | exact Below.drew (by assumption)) ((Below.refl _ _).alloc (Nat.le_refl _) _))) (fun hHeld => ?_)
                  clear hK K
                  try simp only [Act.put, List.getElem_toArray, List.getElem_cons_succ, List.getElem_cons_zero, List.setIfInBounds_toArray, List.set_cons_zero, List.set_cons_succ]
                  refine wpAnyH_ready (rs := [1]) (by kernel_rfl) (by simp) ?_
                  refine AllReadyH.cons rfl (fun K hK => ?_) AllReadyH.nil
                  (refine step_append_Is rfl _ _ rfl ws.heap.size _ [] l g (n1 + 1) cv hll rfl rfl (OwnI.nil _ _) hm20.out (fun k x hx => range_grew (OWS.out.range hx) (by first | assumption | exact Below.drew (by assumption))) (Below.size (by first | assumption | exact Below.drew (by assumption))) (by simp; omega) ?_; intro v4 w4 hown4 hb4 hg4; have q4 : Grew ws w4 := Below.trans (by first | assumption | exact Below.drew (by assumption)) hb4)
                  refine hK.out _ _ (by first | assumption | exact Below.drew (by assumption) | (refine Grew.trans' (by first | assumption | exact Below.drew (by assumption)) ((Below.refl _ _).alloc (Nat.le_refl _) _))) (fun hHeld => ?_)
                  clear hK K
                  try simp only [Act.put, List.getElem_toArray, List.getElem_cons_succ, List.getElem_cons_zero, List.setIfInBounds_toArray, List.set_cons_zero, List.set_cons_succ]
                  refine wpAnyH_ready (rs := [9]) (by kernel_rfl) (by simp) ?_
                  refine AllReadyH.cons rfl (fun K hK => ?_) AllReadyH.nil
                  (refine step_append_I rfl _ _ rfl ws.heap.size _ l Z _ rfl rfl (by first | exact hown4 | exact hown4.below ((Below.refl _ _).alloc (Nat.le_refl _) _)) hz20 (by first | exact row_new _ Z | exact range_grown (row_new _ Z) hg4 (show (none : Option Nat) ≠ some _ from fun e => by cases e)) (Below.size (by first | assumption | exact Below.drew (by assumption))) (by omega) ?_; intro v5 w5 hown5 hb5 hg5; have q5 : Grew ws w5 := Below.trans (by first | assumption | exact Below.drew (by assumption)) hb5; obtain ⟨g8, c8, e8, hg8, -⟩ := hown5.form (by simp); have hl8 : (l ++ [Z]).length = n1 + 1 + 1 := (by simp; omega); rw [hl8] at e8; subst e8)
                  refine hK.out _ _ (by first | assumption | exact Below.drew (by assumption) | (refine Grew.trans' (by first | assumption | exact Below.drew (by assumption)) ((Below.refl _ _).alloc (Nat.le_refl _) _))) (fun hHeld => ?_)
                  clear hK K
                  try simp only [Act.put, List.getElem_toArray, List.getElem_cons_succ, List.getElem_cons_zero, List.setIfInBounds_toArray, List.set_cons_zero, List.set_cons_succ]
                  refine wpAnyH_ready (rs := [10]) (by kernel_rfl) (by simp) ?_
                  refine AllReadyH.cons rfl (fun K hK => ?_) AllReadyH.nil
                  go_simp
                  (have cR9 := (fun W (g9 : Grew w5 W) => tree_Right (some ⟨g8, 0, none⟩) (l ++ [Z]) c8 W (by omega) (.inr ⟨g8, 0, rfl, fun k x hx => by rw [Nat.zero_add]; exact range_grew (OwnI.range (cap := c8) (by rw [hl8]; exact hown5) hx) g9⟩) hffZ (HM.out.grew (gws.trans' (q5.trans' g9))) (u8_grew HU.out (gws.trans' (q5.trans' g9))) (HFO.out.grew (gws.trans' (q5.trans' g9)))); simp only [hl8, HRT.out] at cR9; go_at_call 14; with_reducible refine (cR9 _ (Below.refl _ _)).mono ?_; rintro e1 W9 ⟨rfl, g9⟩; replace g9 := q5.trans' g9)
                  go_wp2_with fail
                  refine hK.out _ _ (by first | assumption | exact Below.drew (by assumption) | (refine Grew.trans' (by first | assumption | exact Below.drew (by assumption)) ((Below.refl _ _).alloc (Nat.le_refl _) _))) (fun hHeld => ?_)
                  clear hK K
                  try simp only [Act.put, List.getElem_toArray, List.getElem_cons_succ, List.getElem_cons_zero, List.setIfInBounds_toArray, List.set_cons_zero, List.set_cons_succ]
                  first
                    | (refine wpAnyH_take (i := 11) (v := ?_) rfl (by kernel_rfl) (by kernel_rfl) (by kernel_rfl) (fun _ _ _ h => h) (Or.inl ⟨by rfl, ?_⟩) (by assumption) ?_; rotate_left 1; focus (intro w hSw; (try dsimp only at hSw); go_simp; (try with_reducible rfl)))
                    | fail
                  try simp only [Act.put, List.getElem_toArray, List.getElem_cons_succ, List.getElem_cons_zero, List.setIfInBounds_toArray, List.set_cons_zero, List.set_cons_succ]
                  first
                    | (refine wpAnyH_take (i := 12) (v := ?_) rfl (by kernel_rfl) (by kernel_rfl) (by kernel_rfl) (fun _ _ _ h => h) (Or.inl ⟨by rfl, ?_⟩) (by assumption) ?_; rotate_left 1; focus (intro w hSw; (try dsimp only at hSw); go_simp; (try with_reducible rfl)))
                    | fail
                  try simp only [Act.put, List.getElem_toArray, List.getElem_cons_succ, List.getElem_cons_zero, List.setIfInBounds_toArray, List.set_cons_zero, List.set_cons_succ]
                  refine wpAnyH_done (by kernel_rfl) ?_ _
                  go_wp2
                  go_ret
                  exact ⟨rfl, gws.trans' (by assumption)⟩

end Go.Proofs.YtpgcjljaokopaaaDoor

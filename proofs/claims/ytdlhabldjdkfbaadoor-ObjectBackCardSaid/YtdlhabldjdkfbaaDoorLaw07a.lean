/- The laws of layer 7, walked: awake, ObjectLimit. Conditions: the library's table of powers of ten is laid. -/
import Derived.Test.YtdlhabldjdkfbaaDoorObj4
import Derived.Test.YtdlhabldjdkfbaaDoorConst
import Derived.Test.YtdlhabldjdkfbaaDoorIds
namespace Go.Proofs.YtdlhabldjdkfbaaDoor
set_option linter.unusedVariables false
set_option linter.unusedSimpArgs false
open Go.RowKit

theorem bytes_hi : Pure.bytesO 1 [104, 105] = [98, 108, 111, 98, 32, 50, 0, 104, 105] := by decide +kernel

set_option maxRecDepth 100000 in
set_option maxHeartbeats 1000000 in
theorem awake07 (w : World) (hT : TabOk w) :
    Calls Tryd.prog 8 #[] w fun e w' => e = .returned (.bool true) ∧ Grew w w' := by
  have kc := conv_const
  obtain ⟨W1, hW1, g1, r1, -⟩ := const_row w [104, 105] #[.int .u8 104, .int .u8 105] 2 (2, 3) rfl rfl (by decide) (by decide)
  have cP := object_Print 1 (some ⟨w.heap.size, 0, none⟩) [104, 105] 2 W1 (by decide) r1 (hT.grew g1)
  clear r1
  go_enter Tryd.func8, Tryd.ntmps8
  go_wp2_with fail
  go_fit cP
  rintro e3 W3 ⟨g3, ⟨hw, _⟩ | ⟨_, hbig, _⟩ | ⟨_, hsm, v3, rfl, hown⟩⟩
  · exact absurd hw (by decide)
  · exact absurd hbig (by decide)
  · rw [bytes_hi] at hown
    obtain ⟨q3, d3, rfl, hr3, -, -⟩ := hown.val
    have k1 := conv_string d3 hr3
    rw [show ([98, 108, 111, 98, 32, 50, 0, 104, 105] : List UInt8).length = 9 from rfl] at k1 ⊢
    clear cP hown hr3
    go_wp2
    go_ret
    exact ⟨rfl, g1.trans' g3⟩

set_option maxRecDepth 100000 in
set_option maxHeartbeats 1000000 in
theorem object_Id_bad (k : Int) (p : Option Addr) (cap : Nat) (w : World) (hw : Pure.wordO k = []) (hT : TabOk w) :
    Calls Tryd.prog 9 #[.agg #[.int .i64 k, .slice p 0 cap]] w fun e w' => e = .returned (idV zeros20) ∧ Grew w w' := by
  obtain ⟨W0, hW0, gw0, g0, hq⟩ := boxed w #[.int .i64 k, .slice p 0 cap] 27
  obtain ⟨W1, hW1, g01, g1, -⟩ := boxed W0 (Lib.byteCells zeros20).toArray 30
  have hz0 := heap_alloc_new W0 (.cells (Lib.byteCells zeros20).toArray 30)
  rw [hW1] at hz0
  rw [show (Lib.byteCells zeros20).toArray = #[.int .u8 0, .int .u8 0, .int .u8 0, .int .u8 0, .int .u8 0, .int .u8 0, .int .u8 0, .int .u8 0, .int .u8 0, .int .u8 0, .int .u8 0, .int .u8 0, .int .u8 0, .int .u8 0, .int .u8 0, .int .u8 0, .int .u8 0, .int .u8 0, .int .u8 0, .int .u8 0] from rfl] at hW1
  have q0 := fun W g => hq W g 0 _ rfl
  have q1 := fun W g => hq W g 1 _ rfl
  have gw1 := gw0.trans' g01
  have hs := gw0.size
  have cP := object_Print k p [] cap W1 (by decide) (.inl rfl) (hT.grew gw1)
  clear hq
  go_enter Tryd.func9, Tryd.ntmps9
  go_wp2_with fail
  go_fit cP
  rintro e3 W3 ⟨g3, ⟨_, rfl⟩ | ⟨hn, _, _⟩ | ⟨hn, _⟩⟩
  · have hblk := (g3.block W0.heap.size (Array.getElem?_eq_some_iff.1 hz0).1).trans hz0
    clear cP hz0
    go_wp2_with (first | refine wpList_store_row rfl 30 _ _ rfl W0.heap.size (Lib.byteCells zeros20).toArray rfl rfl 30 _ hblk (infoId'' rfl) rfl (one_bytes _) ?_)
    refine bodyPost_ret (results_cell_mid Tryd.results9 _ _ W0.heap.size 0 (Lib.byteCells zeros20) _ rfl (range_setRow hblk _) Tryd.underlying30 rfl (infoId' rfl)) rfl ?_
    exact ⟨rfl, below_setRow (gw1.trans' g3) hs _⟩
  · exact absurd hw hn
  · exact absurd hw hn

/-- The kinds that are none. -/
theorem word_bad (k : Int) (h : k < 1 ∨ 3 < k) : Pure.wordO k = [] := by unfold Pure.wordO; rw [if_neg (by omega), if_neg (by omega), if_neg (by omega)]

theorem eq_zeros (W : World) : (binOp .eql 30 (.agg #[.int .u8 0, .int .u8 0, .int .u8 0, .int .u8 0, .int .u8 0, .int .u8 0, .int .u8 0, .int .u8 0, .int .u8 0, .int .u8 0, .int .u8 0, .int .u8 0, .int .u8 0, .int .u8 0, .int .u8 0, .int .u8 0, .int .u8 0, .int .u8 0, .int .u8 0, .int .u8 0]) (.agg #[.int .u8 0, .int .u8 0, .int .u8 0, .int .u8 0, .int .u8 0, .int .u8 0, .int .u8 0, .int .u8 0, .int .u8 0, .int .u8 0, .int .u8 0, .int .u8 0, .int .u8 0, .int .u8 0, .int .u8 0, .int .u8 0, .int .u8 0, .int .u8 0, .int .u8 0, .int .u8 0])).run Tryd.prog W = .ok (.bool true) W := (eql_id zeros20 zeros20 rfl rfl W).trans (by rw [show (zeros20 == zeros20) = true from by decide])
theorem guard_zeros (op : BinOp) (x y : Operand) (W : World) : (eqGuard op 30 x y (.agg #[.int .u8 0, .int .u8 0, .int .u8 0, .int .u8 0, .int .u8 0, .int .u8 0, .int .u8 0, .int .u8 0, .int .u8 0, .int .u8 0, .int .u8 0, .int .u8 0, .int .u8 0, .int .u8 0, .int .u8 0, .int .u8 0, .int .u8 0, .int .u8 0, .int .u8 0, .int .u8 0]) (.agg #[.int .u8 0, .int .u8 0, .int .u8 0, .int .u8 0, .int .u8 0, .int .u8 0, .int .u8 0, .int .u8 0, .int .u8 0, .int .u8 0, .int .u8 0, .int .u8 0, .int .u8 0, .int .u8 0, .int .u8 0, .int .u8 0, .int .u8 0, .int .u8 0, .int .u8 0, .int .u8 0])).run Tryd.prog W = .ok () W := guard_id op x y zeros20 zeros20 W

set_option maxRecDepth 100000 in
set_option maxHeartbeats 2000000 in
theorem law_ObjectLimit (b : Bool) (k : Int) (w : World) (hk0 : -9223372036854775808 ≤ k) (hk1 : k ≤ 9223372036854775807) (hT : TabOk w) :
    Calls Tryd.prog 3 #[.bool b, .int .i64 k] w fun e w' => e = .returned (.bool true) ∧ Grew w w' := by
  obtain ⟨n, hn⟩ : ∃ n : Nat, n = if b = true then 65537 else 65536 := ⟨_, rfl⟩
  obtain ⟨L, hL, -, W1, hmk, g1, r1, -⟩ := make_zeros n (if b = true then 65537 else 65536) (by rw [hn]; cases b <;> rfl) (by rw [hn]; cases b <;> decide) w
  have ca := (fun W g => awake07 W (hT.grew g) : ∀ W, Grew w W → _)
  have c1 := object_Print 2 (some ⟨w.heap.size, 0, none⟩) L n W1 (by rw [hL, hn]; cases b <;> decide) r1 (hT.grew g1)
  have c2 := (fun W g => object_Print k none [] 0 W (by decide) (.inl rfl) (hT.grew g) : ∀ W, Grew w W → _)
  have c3 := (fun hw W g => object_Id_bad k none 0 W hw (hT.grew g) : Pure.wordO k = [] → ∀ W, Grew w W → _)
  clear r1 hT
  rw [hL] at c1
  rw [idV_zero] at c3
  have ez := eq_zeros
  have gz := guard_zeros
  have hpos : ∀ k : Int, 0 < (Pure.bytesO k []).length := fun k => by unfold Pure.bytesO; simp; omega
  have HP := Lib.hid hpos
  clear hpos
  have k1 : k < 1 ∨ (1 ≤ k ∧ k ≤ 3) ∨ 3 < k := by omega
  cases b
  all_goals
    first | (rw [if_pos rfl] at hn hmk; subst hn) | (rw [if_neg (by decide)] at hn hmk; subst hn)
    rcases k1 with h | ⟨h, h'⟩ | h
    all_goals
      first | (have d1 : decide (k < 1) = true := decide_eq_true h) | (have d1 : decide (k < 1) = false := decide_eq_false (by omega))
      first | (have d2 : decide (3 < k) = true := decide_eq_true h) | (have d2 : decide (3 < k) = false := decide_eq_false (by omega))
      go_enter Tryd.func3, Tryd.ntmps3
      go_wp2_with fail
      go_fit c1
      rintro e3 W3 ⟨g3, ⟨hw, _⟩ | ⟨_, hbig, rfl⟩ | ⟨_, hsm, v3, rfl, hown⟩⟩
      all_goals first | exact absurd hw (by decide) | (exfalso; omega) | skip
      try (obtain ⟨q3, d3, rfl, -, -, -⟩ := hown.val)
      have gA := g1.trans' g3
      clear c1
      go_wp2_with fail
      refine (c2 _ gA).mono ?_
      rintro e4 W4 ⟨g4, ⟨hw, rfl⟩ | ⟨_, hbig, _⟩ | ⟨hw, hsm, v4, rfl, hown4⟩⟩
      all_goals first | (exfalso; exact hw (word_bad k (by omega))) | (exfalso; revert hbig; simp; done) | (exfalso; revert hw; unfold Pure.wordO; split; simp; split; simp; split; simp; omega) | skip
      have gB := gA.trans' g4
      clear c2
      first
        | (obtain ⟨q4, d4, rfl, -, -, -⟩ := hown4.val
           have hm := HP.out k
           generalize (Pure.bytesO k []).length = m at hm ⊢
           have fm : ((m : Int) == 0) = false := beq_eq_false_iff_ne.2 (by omega)
           go_wp2_with (first | (go_at_call 8; with_reducible refine (ca _ (by assumption)).mono ?_; rintro e1 W1 ⟨rfl, g1⟩; replace g1 := Grew.trans' (a := w) (by assumption) g1)))
        | (have c3 := c3 hw
           go_wp2_with (first | (go_at_call 8; with_reducible refine (ca _ (by assumption)).mono ?_; rintro e1 W1 ⟨rfl, g1⟩; replace g1 := Grew.trans' (a := w) (by assumption) g1) | (go_at_call 9; with_reducible refine (c3 _ (by assumption)).mono ?_; rintro e1 W1 ⟨rfl, g1⟩; replace g1 := Grew.trans' (a := w) (by assumption) g1)))
      go_ret
      exact ⟨rfl, by assumption⟩

end Go.Proofs.YtdlhabldjdkfbaaDoor

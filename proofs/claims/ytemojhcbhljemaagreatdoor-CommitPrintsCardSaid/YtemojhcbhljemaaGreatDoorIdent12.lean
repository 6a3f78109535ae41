/- ident.Parse: the ident that a text is. Conditions: the library's tables are laid; the text is at most 2^30 bytes long. -/
import Derived.Test.YtemojhcbhljemaaGreatDoorIdent9
import Derived.Test.YtemojhcbhljemaaGreatDoorCut
namespace Go.Proofs.YtemojhcbhljemaaGreatDoor
set_option linter.unusedVariables false
set_option linter.unusedSimpArgs false
open Go.RowKit

abbrev zeroN : Idn := ⟨⟨#[]⟩, ⟨#[]⟩, 0, 0⟩
/-- What a parse of a text leaves: the one ident that is printed so, or none. -/
def ParseN (s : List UInt8) (w : World) (e : Ending) (w' : World) : Prop := Grew w w' ∧
  ((∃ i : Idn, rightN i = true ∧ printN i = s ∧ e = .returned (.tuple #[.agg i.cells.toArray, .int .i64 0])) ∨
   ((∀ i : Idn, rightN i = true → printN i ≠ s) ∧ e = .returned (.tuple #[.agg zeroN.cells.toArray, .int .i64 4])))

theorem called_no {l : List UInt8} (h : calledP l = true) (c : UInt8) (hc : badI c = true) : ∀ x ∈ l, x ≠ c := by
  intro x hx e
  subst e
  unfold calledP at h
  have : l.any badI = true := List.any_eq_true.2 ⟨x, hx, hc⟩
  rw [this] at h
  simp at h
theorem called_suf {l : List UInt8} (h : calledP l = true) : Lib.hasSuffix l [32] = false := by
  unfold calledP at h
  simp only [Bool.and_eq_true, Bool.not_eq_true'] at h
  exact h.2
theorem trim_name (n : List UInt8) (h : calledP n = true) : Lib.trimSuffix (if n = [] then [] else n ++ [32]) [32] = n := by
  unfold Lib.trimSuffix
  by_cases hn : n = []
  · rw [if_pos hn, hn]; rfl
  · rw [if_neg hn]
    have : Lib.hasSuffix (n ++ [32]) [32] = true := by simp [Lib.hasSuffix]
    rw [this, if_pos rfl]
    simp
/-- The pieces of a right ident's text. -/
theorem parse_pieces {i : Idn} (h : rightN i = true) :
    Lib.cut (printN i) [60] = (if i.name.data.toList = [] then [] else i.name.data.toList ++ [32], i.email.data.toList ++ (62 :: 32 :: (Lib.itoa i.when ++ (32 :: Pure.zoneS i.zone))), true) ∧
    Lib.cut (i.email.data.toList ++ (62 :: 32 :: (Lib.itoa i.when ++ (32 :: Pure.zoneS i.zone)))) [62, 32] = (i.email.data.toList, Lib.itoa i.when ++ (32 :: Pure.zoneS i.zone), true) ∧
    Lib.cut (Lib.itoa i.when ++ (32 :: Pure.zoneS i.zone)) [32] = (Lib.itoa i.when, Pure.zoneS i.zone, true) := by
  obtain ⟨p1, p2, p3, p4, p5⟩ := right_parts h
  obtain ⟨h1, h2, h3⟩ := Pure.cuts_print i.name.data.toList i.email.data.toList i.when i.zone (called_no p1 60 (by rfl)) (called_no p2 62 (by rfl)) p3
  refine ⟨?_, h2, ?_⟩
  · rw [Pure.cut_one]; unfold printN; rw [h1]
  · rw [Pure.cut_one, h3]
theorem cut_len (s sep : List UInt8) : (Lib.cut s sep).1.length ≤ s.length ∧ (Lib.cut s sep).2.1.length ≤ s.length := by
  unfold Lib.cut
  split
  · simp only [List.length_take, List.length_drop]; omega
  · simp
theorem strings_CutG (s sep : ByteArray) (w : World) (hs : s.size ≤ 2147483648) (hm : MaxOk w) :
    Calls Tryz.prog 66 #[.string s, .string sep] w fun e w' => e = .returned (.tuple #[.string ⟨(Lib.cut s.data.toList sep.data.toList).1.toArray⟩, .string ⟨(Lib.cut s.data.toList sep.data.toList).2.1.toArray⟩, .bool (Lib.cut s.data.toList sep.data.toList).2.2]) ∧ Grew w w' := by
  obtain ⟨m, hm⟩ := hm
  refine (Tryz.strings_Cut s sep m w (by omega) hm).mono ?_
  rintro e w' ⟨rfl, n, rfl⟩
  exact ⟨rfl, Grew.drewN (Below.refl _ _) n⟩
theorem take_ways (l : List UInt8) : ∃ v e : Int, takeV l = .tuple #[.int .i64 v, .int .i64 e] ∧ ((e = 0 ∧ Pure.takeN l = some v) ∨ (e ≠ 0 ∧ ∀ v, Pure.takeN l ≠ some v)) := by
  unfold takeV
  by_cases h : l = []
  · rw [if_pos h]
    refine ⟨0, 3, rfl, .inr ⟨by decide, ?_⟩⟩
    intro v hv
    have := (Pure.takeN_some hv).1
    rw [h] at this
    unfold Lib.itoa at this
    split at this
    · cases this
    · exact Pure.digits_ne _ this
  · rw [if_neg h]
    cases hv : Pure.takeN l with
    | some v => exact ⟨v, 0, rfl, .inl ⟨rfl, rfl⟩⟩
    | none => exact ⟨0, 4, rfl, .inr ⟨by decide, by simp⟩⟩
theorem zone_ways (l : List UInt8) : ∃ z f : Int, zoneV (Pure.zoneF l) = .tuple #[.int .i64 z, .int .i64 f] ∧ ((f = 0 ∧ Pure.zoneF l = some z) ∨ (f ≠ 0 ∧ Pure.zoneF l = none)) := by
  cases h : Pure.zoneF l with
  | some z => exact ⟨z, 0, rfl, .inl ⟨rfl, rfl⟩⟩
  | none => exact ⟨0, 4, rfl, .inr ⟨by decide, rfl⟩⟩
theorem Idn.ext' {i j : Idn} (h1 : i.name = j.name) (h2 : i.email = j.email) (h3 : i.when = j.when) (h4 : i.zone = j.zone) : i = j := by
  cases i; cases j; simp_all
theorem Idn.one (i : Idn) : ∀ v ∈ i.cells, v.oneCell' = true := by
  intro v hv
  unfold Idn.cells at hv
  simp only [List.mem_cons, List.not_mem_nil, or_false] at hv
  rcases hv with rfl | rfl | rfl | rfl <;> rfl
theorem infoIdn' (i : Idn) : (Tryz.prog.info? 26).map (·.size) = some i.cells.toArray.size := infoIdn i

set_option maxRecDepth 100000 in
set_option maxHeartbeats 4000000 in
theorem ident_Parse (s : ByteArray) (w : World) (hs : s.size ≤ 1073741824) (hm : MaxOk w) (hu : U8Ok w) (ht : TabOk w) (he : ErrOk w) :
    Calls Tryz.prog 48 #[.string s] w (ParseN s.data.toList w) := by
  obtain ⟨V0, hV0, gw0, g0, -, -, -, -⟩ := boxedN w zeroN
  have hb0 : V0.heap[w.heap.size]? = some (.cells zeroN.cells.toArray 26 (0, 0)) := by rw [← hV0]; exact heap_alloc_new w _
  have hb := fun W (g : Grew V0 W) => (g.block w.heap.size (by rw [← hV0]; simp)).trans hb0
  have hbw := fun W (g : Grew V0 W) => gw0.trans' g
  have hsl : s.data.toList.length = s.size := Array.length_toList
  obtain ⟨n1, r1, b1⟩ : List UInt8 × List UInt8 × Bool := ⟨[], [], true⟩
  obtain ⟨N1, R1, b1, hC1⟩ : ∃ (N1 R1 : ByteArray) (b1 : Bool), Lib.cut s.data.toList [60] = (N1.data.toList, R1.data.toList, b1) := ⟨⟨(Lib.cut s.data.toList [60]).1.toArray⟩, ⟨(Lib.cut s.data.toList [60]).2.1.toArray⟩, _, rfl⟩
  obtain ⟨N2, R2, b2, hC2⟩ : ∃ (N1 R1' : ByteArray) (b1 : Bool), Lib.cut R1.data.toList [62, 32] = (N1.data.toList, R1'.data.toList, b1) := ⟨⟨(Lib.cut R1.data.toList [62, 32]).1.toArray⟩, ⟨(Lib.cut R1.data.toList [62, 32]).2.1.toArray⟩, _, rfl⟩
  obtain ⟨N3, R3, b3, hC3⟩ : ∃ (N1 R1' : ByteArray) (b1 : Bool), Lib.cut R2.data.toList [32] = (N1.data.toList, R1'.data.toList, b1) := ⟨⟨(Lib.cut R2.data.toList [32]).1.toArray⟩, ⟨(Lib.cut R2.data.toList [32]).2.1.toArray⟩, _, rfl⟩
  have L1 := cut_len s.data.toList [60]
  have L2 := cut_len R1.data.toList [62, 32]
  have L3 := cut_len R2.data.toList [32]
  rw [hC1] at L1
  rw [hC2] at L2
  rw [hC3] at L3
  simp only [list_len] at L1 L2 L3
  have c1 := fun W (g : Grew V0 W) => strings_CutG s ⟨#[60]⟩ W (by omega) (hm.grew (gw0.trans' g))
  have c2 := fun W (g : Grew V0 W) => strings_CutG R1 ⟨#[62, 32]⟩ W (by omega) (hm.grew (gw0.trans' g))
  have c3 := fun W (g : Grew V0 W) => strings_CutG R2 ⟨#[32]⟩ W (by omega) (hm.grew (gw0.trans' g))
  have q1 : (⟨#[60]⟩ : ByteArray).data.toList = [60] := rfl
  have q2 : (⟨#[62, 32]⟩ : ByteArray).data.toList = [62, 32] := rfl
  have q3 : (⟨#[32]⟩ : ByteArray).data.toList = [32] := rfl
  rw [q1, hC1] at c1
  rw [q2, hC2] at c2
  rw [q3, hC3] at c3
  simp only [Array.toArray_toList] at c1 c2 c3
  obtain ⟨v, e, hv, hve⟩ := take_ways N3.data.toList
  obtain ⟨z, f, hz, hzf⟩ := zone_ways R3.data.toList
  have c4 := fun W (g : Grew V0 W) => hexa_TakeNumber N3 W (by omega) (ht.grew (gw0.trans' g)) (he.grew (gw0.trans' g))
  have c5 := fun W (g : Grew V0 W) => ident_Zone R3 W (by omega)
  rw [hv] at c4
  rw [hz] at c5
  have c6 := fun W => Tryz.strings_TrimSuffix N1 ⟨#[32]⟩ W (by omega)
  rw [q3] at c6
  obtain ⟨M, hM⟩ : ∃ M : ByteArray, (⟨(Lib.trimSuffix N1.data.toList [32]).toArray⟩ : ByteArray) = M := ⟨_, rfl⟩
  simp only [hM] at c6
  have hMs : M.size ≤ N1.size := by
    rw [← hM]
    show (Lib.trimSuffix N1.data.toList [32]).toArray.size ≤ _
    unfold Lib.trimSuffix
    rw [← list_len N1]
    split
    · simp
    · simp
  obtain ⟨i, hi⟩ : ∃ i : Idn, (⟨M, N2, v, z⟩ : Idn) = i := ⟨_, rfl⟩
  -- what the checks say together
  have hyes : b1 = true → b2 = true → b3 = true → e = 0 → f = 0 → rightN i = true → printN i = s.data.toList → True := fun _ _ _ _ _ _ _ => trivial
  have hno : ∀ j : Idn, rightN j = true → printN j = s.data.toList → b1 = true ∧ b2 = true ∧ b3 = true ∧ e = 0 ∧ f = 0 ∧ j = i := by
    intro j hj hjs
    obtain ⟨k1, k2, k3⟩ := parse_pieces hj
    obtain ⟨p1, p2, p3, p4, p5⟩ := right_parts hj
    rw [hjs, hC1] at k1
    simp only [Prod.mk.injEq] at k1
    obtain ⟨a1, a2, a3⟩ := k1
    rw [← a2, hC2] at k2
    simp only [Prod.mk.injEq] at k2
    obtain ⟨a4, a5, a6⟩ := k2
    rw [← a5, hC3] at k3
    simp only [Prod.mk.injEq] at k3
    obtain ⟨a7, a8, a9⟩ := k3
    have t1 : Pure.takeN N3.data.toList = some j.when := by rw [a7]; exact Pure.takeN_itoa (by unfold Pure.In64; omega)
    have t2 : Pure.zoneF R3.data.toList = some j.zone := by rw [a8]; exact Pure.zoneF_S p5
    have h4 : e = 0 ∧ v = j.when := by
      rcases hve with ⟨h, h'⟩ | ⟨h, h'⟩
      · rw [t1] at h'; exact ⟨h, (Option.some.inj h').symm⟩
      · exact absurd t1 (h' _)
    have h5 : f = 0 ∧ z = j.zone := by
      rcases hzf with ⟨h, h'⟩ | ⟨h, h'⟩
      · rw [t2] at h'; exact ⟨h, (Option.some.inj h').symm⟩
      · rw [t2] at h'; cases h'
    refine ⟨a3, a6, a9, h4.1, h5.1, ?_⟩
    rw [← hi]
    refine Idn.ext' ?_ (ba_ext a4.symm) h4.2.symm h5.2.symm
    apply ba_ext
    show j.name.data.toList = M.data.toList
    rw [← hM, a1, trim_name _ p1]
  have hin : i.name.size ≤ 1099511627776 := by rw [← hi]; show M.size ≤ _; omega
  have hie : i.email.size ≤ 1099511627776 := by rw [← hi]; show N2.size ≤ _; omega
  have hwe : ((e == 0) = true ∧ (e != 0) = false ∧ e = 0) ∨ ((e == 0) = false ∧ (e != 0) = true ∧ e ≠ 0) := by
    by_cases h : e = 0
    · exact .inl ⟨by simp [h], by simp [h], h⟩
    · exact .inr ⟨by simp [h], by simp [h], h⟩
  have hwf : ((f == 0) = true ∧ (f != 0) = false ∧ f = 0) ∨ ((f == 0) = false ∧ (f != 0) = true ∧ f ≠ 0) := by
    by_cases h : f = 0
    · exact .inl ⟨by simp [h], by simp [h], h⟩
    · exact .inr ⟨by simp [h], by simp [h], h⟩
  have HNO := Lib.hid hno
  have HI := Lib.hid hi
  have HM := Lib.hid hm
  have HU := Lib.hid hu
  have HT := Lib.hid ht
  have hcells : [Value.string M, Value.string N2, Value.int .i64 v, Value.int .i64 z] = i.cells := by rw [← hi]; rfl
  clear hno hyes hm hu ht he hM hMs hv hz hve hzf L1 L2 L3 hC1 hC2 hC3 hi hsl
  simp only [Idn.cells] at hV0
  go_enter Tryz.func48, Tryz.ntmps48
  go_wp2_with (first | (go_at_call 66; with_reducible refine (c1 _ (by assumption)).mono ?_; rintro e1 W1 ⟨rfl, g1⟩; replace g1 := Grew.trans' (a := V0) (by assumption) g1) | (go_at_call 66; with_reducible refine (c2 _ (by assumption)).mono ?_; rintro e1 W1 ⟨rfl, g1⟩; replace g1 := Grew.trans' (a := V0) (by assumption) g1) | (go_at_call 66; with_reducible refine (c3 _ (by assumption)).mono ?_; rintro e1 W1 ⟨rfl, g1⟩; replace g1 := Grew.trans' (a := V0) (by assumption) g1) | (go_at_call 68; with_reducible refine (c4 _ (by assumption)).mono ?_; rintro e1 W1 ⟨rfl, g1⟩; replace g1 := Grew.trans' (a := V0) (by assumption) g1) | (go_at_call 69; with_reducible refine (c5 _ (by assumption)).mono ?_))
  rintro e5 W5 ⟨rfl, g5⟩
  replace g5 := Grew.trans' (a := V0) (by assumption) g5
  obtain ⟨V1, hV1, g51, g11, -, -, -, -⟩ := boxedN W5 i
  have rr := Idn.range W5 i
  rw [hV1] at rr
  rw [← hcells] at hV1 rr
  have g1 := g5.trans' g51
  have nfi : (Tryz.prog.info? 26).map (·.size) = some [Value.string M, Value.string N2, Value.int .i64 v, Value.int .i64 z].length := by rw [hcells]; exact infoIdn i
  have hone : ∀ u ∈ [Value.string M, Value.string N2, Value.int .i64 v, Value.int .i64 z], u.oneCell' = true := by rw [hcells]; exact i.one
  have HONE := Lib.hid hone
  clear hone
  have cR := fun W (g : Grew V1 W) => ident_Right i W hin hie (u8_grew HU.out (hbw _ (g1.trans' g)))
  have cP := fun W (g : Grew V1 W) => ident_Print i W hin hie (u8_grew HU.out (hbw _ (g1.trans' g))) (HT.out.grew (hbw _ (g1.trans' g)))
  rw [← hcells] at cR cP
  have hbl := fun W (g : Grew V1 W) => hb W (g1.trans' g)
  have hww := fun W (g : Grew V1 W) => hbw W (g1.trans' g)
  obtain ⟨R, hR⟩ : ∃ R, rightN i = R := ⟨_, rfl⟩
  rw [hR] at cR
  obtain ⟨T, hT⟩ : ∃ T, printB i = T := ⟨_, rfl⟩
  rw [hT] at cP
  obtain ⟨Q, hQ⟩ : ∃ Q, (T.toList == s.toList) = Q := ⟨_, rfl⟩
  have hQ2 : (T.toList != s.toList) = !Q := by rw [bne, hQ]
  have hgo : R = true → Q = true → rightN i = true ∧ printN i = s.data.toList := by
    intro h1 h2
    refine ⟨hR.trans h1, ?_⟩
    rw [h2, beq_iff_eq, ByteArray.toList_eq, ByteArray.toList_eq, ← hT] at hQ
    unfold printB at hQ
    rw [hR, h1, if_pos rfl] at hQ
    exact hQ
  have hback : rightN i = true → printN i = s.data.toList → R = true ∧ Q = true := by
    intro h1 h2
    refine ⟨hR.symm.trans h1, ?_⟩
    rw [← hQ, beq_iff_eq, ByteArray.toList_eq, ByteArray.toList_eq, ← hT]
    unfold printB
    rw [h1, if_pos rfl]
    exact h2
  have hno : ¬ (b1 = true ∧ b2 = true ∧ b3 = true ∧ e = 0 ∧ f = 0 ∧ R = true ∧ Q = true) → ∀ j : Idn, rightN j = true → printN j ≠ s.data.toList := by
    intro h j hj hjs
    obtain ⟨k1, k2, k3, k4, k5, k6⟩ := HNO.out j hj hjs
    subst k6
    obtain ⟨k7, k8⟩ := hback hj hjs
    exact h ⟨k1, k2, k3, k4, k5, k7, k8⟩
  have HN := Lib.hid hno
  have HG := Lib.hid hgo
  have HC := Lib.hid hcells
  clear hback hno hgo HNO HI hb hbw hR hT hb0 g0 g51 hin hie hcells c1 c2 c3 c4 c5
  have hways : b1 = false ∨ (b1 = true ∧ b2 = false) ∨ (b1 = true ∧ b2 = true ∧ b3 = false) ∨ (b1 = true ∧ b2 = true ∧ b3 = true) := by cases b1 <;> cases b2 <;> cases b3 <;> simp
  rcases hways with rfl | ⟨rfl, rfl⟩ | ⟨rfl, rfl, rfl⟩ | ⟨rfl, rfl, rfl⟩
  · go_wp2_with (first | (go_at_call 70; with_reducible refine (c6 _).mono ?_; rintro e1 W1 ⟨rfl, h1⟩; subst W1) | (refine wpList_load_g (by rfl) 26 _ rfl _ _ rfl [Value.string M, Value.string N2, Value.int .i64 v, Value.int .i64 z] _ (rr _ (by assumption)) Tryz.underlying26 rfl nfi ?_) | (go_at_call 33; with_reducible refine (cR _ (by assumption)).mono ?_; rintro e1 W1 ⟨rfl, g1⟩; replace g1 := Grew.trans' (a := V1) (by assumption) g1) | (go_at_call 20; with_reducible refine (cP _ (by assumption)).mono ?_; rintro e1 W1 ⟨rfl, g1⟩; replace g1 := Grew.trans' (a := V1) (by assumption) g1) | (refine wpList_store_row rfl 26 (.tmp 2) (.tmp 80) rfl w.heap.size zeroN.cells.toArray rfl rfl 26 _ (hbl _ (by assumption)) (infoIdn' zeroN) rfl (all_oneCell_toArray zeroN.one) ?_))
    refine bodyPost_ret (results_cell_tmp_mid Tryz.results48 _ _ w.heap.size 0 zeroN.cells _ rfl (range_setRow (hbl _ (by assumption)) _) Tryz.underlying26 rfl (infoIdn zeroN)) rfl ?_
    exact ⟨below_setRow (hww _ (by assumption)) (Nat.le_refl _) _, .inr ⟨HN.out (by simp), rfl⟩⟩
  · go_wp2_with (first | (go_at_call 70; with_reducible refine (c6 _).mono ?_; rintro e1 W1 ⟨rfl, h1⟩; subst W1) | (refine wpList_load_g (by rfl) 26 _ rfl _ _ rfl [Value.string M, Value.string N2, Value.int .i64 v, Value.int .i64 z] _ (rr _ (by assumption)) Tryz.underlying26 rfl nfi ?_) | (go_at_call 33; with_reducible refine (cR _ (by assumption)).mono ?_; rintro e1 W1 ⟨rfl, g1⟩; replace g1 := Grew.trans' (a := V1) (by assumption) g1) | (go_at_call 20; with_reducible refine (cP _ (by assumption)).mono ?_; rintro e1 W1 ⟨rfl, g1⟩; replace g1 := Grew.trans' (a := V1) (by assumption) g1) | (refine wpList_store_row rfl 26 (.tmp 2) (.tmp 80) rfl w.heap.size zeroN.cells.toArray rfl rfl 26 _ (hbl _ (by assumption)) (infoIdn' zeroN) rfl (all_oneCell_toArray zeroN.one) ?_))
    refine bodyPost_ret (results_cell_tmp_mid Tryz.results48 _ _ w.heap.size 0 zeroN.cells _ rfl (range_setRow (hbl _ (by assumption)) _) Tryz.underlying26 rfl (infoIdn zeroN)) rfl ?_
    exact ⟨below_setRow (hww _ (by assumption)) (Nat.le_refl _) _, .inr ⟨HN.out (by simp), rfl⟩⟩
  · go_wp2_with (first | (go_at_call 70; with_reducible refine (c6 _).mono ?_; rintro e1 W1 ⟨rfl, h1⟩; subst W1) | (refine wpList_load_g (by rfl) 26 _ rfl _ _ rfl [Value.string M, Value.string N2, Value.int .i64 v, Value.int .i64 z] _ (rr _ (by assumption)) Tryz.underlying26 rfl nfi ?_) | (go_at_call 33; with_reducible refine (cR _ (by assumption)).mono ?_; rintro e1 W1 ⟨rfl, g1⟩; replace g1 := Grew.trans' (a := V1) (by assumption) g1) | (go_at_call 20; with_reducible refine (cP _ (by assumption)).mono ?_; rintro e1 W1 ⟨rfl, g1⟩; replace g1 := Grew.trans' (a := V1) (by assumption) g1) | (refine wpList_store_row rfl 26 (.tmp 2) (.tmp 80) rfl w.heap.size zeroN.cells.toArray rfl rfl 26 _ (hbl _ (by assumption)) (infoIdn' zeroN) rfl (all_oneCell_toArray zeroN.one) ?_))
    refine bodyPost_ret (results_cell_tmp_mid Tryz.results48 _ _ w.heap.size 0 zeroN.cells _ rfl (range_setRow (hbl _ (by assumption)) _) Tryz.underlying26 rfl (infoIdn zeroN)) rfl ?_
    exact ⟨below_setRow (hww _ (by assumption)) (Nat.le_refl _) _, .inr ⟨HN.out (by simp), rfl⟩⟩
  · rcases hwe with ⟨we1, we2, we3⟩ | ⟨we1, we2, we3⟩
    · rcases hwf with ⟨wf1, wf2, wf3⟩ | ⟨wf1, wf2, wf3⟩
      · subst we3
        subst wf3
        cases R with
        | false =>
          go_wp2_with (first | (go_at_call 70; with_reducible refine (c6 _).mono ?_; rintro e1 W1 ⟨rfl, h1⟩; subst W1) | (refine wpList_load_g (by rfl) 26 _ rfl _ _ rfl [Value.string M, Value.string N2, Value.int .i64 v, Value.int .i64 z] _ (rr _ (by assumption)) Tryz.underlying26 rfl nfi ?_) | (go_at_call 33; with_reducible refine (cR _ (by assumption)).mono ?_; rintro e1 W1 ⟨rfl, g1⟩; replace g1 := Grew.trans' (a := V1) (by assumption) g1) | (go_at_call 20; with_reducible refine (cP _ (by assumption)).mono ?_; rintro e1 W1 ⟨rfl, g1⟩; replace g1 := Grew.trans' (a := V1) (by assumption) g1) | (refine wpList_store_row rfl 26 (.tmp 2) (.tmp 80) rfl w.heap.size zeroN.cells.toArray rfl rfl 26 _ (hbl _ (by assumption)) (infoIdn' zeroN) rfl (all_oneCell_toArray zeroN.one) ?_))
          refine bodyPost_ret (results_cell_tmp_mid Tryz.results48 _ _ w.heap.size 0 zeroN.cells _ rfl (range_setRow (hbl _ (by assumption)) _) Tryz.underlying26 rfl (infoIdn zeroN)) rfl ?_
          exact ⟨below_setRow (hww _ (by assumption)) (Nat.le_refl _) _, .inr ⟨HN.out (by simp), rfl⟩⟩
        | true =>
          cases Q with
          | false =>
            go_wp2_with (first | (go_at_call 70; with_reducible refine (c6 _).mono ?_; rintro e1 W1 ⟨rfl, h1⟩; subst W1) | (refine wpList_load_g (by rfl) 26 _ rfl _ _ rfl [Value.string M, Value.string N2, Value.int .i64 v, Value.int .i64 z] _ (rr _ (by assumption)) Tryz.underlying26 rfl nfi ?_) | (go_at_call 33; with_reducible refine (cR _ (by assumption)).mono ?_; rintro e1 W1 ⟨rfl, g1⟩; replace g1 := Grew.trans' (a := V1) (by assumption) g1) | (go_at_call 20; with_reducible refine (cP _ (by assumption)).mono ?_; rintro e1 W1 ⟨rfl, g1⟩; replace g1 := Grew.trans' (a := V1) (by assumption) g1) | (refine wpList_store_row rfl 26 (.tmp 2) (.tmp 80) rfl w.heap.size zeroN.cells.toArray rfl rfl 26 _ (hbl _ (by assumption)) (infoIdn' zeroN) rfl (all_oneCell_toArray zeroN.one) ?_))
            refine bodyPost_ret (results_cell_tmp_mid Tryz.results48 _ _ w.heap.size 0 zeroN.cells _ rfl (range_setRow (hbl _ (by assumption)) _) Tryz.underlying26 rfl (infoIdn zeroN)) rfl ?_
            exact ⟨below_setRow (hww _ (by assumption)) (Nat.le_refl _) _, .inr ⟨HN.out (by simp), rfl⟩⟩
          | true =>
            go_wp2_with (first | (go_at_call 70; with_reducible refine (c6 _).mono ?_; rintro e1 W1 ⟨rfl, h1⟩; subst W1) | (refine wpList_load_g (by rfl) 26 _ rfl _ _ rfl [Value.string M, Value.string N2, Value.int .i64 v, Value.int .i64 z] _ (rr _ (by assumption)) Tryz.underlying26 rfl nfi ?_) | (go_at_call 33; with_reducible refine (cR _ (by assumption)).mono ?_; rintro e1 W1 ⟨rfl, g1⟩; replace g1 := Grew.trans' (a := V1) (by assumption) g1) | (go_at_call 20; with_reducible refine (cP _ (by assumption)).mono ?_; rintro e1 W1 ⟨rfl, g1⟩; replace g1 := Grew.trans' (a := V1) (by assumption) g1) | (refine wpList_store_row rfl 26 (.tmp 2) (.tmp 81) rfl w.heap.size [Value.string M, Value.string N2, Value.int .i64 v, Value.int .i64 z].toArray rfl rfl 26 _ (hbl _ (by assumption)) nfi rfl (all_oneCell_toArray HONE.out) ?_))
            refine bodyPost_ret (results_cell_tmp_mid Tryz.results48 _ _ w.heap.size 0 [Value.string M, Value.string N2, Value.int .i64 v, Value.int .i64 z] _ rfl (range_setRow (hbl _ (by assumption)) _) Tryz.underlying26 rfl nfi) rfl ?_
            exact ⟨below_setRow (hww _ (by assumption)) (Nat.le_refl _) _, .inl ⟨i, (HG.out (by first | rfl | trivial) (by first | rfl | trivial)).1, (HG.out (by first | rfl | trivial) (by first | rfl | trivial)).2, by rw [HC.out]; rfl⟩⟩
      · have WF := Lib.hid wf3
        clear wf3
        go_wp2_with (first | (go_at_call 70; with_reducible refine (c6 _).mono ?_; rintro e1 W1 ⟨rfl, h1⟩; subst W1) | (refine wpList_load_g (by rfl) 26 _ rfl _ _ rfl [Value.string M, Value.string N2, Value.int .i64 v, Value.int .i64 z] _ (rr _ (by assumption)) Tryz.underlying26 rfl nfi ?_) | (go_at_call 33; with_reducible refine (cR _ (by assumption)).mono ?_; rintro e1 W1 ⟨rfl, g1⟩; replace g1 := Grew.trans' (a := V1) (by assumption) g1) | (go_at_call 20; with_reducible refine (cP _ (by assumption)).mono ?_; rintro e1 W1 ⟨rfl, g1⟩; replace g1 := Grew.trans' (a := V1) (by assumption) g1) | (refine wpList_store_row rfl 26 (.tmp 2) (.tmp 80) rfl w.heap.size zeroN.cells.toArray rfl rfl 26 _ (hbl _ (by assumption)) (infoIdn' zeroN) rfl (all_oneCell_toArray zeroN.one) ?_))
        refine bodyPost_ret (results_cell_tmp_mid Tryz.results48 _ _ w.heap.size 0 zeroN.cells _ rfl (range_setRow (hbl _ (by assumption)) _) Tryz.underlying26 rfl (infoIdn zeroN)) rfl ?_
        exact ⟨below_setRow (hww _ (by assumption)) (Nat.le_refl _) _, .inr ⟨HN.out (by intro h; exact WF.out h.2.2.2.2.1), rfl⟩⟩
    · have WE := Lib.hid we3
      clear we3
      go_wp2_with (first | (go_at_call 70; with_reducible refine (c6 _).mono ?_; rintro e1 W1 ⟨rfl, h1⟩; subst W1) | (refine wpList_load_g (by rfl) 26 _ rfl _ _ rfl [Value.string M, Value.string N2, Value.int .i64 v, Value.int .i64 z] _ (rr _ (by assumption)) Tryz.underlying26 rfl nfi ?_) | (go_at_call 33; with_reducible refine (cR _ (by assumption)).mono ?_; rintro e1 W1 ⟨rfl, g1⟩; replace g1 := Grew.trans' (a := V1) (by assumption) g1) | (go_at_call 20; with_reducible refine (cP _ (by assumption)).mono ?_; rintro e1 W1 ⟨rfl, g1⟩; replace g1 := Grew.trans' (a := V1) (by assumption) g1) | (refine wpList_store_row rfl 26 (.tmp 2) (.tmp 80) rfl w.heap.size zeroN.cells.toArray rfl rfl 26 _ (hbl _ (by assumption)) (infoIdn' zeroN) rfl (all_oneCell_toArray zeroN.one) ?_))
      refine bodyPost_ret (results_cell_tmp_mid Tryz.results48 _ _ w.heap.size 0 zeroN.cells _ rfl (range_setRow (hbl _ (by assumption)) _) Tryz.underlying26 rfl (infoIdn zeroN)) rfl ?_
      exact ⟨below_setRow (hww _ (by assumption)) (Nat.le_refl _) _, .inr ⟨HN.out (by intro h; exact WE.out h.2.2.2.1), rfl⟩⟩

end Go.Proofs.YtemojhcbhljemaaGreatDoor

/- The helpers Own, Plain, Same, Kept on items: a copy with room behind it; two lists held against each other; is the copy as it was. Conditions: at most 2^30 items. -/
import Derived.Test.YtpgcjljaokopaaaDoorItems
import Derived.Test.YtpgcjljaokopaaaDoorItemEq
import Derived.Test.YtpgcjljaokopaaaDoorRange
import Derived.Laws.MakeOwn
namespace Go.Proofs.YtpgcjljaokopaaaDoor
set_option linter.unusedVariables false
set_option linter.unusedSimpArgs false
open Go.RowKit

theorem RdI.pre {w : World} {p : Option Addr} {l m : List Itm} (h : RdI w p (l ++ m)) : RdI w p l := by
  rcases h with h | ⟨b, o, rfl, h⟩
  · exact .inl (List.append_eq_nil_iff.1 h).1
  · exact .inr ⟨b, o, rfl, fun k x hx => h k x (by rw [List.getElem?_append_left (List.getElem?_eq_some_iff.1 hx).1]; exact hx)⟩
/-- A block that holds items from its head on. -/
theorem rdI_block {w : World} {g : Nat} {cs : Array Value} {t : TypeId} {fz : Nat × Nat} {l : List Itm} (hg : w.heap[g]? = some (.cells cs t fz)) (h20 : ∀ x ∈ l, x.id.length = 20) (h : ∀ (i : Nat) (v : Value), (rowI l)[i]? = some v → cs[i]? = some v) : RdI w (some ⟨g, 0, none⟩) l := by
  refine .inr ⟨g, 0, rfl, fun k x hx => fun j v hv => ?_⟩
  have hj : j < 22 := by have := (List.getElem?_eq_some_iff.1 hv).1; rw [x.len (h20 x (List.mem_of_getElem? hx))] at this; exact this
  have hg2 := rowI_get l h20 k x hx j hj
  rw [cell_of_row w g _ cs t fz hg, Nat.zero_add]
  exact h _ _ (hg2.trans hv)

theorem run_storeVar_in {P : Program} (w : World) (g o : Nat) (ty t : TypeId) (old : Array Value) (cells : List Value) (hg : w.heap[g]? = some (.cells old t (0, 0))) (hfit : o + cells.length ≤ old.size) (hi : (P.info? ty).map (·.size) = some cells.length) (h1 : ∀ v ∈ cells, v.oneCell' = true) :
    (storeVar ty ⟨g, o, none⟩ (.agg cells.toArray)).run P w = .ok () (w.setRow g (old.toList.take o ++ cells ++ old.toList.drop (o + cells.length)).toArray) := by
  have hst := run_storeCells_at P g o t cells 0 old w hg (by simpa using hfit) h1
  simp only [Nat.add_zero] at hst
  cases hq : P.info? ty with
  | none => simp [hq] at hi
  | some i =>
    have hs : cells.length = i.size := by simp [hq] at hi; omega
    simp [storeVar, sizeOf, typeInfo, hq, Value.cells, hs.symm, hst]
/-- A row of several cells is written into a block. -/
theorem wpList_store_in {P : Program} {ops : Array Oper} {rest : List Oper} {op : Oper} {a : Act} {w : World} {Q : Exit → Act → World → Prop} (hgd : op.guard = none) (ty : TypeId) (x y : Operand) (ho : op.op = .store ty x y) (g o : Nat) (t : TypeId) (old : Array Value) (cells : List Value)
    (hx : a.eval x = .pointer (some ⟨g, o, none⟩)) (hy : a.eval y = .agg cells.toArray) (hg : w.heap[g]? = some (.cells old t (0, 0))) (hfit : o + cells.length ≤ old.size) (hi : (P.info? ty).map (·.size) = some cells.length) (h1 : ∀ v ∈ cells, v.oneCell' = true)
    (h : wpList P ops Q rest (a.put op.dst undef) (w.setRow g (old.toList.take o ++ cells ++ old.toList.drop (o + cells.length)).toArray)) : wpList P ops Q (op :: rest) a w := by
  refine wpList_plain hgd fun K hK => ?_
  unfold Oper.wp execOp
  simp only [ho, hx, hy, Instr.storeAt, Instr.sureAddr, Sem.run_bind, Sem.run_pure, Result.andThen_ok, run_storeVar_in w g o ty t old cells hg hfit hi h1]
  exact hK _ _ h

set_option maxRecDepth 100000 in
theorem item_fn (a b : Itm) (ia : a.id.length = 20) (ib : b.id.length = 20) (w : World) :
    Calls Tryd.prog 40 #[.agg a.cells.toArray, .agg b.cells.toArray] w fun e w' => e = .returned (.bool (eqI a b)) ∧ Grew w w' := by
  obtain ⟨V0, hV0, gw0, g0, -, -, r0⟩ := boxedI w a
  obtain ⟨V, hV, g01, gVV, -, -, rV⟩ := boxedI V0 b
  have nfa := infoItem a ia
  have nfb := infoItem b ib
  have e := fun W => eql_item a b ia ib W
  have gz := fun W op x y => guard_item op x y a b W
  generalize eqI a b = B at e
  go_enter Tryd.func40, Tryd.ntmps40
  go_wp2_with (first | (refine wpList_load_mid rfl 25 (.tmp 2) rfl _ _ rfl a.cells _ (r0 V g01) Tryd.underlying25 rfl nfa ?_) | (refine wpList_load_mid rfl 25 (.tmp 3) rfl _ _ rfl b.cells _ (rV V gVV) Tryd.underlying25 rfl nfb ?_))
  go_ret
  exact ⟨rfl, gw0.trans' g01⟩

set_option maxRecDepth 100000 in
set_option maxHeartbeats 1000000 in
/-- Same over items, by equality: of two equal lists: true. -/
theorem same_items_eq (p q : Option Addr) (l : List Itm) (c d : Nat) (w : World) (hl : l.length ≤ 1073741824) (h20 : ∀ x ∈ l, x.id.length = 20) (h1 : RdI w p l) (h2 : RdI w q l) :
    Calls Tryd.prog 39 #[.slice p l.length c, .slice q l.length d, .func (.func 40) #[] #[]] w fun e w' => e = .returned (.bool true) ∧ Grew w w' := by
  have H20 := Lib.hid h20
  have H1 := Lib.hid h1
  have H2 := Lib.hid h2
  clear h20 h1 h2
  go_enter Tryd.func39, Tryd.ntmps39
  go_wp2
  go_loopw [7] (fun i wr => ∃ k : Nat, k ≤ l.length ∧ i = .int .i64 k ∧ Grew w wr) (fun i _ => l.length - (intOf i).toNat)
  case atStart => exact ⟨0, Nat.zero_le _, rfl, Below.refl _ _⟩
  case round =>
    obtain ⟨k, hk, rfl, hb⟩ := hrel
    by_cases hlt : k < l.length
    · obtain ⟨x, hx⟩ : ∃ x, l[k]? = some x := ⟨_, List.getElem?_eq_getElem hlt⟩
      have hxi := H20.out x (List.mem_of_getElem? hx)
      rcases H1.out with h | ⟨b, o, rfl, hc⟩
      · subst h; simp at hlt
      rcases H2.out with h | ⟨b', o', rfl, hc'⟩
      · subst h; simp at hlt
      have r1 : ∀ W, Grew w W → W.rangeAt b (o + k * 22) x.cells := fun W g => range_grew (hc k x hx) g
      have r2 : ∀ W, Grew w W → W.rangeAt b' (o' + k * 22) x.cells := fun W g => range_grew (hc' k x hx) g
      clear hc hc'
      have nfx := infoItem x hxi
      have cF := (fun W => item_fn x x hxi hxi W)
      simp only [eqI_refl] at cF
      go_wp2
      refine wp_region_held_drew (S := fun w' => Grew w w') (by kernel_rfl) (by first | assumption | exact Below.drew (by assumption)) (fun hHeld => ?_)
      first
        | (refine wpAnyH_take (i := 0) (v := ?_) rfl (by kernel_rfl) (by kernel_rfl) (by kernel_rfl) (fun _ _ _ h => h) (Or.inl ⟨by rfl, ?_⟩) (by assumption) ?_; rotate_left 1; focus (intro w hSw; (try dsimp only at hSw); go_simp; (try with_reducible rfl)))
        | fail
      try simp only [Act.put, List.getElem_toArray, List.getElem_cons_succ, List.getElem_cons_zero, List.setIfInBounds_toArray, List.set_cons_zero, List.set_cons_succ]
      first
        | (refine wpAnyH_take (i := 1) (v := ?_) rfl (by kernel_rfl) (by kernel_rfl) (by kernel_rfl) (fun _ _ _ h => h) (Or.inl ⟨by rfl, ?_⟩) (by assumption) ?_; rotate_left 1; focus (intro w hSw; (try dsimp only at hSw); go_simp; (try with_reducible rfl)))
        | fail
      try simp only [Act.put, List.getElem_toArray, List.getElem_cons_succ, List.getElem_cons_zero, List.setIfInBounds_toArray, List.set_cons_zero, List.set_cons_succ]
      first
        | (refine wpAnyH_take (i := 2) (v := ?_) rfl (by kernel_rfl) (by kernel_rfl) (by kernel_rfl) (fun _ _ _ h => h) (Or.inl ⟨by rfl, ?_⟩) (by assumption) ?_; rotate_left 1; focus (intro w hSw; (try dsimp only at hSw); go_simp; (try with_reducible rfl)))
        | fail
      try simp only [Act.put, List.getElem_toArray, List.getElem_cons_succ, List.getElem_cons_zero, List.setIfInBounds_toArray, List.set_cons_zero, List.set_cons_succ]
      first
        | (refine wpAnyH_take (i := 3) (v := ?_) rfl (by kernel_rfl) (by kernel_rfl) (by kernel_rfl) (fun _ _ _ h => h) (Or.inl ⟨by rfl, ?_⟩) (by assumption) ?_; rotate_left 1; focus (intro w hSw; (try dsimp only at hSw); go_simp; (try with_reducible rfl)))
        | fail
      try simp only [Act.put, List.getElem_toArray, List.getElem_cons_succ, List.getElem_cons_zero, List.setIfInBounds_toArray, List.set_cons_zero, List.set_cons_succ]
      first
        | (refine' wpAnyH_take (i := 4) (v := _) rfl (by kernel_rfl) (by kernel_rfl) (by kernel_rfl) (fun _ _ _ h => h) (yieldsIf_load_mid (by rfl) _ _ rfl _ _ rfl _ _ (fun w hSw => (by (first | exact r1 _ hSw | exact r2 _ hSw))) Tryd.underlying25 rfl (by first | assumption | kernel_rfl)) (by assumption) ?_)
        | fail
      try simp only [Act.put, List.getElem_toArray, List.getElem_cons_succ, List.getElem_cons_zero, List.setIfInBounds_toArray, List.set_cons_zero, List.set_cons_succ]
      first
        | (refine wpAnyH_take (i := 5) (v := ?_) rfl (by kernel_rfl) (by kernel_rfl) (by kernel_rfl) (fun _ _ _ h => h) (Or.inl ⟨by rfl, ?_⟩) (by assumption) ?_; rotate_left 1; focus (intro w hSw; (try dsimp only at hSw); go_simp; (try with_reducible rfl)))
        | fail
      try simp only [Act.put, List.getElem_toArray, List.getElem_cons_succ, List.getElem_cons_zero, List.setIfInBounds_toArray, List.set_cons_zero, List.set_cons_succ]
      first
        | (refine wpAnyH_take (i := 6) (v := ?_) rfl (by kernel_rfl) (by kernel_rfl) (by kernel_rfl) (fun _ _ _ h => h) (Or.inl ⟨by rfl, ?_⟩) (by assumption) ?_; rotate_left 1; focus (intro w hSw; (try dsimp only at hSw); go_simp; (try with_reducible rfl)))
        | fail
      try simp only [Act.put, List.getElem_toArray, List.getElem_cons_succ, List.getElem_cons_zero, List.setIfInBounds_toArray, List.set_cons_zero, List.set_cons_succ]
      first
        | (refine wpAnyH_take (i := 7) (v := ?_) rfl (by kernel_rfl) (by kernel_rfl) (by kernel_rfl) (fun _ _ _ h => h) (Or.inl ⟨by rfl, ?_⟩) (by assumption) ?_; rotate_left 1; focus (intro w hSw; (try dsimp only at hSw); go_simp; (try with_reducible rfl)))
        | fail
      try simp only [Act.put, List.getElem_toArray, List.getElem_cons_succ, List.getElem_cons_zero, List.setIfInBounds_toArray, List.set_cons_zero, List.set_cons_succ]
      first
        | (refine' wpAnyH_take (i := 8) (v := _) rfl (by kernel_rfl) (by kernel_rfl) (by kernel_rfl) (fun _ _ _ h => h) (yieldsIf_load_mid (by rfl) _ _ rfl _ _ rfl _ _ (fun w hSw => (by (first | exact r1 _ hSw | exact r2 _ hSw))) Tryd.underlying25 rfl (by first | assumption | kernel_rfl)) (by assumption) ?_)
        | fail
      try simp only [Act.put, List.getElem_toArray, List.getElem_cons_succ, List.getElem_cons_zero, List.setIfInBounds_toArray, List.set_cons_zero, List.set_cons_succ]
      refine wpAnyH_ready (rs := [9]) (by kernel_rfl) (by simp) ?_
      refine AllReadyH.cons rfl (fun K hK => ?_) AllReadyH.nil
      go_simp
      (go_at_call 40; with_reducible refine (cF _).mono ?_; rintro e1 W1 ⟨rfl, g1⟩; replace g1 := Grew.trans' (a := w) (by first | assumption | exact Below.drew (by assumption)) g1)
      go_wp2_with fail
      refine hK.out _ _ (by first | assumption | exact Below.drew (by assumption)) (fun hHeld => ?_)
      clear hK K
      try simp only [Act.put, List.getElem_toArray, List.getElem_cons_succ, List.getElem_cons_zero, List.setIfInBounds_toArray, List.set_cons_zero, List.set_cons_succ]
      first
        | (refine wpAnyH_take (i := 10) (v := ?_) rfl (by kernel_rfl) (by kernel_rfl) (by kernel_rfl) (fun _ _ _ h => h) (Or.inl ⟨by rfl, ?_⟩) (by assumption) ?_; rotate_left 1; focus (intro w hSw; (try dsimp only at hSw); go_simp; (try with_reducible rfl)))
        | fail
      try simp only [Act.put, List.getElem_toArray, List.getElem_cons_succ, List.getElem_cons_zero, List.setIfInBounds_toArray, List.set_cons_zero, List.set_cons_succ]
      refine wpAnyH_done (by kernel_rfl) ?_ _
      go_wp2
      go_roundw
      case rel => exact ⟨k + 1, by omega, by go_num, by assumption⟩
      case measure => simp [intOf]; omega
    · go_wp2
      go_ret
      exact ⟨rfl, hb⟩

set_option maxRecDepth 100000 in
theorem plain_items_eq (p q : Option Addr) (l : List Itm) (c d : Nat) (w : World) (hl : l.length ≤ 1073741824) (h20 : ∀ x ∈ l, x.id.length = 20) (h1 : RdI w p l) (h2 : RdI w q l) :
    Calls Tryd.prog 24 #[.slice p l.length c, .slice q l.length d] w fun e w' => e = .returned (.bool true) ∧ Grew w w' := by
  go_enter Tryd.func24, Tryd.ntmps24
  go_wp2_with (go_at_call 39; refine (same_items_eq p q l c d _ hl h20 h1 h2).mono ?_)
  rintro e w1 ⟨rfl, hb⟩
  go_wp2
  go_ret
  exact ⟨rfl, hb⟩

/-- The cells of a copy: the items, k times the filling, and what lay behind. -/
def ownI (l : List Itm) (f : Itm) (k : Nat) (z : List Value) : List Value := rowI l ++ (rowI (List.replicate k f) ++ z.drop (k * 22))
theorem rowI_snoc (l : List Itm) (x : Itm) : rowI (l ++ [x]) = rowI l ++ x.cells := by unfold rowI; rw [List.flatMap_append]; simp
theorem rowI_app (l m : List Itm) : rowI (l ++ m) = rowI l ++ rowI m := by unfold rowI; rw [List.flatMap_append]
theorem ownI_next (l : List Itm) (f : Itm) {k : Nat} (z : List Value) (hl : ∀ x ∈ l, x.id.length = 20) (hf : f.id.length = 20) (hz : z.length = 66) (hk : k < 3) :
    ((ownI l f k z).toArray.toList.take ((l.length + k) * 22) ++ f.cells ++ (ownI l f k z).toArray.toList.drop ((l.length + k) * 22 + f.cells.length)) = ownI l f (k + 1) z := by
  have h1 := rowI_len l hl
  have h2 := rowI_len (List.replicate k f) (fun x hx => by rw [List.eq_of_mem_replicate hx]; exact hf)
  rw [List.length_replicate] at h2
  have hc := f.len hf
  have e1 : ownI l f k z = (rowI l ++ rowI (List.replicate k f)) ++ z.drop (k * 22) := by unfold ownI; rw [List.append_assoc]
  have hlen : (rowI l ++ rowI (List.replicate k f)).length = (l.length + k) * 22 := by rw [List.length_append]; omega
  rw [List.toList_toArray, e1, List.take_append_of_le_length (by omega), List.take_of_length_le (by omega), List.drop_append, List.drop_of_length_le (by omega), List.nil_append, hlen, hc, show (l.length + k) * 22 + 22 - (l.length + k) * 22 = 22 by omega, List.drop_drop]
  unfold ownI
  rw [List.replicate_succ', rowI_snoc, show (k + 1) * 22 = 22 + k * 22 by omega]
  simp [Nat.add_comm]

theorem make_items (n : Nat) (hn : n ≤ 2147483648) (w : World) : ∃ C : Array Value, C.size = n * 22 ∧
    (Instr.makeSlice 31 (.int .i64 0) (.int .i64 (n : Int))).run Tryd.prog w = .ok (.slice (some ⟨w.heap.size, 0, none⟩) 0 n) (w.alloc (.cells C 25)) := by
  obtain ⟨i0, hi, hz0, hz1, hz2⟩ := info_parts infoItemZ
  have h := run_make (P := Tryd.prog) w 31 25 i0 zeroItem Tryd.underlying31 hi hz0 .i64 .i64 0 (n : Int) (by omega) (by omega) (by rw [hz2]; omega) (by omega)
  exact ⟨_, by simp [madeCells, hz1], h⟩

/-- append(s, l...) where s has room. -/
theorem append_roomI (w : World) (g sCap : Nat) (cur : Array Value) (hg : w.heap[g]? = some (.cells cur 25 (0, 0))) (p : Option Addr) (l : List Itm) (c : Nat) (h : RdI w p l) (h20 : ∀ x ∈ l, x.id.length = 20) (hroom : l.length ≤ sCap) (hcur : cur.size = sCap * 22) :
    ∃ w', (Builtin.append_ #[31, 31] 31 #[.slice (some ⟨g, 0, none⟩) 0 sCap, .slice p l.length c]).run Tryd.prog w = .ok (.slice (some ⟨g, 0, none⟩) l.length sCap) w' ∧
      w'.heap[g]? = some (.cells (rowI l ++ cur.toList.drop (l.length * 22)).toArray 25 (0, 0)) ∧ w.grownBy w' (some g) ∧ w'.heap.size = w.heap.size := by
  obtain ⟨i0, hi, hz0, hz1, hz2⟩ := info_parts infoItemZ
  have hlen := rowI_len l h20
  cases p with
  | none =>
    have hl : l = [] := by
      rcases h with h | ⟨b, o, e, _⟩
      · exact h
      · cases e
    subst hl
    refine ⟨w, ?_, ?_, ⟨rfl, rfl, rfl, Nat.le_refl _, fun _ _ _ => rfl⟩, rfl⟩
    · simp [Builtin.append_, run_underlying Tryd.underlying31, sizeOf, typeInfo, hi, Builtin.lenOf, Builtin.firstCells, storeCells]
    · rw [hg]; simp [rowI]
  | some ad =>
    have hnews : ∀ j u, (rowI l)[j]? = some u → w.cell? (ad.add j) = some u := by
      intro j u hu
      rcases h with rfl | ⟨b, o, e, hc⟩
      · simp [rowI] at hu
      cases e
      have hj := (List.getElem?_eq_some_iff.1 hu).1
      have hk : j / 22 < l.length := by omega
      obtain ⟨x, hx⟩ : ∃ x, l[j / 22]? = some x := ⟨_, List.getElem?_eq_getElem hk⟩
      have h1 := rowI_get l h20 (j / 22) x hx (j % 22) (Nat.mod_lt _ (by decide))
      rw [show j / 22 * 22 + j % 22 = j by omega, hu] at h1
      have h2 := hc (j / 22) x hx (j % 22) u h1.symm
      rw [Addr.add_mid]
      rw [show o + j = o + j / 22 * 22 + j % 22 by omega]
      exact h2
    have hr := run_append_room (P := Tryd.prog) w 31 31 25 i0 Tryd.underlying31 hi g 0 sCap cur hg ad l.length c (rowI l) (by rw [hz1, hlen]) hnews (rowI_one l) (by omega) (by rw [hlen, hcur]; omega)
    simp only [Nat.zero_add, Nat.zero_mul, List.take_zero, List.nil_append] at hr
    refine ⟨_, hr, ?_, ⟨rfl, rfl, rfl, by simp, fun k _ hk => setRow_other w g k _ (fun e => hk (by simp [e]))⟩, by simp⟩
    rw [setRow_heap w g cur _ _ _ hg, hlen]

set_option maxRecDepth 100000 in
set_option maxHeartbeats 2000000 in
theorem own_items (p : Option Addr) (l : List Itm) (cap : Nat) (f : Itm) (w : World) (hl : l.length ≤ 1073741824) (h20 : ∀ x ∈ l, x.id.length = 20) (hf : f.id.length = 20) (h : RdI w p l) :
    Calls Tryd.prog 17 #[.slice p l.length cap, .agg f.cells.toArray] w fun e w' => e = .returned (.slice (some ⟨(w.alloc (.cells f.cells.toArray 25)).heap.size, 0, none⟩) l.length (l.length + 3)) ∧
      w'.heap[(w.alloc (.cells f.cells.toArray 25)).heap.size]? = some (.cells (rowI (l ++ [f, f, f])).toArray 25 (0, 0)) ∧ Grew w w' := by
  obtain ⟨V, hV, gV, gVV, -, -, rV⟩ := boxedI w f
  rw [hV]
  obtain ⟨C, hC, hmk⟩ := make_items (l.length + 3) (by omega) V
  rw [show ((l.length + 3 : Nat) : Int) = (l.length : Int) + 3 from by omega] at hmk
  have hblk : (V.alloc (.cells C 25)).heap[V.heap.size]? = some (.cells C 25 (0, 0)) := heap_alloc_new V _
  have hbi : Grew V (V.alloc (.cells C 25)) := (Below.refl _ V).alloc (Nat.le_refl _) _
  obtain ⟨w2, hap, hb2, hg2, hs2⟩ := append_roomI _ V.heap.size (l.length + 3) C hblk p l cap ((h.grew gV).grew hbi) h20 (by omega) hC
  have hbw2 := hbi.grown hg2 (by simp) (fun k hk => by cases hk; exact Nat.le_refl _)
  obtain ⟨z, hz⟩ : ∃ z, C.toList.drop (l.length * 22) = z := ⟨_, rfl⟩
  have hz66 : z.length = 66 := by rw [← hz, List.length_drop, Array.length_toList, hC]; omega
  rw [hz] at hb2
  have nff := infoItem f hf
  have HZ := Lib.hid hz66
  have HB := Lib.hid hb2
  have H20 := Lib.hid h20
  clear hz hz66 hb2 hC hblk hg2 hs2 h20 h
  go_enter Tryd.func17, Tryd.ntmps17
  go_wp2_with (at_builtin; refine Lib.wpList_append_run_sl _ rfl _ _ 31 rfl _ _ rfl rfl hap ?_)
  go_loopw [7] (fun i wr => ∃ k : Nat, k ≤ 3 ∧ i = .int .i64 (l.length + k : Nat) ∧ wr.heap[V.heap.size]? = some (.cells (ownI l f k z).toArray 25 (0, 0)) ∧ Grew V wr) (fun i _ => l.length + 3 - (intOf i).toNat)
  case atStart => exact ⟨0, by omega, rfl, by unfold ownI; simpa [rowI] using HB.out, hbw2⟩
  case round =>
    obtain ⟨k, hk, rfl, hout, hb⟩ := hrel
    clear hbw2 hbi hmk hap HB
    by_cases hlt : k < 3
    · have hnx := ownI_next l f z H20.out hf HZ.out hlt
      have hsz : (l.length + k) * 22 + f.cells.length ≤ (ownI l f k z).toArray.size := by
        have h1 := rowI_len l H20.out
        have h2 := rowI_len (List.replicate k f) (fun x hx => by rw [List.eq_of_mem_replicate hx]; exact hf)
        have h3 := HZ.out
        rw [List.length_replicate] at h2
        rw [f.len hf]
        unfold ownI
        simp only [List.size_toArray, List.length_append, List.length_drop]
        omega
      have rf := rV wr hb
      go_wp2_with (first | (refine wpList_load_mid rfl 25 _ rfl _ _ rfl f.cells _ rf Tryd.underlying25 rfl nff ?_) | (refine wpList_store_in rfl 25 _ _ rfl V.heap.size ((l.length + k) * 22) _ _ f.cells (by first | rfl | simp) rfl hout hsz nff f.one ?_))
      go_wp2
      have hout2 := setRow_heap wr V.heap.size _ (ownI l f (k + 1) z).toArray _ _ hout
      have hb2 : Grew V (wr.setRow V.heap.size (ownI l f (k + 1) z).toArray) := below_setRow hb (Nat.le_refl _) _
      go_roundw
      case rel => exact ⟨k + 1, by omega, by go_num, hout2, hb2⟩
      case measure => simp [intOf]; omega
    · have hk3 : k = 3 := by omega
      subst hk3
      have hfin : ownI l f 3 z = rowI (l ++ [f, f, f]) := by
        unfold ownI
        rw [List.drop_of_length_le (by have := HZ.out; omega), List.append_nil, rowI_app]
        rfl
      rw [hfin] at hout
      have HO := Lib.hid hout
      clear hfin hout
      go_wp2
      go_ret
      exact ⟨rfl, HO.out, gV.trans' hb⟩

set_option maxRecDepth 100000 in
set_option maxHeartbeats 1000000 in
/-- Kept of a copy that stands as it was made: true. -/
theorem kept_items (p q : Option Addr) (l : List Itm) (d : Nat) (f : Itm) (w : World) (hl : l.length ≤ 1073741824) (h20 : ∀ x ∈ l, x.id.length = 20) (hf : f.id.length = 20) (h1 : RdI w p (l ++ [f, f, f])) (h2 : RdI w q l) :
    Calls Tryd.prog 25 #[.slice p l.length (l.length + 3), .slice q l.length d, .agg f.cells.toArray] w fun e w' => e = .returned (.bool true) ∧ Grew w w' := by
  obtain ⟨V, hV, gV, gVV, -, -, rV⟩ := boxedI w f
  have cP := (fun W (g : Grew V W) => plain_items_eq p q l (l.length + 3) d W hl h20 ((h1.pre.grew gV).grew g) ((h2.grew gV).grew g))
  have nff := infoItem f hf
  have e := fun W => neq_item f f hf hf W
  have gz := fun W op x y => guard_item op x y f f W
  simp only [eqI_refl, Bool.not_true] at e
  have hc : ∃ b o, p = some ⟨b, o, none⟩ ∧ ∀ k, k < 3 → ∀ W, Grew V W → W.rangeAt b (o + (l.length + k) * 22) f.cells := by
    rcases h1 with h | ⟨b, o, rfl, h⟩
    · simp at h
    · refine ⟨b, o, rfl, fun k hk W g => range_grew (h (l.length + k) f ?_) (gV.trans' g)⟩
      rw [List.getElem?_append_right (by omega), Nat.add_sub_cancel_left]
      have : k = 0 ∨ k = 1 ∨ k = 2 := by omega
      rcases this with rfl | rfl | rfl <;> rfl
  obtain ⟨b, o, rfl, hc⟩ := hc
  have HC := Lib.hid hc
  clear h1 h2 h20 hc
  go_enter Tryd.func25, Tryd.ntmps25
  go_wp2_with (first | (go_at_call 24; with_reducible refine (cP _ (by assumption)).mono ?_; rintro e1 W1 ⟨rfl, g1⟩; replace g1 := Grew.trans' (a := V) (by assumption) g1))
  have gE : Grew V W1 := by assumption
  clear cP
  go_loopw [8] (fun i wr => ∃ k : Nat, k ≤ 3 ∧ i = .int .i64 (l.length + k : Nat) ∧ Grew V wr) (fun i _ => l.length + 3 - (intOf i).toNat)
  case atStart => exact ⟨0, by omega, rfl, gE⟩
  case round =>
    obtain ⟨k, hk, rfl, hb⟩ := hrel
    by_cases hlt : k < 3
    · have r1 := HC.out k hlt
      have hp0 : (0 : Int) ≤ (l.length : Int) + (k : Int) := by omega
      have hp1 : ((l.length : Int) + (k : Int)).toNat = l.length + k := by omega
      have hp2 : (l.length : Int) + (k : Int) < (l.length : Int) + 3 := by omega
      go_wp2
      refine wp_region_held_drew (S := fun w' => Grew V w') (by kernel_rfl) (by first | assumption | exact Below.drew (by assumption)) (fun hHeld => ?_)
      first
        | (refine wpAnyH_take (i := 0) (v := ?_) rfl (by kernel_rfl) (by kernel_rfl) (by kernel_rfl) (fun _ _ _ h => h) (Or.inl ⟨by rfl, ?_⟩) (by assumption) ?_; rotate_left 1; focus (intro w hSw; (try dsimp only at hSw); go_simp; (try with_reducible rfl)))
        | fail
      try simp only [Act.put, List.getElem_toArray, List.getElem_cons_succ, List.getElem_cons_zero, List.setIfInBounds_toArray, List.set_cons_zero, List.set_cons_succ]
      first
        | (refine wpAnyH_take (i := 1) (v := ?_) rfl (by kernel_rfl) (by kernel_rfl) (by kernel_rfl) (fun _ _ _ h => h) (Or.inl ⟨by rfl, ?_⟩) (by assumption) ?_; rotate_left 1; focus (intro w hSw; (try dsimp only at hSw); go_simp; (try with_reducible rfl)))
        | fail
      try simp only [Act.put, List.getElem_toArray, List.getElem_cons_succ, List.getElem_cons_zero, List.setIfInBounds_toArray, List.set_cons_zero, List.set_cons_succ]
      first
        | (refine wpAnyH_take (i := 2) (v := ?_) rfl (by kernel_rfl) (by kernel_rfl) (by kernel_rfl) (fun _ _ _ h => h) (Or.inl ⟨by rfl, ?_⟩) (by assumption) ?_; rotate_left 1; focus (intro w hSw; (try dsimp only at hSw); go_simp; (try with_reducible rfl)))
        | fail
      try simp only [Act.put, List.getElem_toArray, List.getElem_cons_succ, List.getElem_cons_zero, List.setIfInBounds_toArray, List.set_cons_zero, List.set_cons_succ]
      first
        | (refine' wpAnyH_take (i := 3) (v := _) rfl (by kernel_rfl) (by kernel_rfl) (by kernel_rfl) (fun _ _ _ h => h) (yieldsIf_load_mid (by rfl) _ _ rfl _ _ rfl _ _ (fun w hSw => (by (first | exact r1 _ hSw | exact rV _ hSw))) Tryd.underlying25 rfl (by first | assumption | kernel_rfl)) (by assumption) ?_)
        | fail
      try simp only [Act.put, List.getElem_toArray, List.getElem_cons_succ, List.getElem_cons_zero, List.setIfInBounds_toArray, List.set_cons_zero, List.set_cons_succ]
      first
        | (refine' wpAnyH_take (i := 4) (v := _) rfl (by kernel_rfl) (by kernel_rfl) (by kernel_rfl) (fun _ _ _ h => h) (yieldsIf_load_mid (by rfl) _ _ rfl _ _ rfl _ _ (fun w hSw => (by (first | exact r1 _ hSw | exact rV _ hSw))) Tryd.underlying25 rfl (by first | assumption | kernel_rfl)) (by assumption) ?_)
        | fail
      try simp only [Act.put, List.getElem_toArray, List.getElem_cons_succ, List.getElem_cons_zero, List.setIfInBounds_toArray, List.set_cons_zero, List.set_cons_succ]
      first
        | (refine wpAnyH_take (i := 5) (v := ?_) rfl (by kernel_rfl) (by kernel_rfl) (by kernel_rfl) (fun _ _ _ h => h) (Or.inl ⟨by rfl, ?_⟩) (by assumption) ?_; rotate_left 1; focus (intro w hSw; (try dsimp only at hSw); go_simp; (try with_reducible rfl)))
        | fail
      try simp only [Act.put, List.getElem_toArray, List.getElem_cons_succ, List.getElem_cons_zero, List.setIfInBounds_toArray, List.set_cons_zero, List.set_cons_succ]
      refine wpAnyH_done (by kernel_rfl) ?_ _
      go_wp2
      go_roundw
      case rel => exact ⟨k + 1, by omega, by go_num, by assumption⟩
      case measure => simp [intOf]; omega
    · have hk3 : k = 3 := by omega
      subst hk3
      go_wp2
      go_ret
      exact ⟨rfl, gV.trans' hb⟩

end Go.Proofs.YtpgcjljaokopaaaDoor

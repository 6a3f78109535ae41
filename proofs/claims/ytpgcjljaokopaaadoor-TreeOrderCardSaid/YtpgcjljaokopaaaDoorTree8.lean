/- The reference's Parse: which tree bytes are. Conditions: the library's tables are laid, at most 2^30 bytes. -/
import Derived.Test.YtpgcjljaokopaaaDoorPureTree4
import Derived.Test.YtpgcjljaokopaaaDoorTree6
import Derived.Test.YtpgcjljaokopaaaDoorTree7
import Derived.Test.YtpgcjljaokopaaaDoorItemHelp
import Derived.Test.YtpgcjljaokopaaaDoorFrozen
namespace Go.Proofs.YtpgcjljaokopaaaDoor
set_option linter.unusedVariables false
set_option linter.unusedSimpArgs false
open Go.RowKit

/-- An operation whose run is known. -/
theorem wpList_exec {P : Program} {ops : Array Oper} {rest : List Oper} {o : Oper} {a : Act} {w : World} {Q : Exit → Act → World → Prop} (hgd : o.guard = none) (v : Value) (w' : World) (hr : (execOp a.eval o).run P w = .ok (.value v) w') (h : wpList P ops Q rest (a.put o.dst v) w') : wpList P ops Q (o :: rest) a w :=
  wpList_plain hgd fun K hK => by
    unfold Oper.wp
    rw [hr]
    exact hK _ _ h
/-- append(v, x) of one item. -/
theorem wpList_append_I {ops : Array Oper} {rest : List Oper} {o : Oper} {a : Act} {w : World} {Q : Exit → Act → World → Prop} (hgd : o.guard = none) (s x : Operand)
    (ho : o.op = .call { callee := .builtin .append, args := #[s, x], argTypes := #[31, 31] }) (base : Nat) (v : Value) (l : List Itm) (i : Itm) (g : Nat) (hs : a.eval s = v) (hx : a.eval x = .slice (some ⟨g, 0, none⟩) 1 1)
    (hown : OwnI w base v l) (hi20 : i.id.length = 20) (hr : w.rangeAt g 0 i.cells) (hbase : base ≤ w.heap.size) (h63 : l.length ≤ 1073741824)
    (h : ∀ v' w', OwnI w' base v' (l ++ [i]) → Below base w w' → w.grownBy w' v.ownBlock → wpList Tryd.prog ops Q rest (a.put o.dst v') w') : wpList Tryd.prog ops Q (o :: rest) a w := by
  refine wpList_plain hgd fun K hK => ?_
  have hw : Region.wanted o (yielded ops a.tmps) = true := by simp [Region.wanted, hgd]
  have := step_append_I (ops := ops) (E := False) (K := K) (Q := Q) hgd s x ho base v l i g hs hx hown hi20 hr hbase h63 (fun v' w' h1 h2 h3 => hK _ _ (h v' w' h1 h2 h3))
  rw [if_pos hw] at this
  exact this

theorem item_set0 (i : Itm) (m : Int) : i.cells.toArray.setIfInBounds 0 (.int .i64 m) = ({ i with mode := m } : Itm).cells.toArray := by simp [Itm.cells]
theorem item_set1 (i : Itm) (n : ByteArray) : i.cells.toArray.setIfInBounds 1 (.string n) = ({ i with name := n } : Itm).cells.toArray := by simp [Itm.cells]
theorem item_set2 (i : Itm) (k : Nat) (c : UInt8) : i.cells.toArray.setIfInBounds (2 + k) (.int .u8 (c.toNat : Int)) = ({ i with id := i.id.set k c } : Itm).cells.toArray := by
  apply Array.ext'
  simp only [Array.toList_setIfInBounds, Itm.cells, show 2 + k = k + 1 + 1 by omega, List.set_cons_succ]
  simp [Lib.byteCells, List.map_set]
/-- An item in a block of its own. -/
def BoxI (w : World) (g : Nat) (i : Itm) : Prop := w.heap[g]? = some (.cells i.cells.toArray 25 (0, 0))
theorem BoxI.cell0 {w : World} {g : Nat} {i : Itm} (h : BoxI w g i) : w.cell? ⟨g, 0, none⟩ = some (.int .i64 i.mode) := by rw [cell_of_row w g 0 _ _ _ h]; rfl
theorem BoxI.cell1 {w : World} {g : Nat} {i : Itm} (h : BoxI w g i) : w.cell? ⟨g, 1, none⟩ = some (.string i.name) := by rw [cell_of_row w g 1 _ _ _ h]; rfl
theorem BoxI.free {w : World} {g : Nat} {i : Itm} (h : BoxI w g i) (j : Nat) : w.frozen? ⟨g, j, none⟩ = false := by unfold BoxI at h; simp [World.frozen?, h]
theorem BoxI.grew {w w' : World} {g : Nat} {i : Itm} (h : BoxI w g i) (hb : Grew w w') : BoxI w' g i := (hb.block g (Array.getElem?_eq_some_iff.1 h).1).trans h
theorem BoxI.grown {w w' : World} {g : Nat} {i : Itm} {row : Option Nat} (h : BoxI w g i) (hb : w.grownBy w' row) (hne : row ≠ some g) : BoxI w' g i := (hb.block g (Array.getElem?_eq_some_iff.1 h).1 (fun e => hne e.symm)).trans h
theorem BoxI.set0 {w : World} {g : Nat} {i : Itm} (h : BoxI w g i) (m : Int) : BoxI (w.setCell ⟨g, 0, none⟩ (.int .i64 m)) g { i with mode := m } := by
  unfold BoxI; rw [← item_set0]; exact set_cell_any w g 0 _ _ _ _ h
theorem BoxI.set1 {w : World} {g : Nat} {i : Itm} (h : BoxI w g i) (n : ByteArray) : BoxI (w.setCell ⟨g, 1, none⟩ (.string n)) g { i with name := n } := by
  unfold BoxI; rw [← item_set1]; exact set_cell_any w g 1 _ _ _ _ h
theorem BoxI.set2 {w : World} {g : Nat} {i : Itm} (h : BoxI w g i) (k : Nat) (c : UInt8) : BoxI (w.setCell ⟨g, 2 + k, none⟩ (.int .u8 (c.toNat : Int))) g { i with id := i.id.set k c } := by
  unfold BoxI; rw [← item_set2]; exact set_cell_any w g (2 + k) _ _ _ _ h
theorem BoxI.cell2 {w : World} {g : Nat} {i : Itm} (h : BoxI w g i) {k : Nat} (hk : k < i.id.length) : ∃ u, w.cell? ⟨g, 2 + k, none⟩ = some u := by
  rw [cell_of_row w g (2 + k) _ _ _ h]
  refine ⟨_, Array.getElem?_eq_getElem ?_⟩
  simp [Itm.cells, Lib.byteCells_length]
  omega
theorem BoxI.range {w : World} {g : Nat} {i : Itm} (h : BoxI w g i) : w.rangeAt g 0 i.cells := by have := range_row h; simpa using this

theorem OwnI.set {w : World} {base : Nat} {v : Value} {l : List Itm} (h : OwnI w base v l) (p : Addr) (u : Value) (hne : v.ownBlock ≠ some p.block) : OwnI (w.setCell p u) base v l := by
  obtain ⟨h1, h2, h3⟩ := h
  refine ⟨h1, h2, ?_⟩
  rcases h3 with hn | ⟨g, cap, cur, rfl, hbs, hgg, rest⟩
  · exact .inl hn
  · exact .inr ⟨g, cap, cur, rfl, hbs, (heap_setCell_other w p g u (fun e => hne (by simp [Value.ownBlock, e]))).trans hgg, rest⟩
/-- A fresh variable of several cells gets its value: its block. -/
theorem wpList_store_new2 {P : Program} {ops : Array Oper} {rest : List Oper} {op : Oper} {a : Act} {w : World} {Q : Exit → Act → World → Prop} (hgd : op.guard = none) (ty : TypeId) (x y : Operand) (ho : op.op = .store ty x y) (w0 : World) (zs : Array Value) (hw : w = w0.alloc (.cells zs ty)) (cells : List Value)
    (hx : a.eval x = .pointer (some ⟨w0.heap.size, 0, none⟩)) (hy : a.eval y = .agg cells.toArray) (hsz : zs.size = cells.length) (hi : (P.info? ty).map (·.size) = some cells.length) (h1 : ∀ v ∈ cells, v.oneCell' = true)
    (h : ∀ W', Grew w0 W' → W'.heap[w0.heap.size]? = some (.cells cells.toArray ty (0, 0)) → wpList P ops Q rest (a.put op.dst undef) W') : wpList P ops Q (op :: rest) a w := by
  subst hw
  refine wpList_store_row hgd ty x y ho w0.heap.size cells.toArray hx hy ty zs (heap_alloc_new w0 _) (by simpa using hi) (by simpa using hsz) (all_oneCell_toArray h1) ?_
  exact h _ (below_setRow ((Below.refl _ _).alloc (Nat.le_refl _) _) (Nat.le_refl _) _) (setRow_heap (w0.alloc (.cells zs ty)) w0.heap.size zs cells.toArray ty (0, 0) (heap_alloc_new w0 _))

def zeroI : Itm := ⟨0, ⟨#[]⟩, zeros20⟩
theorem run_zeroI (w : World) : (Instr.build 25 #[]).run Tryd.prog w = .ok (.agg zeroI.cells.toArray) w := run_build w _ _ _ (by kernel_rfl)

set_option maxRecDepth 100000 in
set_option maxHeartbeats 8000000 in
theorem ref08_Parse (p : Option Addr) (l : List UInt8) (cap : Nat) (w : World) (hr : Rd w p l) (hcap : l.length ≤ cap) (hl : l.length ≤ 1073741824) (hu : U8Ok w) :
    Calls Tryd.prog 21 #[.slice p l.length cap] w (ParsePostI l w) := by
  have g0 : Grew w w := Below.refl _ _
  by_cases hbig : 65536 < l.length
  · have f1 : decide (65536 < (l.length : Int)) = true := decide_eq_true (by omega)
    clear hu hr
    go_enter Tryd.func21, Tryd.ntmps21
    go_wp2
    go_ret2
    exact ⟨g0, .inl ⟨hbig, rfl⟩⟩
  have f1 : decide (65536 < (l.length : Int)) = false := decide_eq_false (by omega)
  have HU := Lib.hid hu
  have HR := Lib.hid hr
  clear hu hr
  go_enter Tryd.func21, Tryd.ntmps21
  go_wp2
  clear f1
  go_loopw [4, 5] (fun lv i wr => ∃ (at_ : Nat) (ds : List Itm) (v : Value), v = lv ∧ .int .i64 (at_ : Int) = i ∧ at_ ≤ l.length ∧ Grew w wr ∧ OwnI wr w.heap.size v ds ∧ ds.length ≤ at_ ∧ Hid (itemsT l.length l = (itemsT (l.drop at_).length (l.drop at_)).map (ds ++ ·)) ∧ Hid (∀ x ∈ ds, FineI x)) (fun _ i _ => l.length - (intOf i).toNat)
  case atStart => exact ⟨0, [], _, rfl, rfl, Nat.zero_le _, g0, OwnI.nil _ _, Nat.le_refl _, by simp [Hid], by simp [Hid]⟩
  case round =>
    obtain ⟨at_, ds, v, rfl, rfl, hat, hb, hown, hds, hit, hfi⟩ := hrel
    clear g0
    obtain ⟨wo, rfl⟩ : ∃ wo : World, wo = wr := ⟨_, rfl⟩
    by_cases hlt : at_ < l.length
    · obtain ⟨r, hrr⟩ : ∃ r, l.drop at_ = r := ⟨_, rfl⟩
      have hrl : r.length = l.length - at_ := by rw [← hrr, List.length_drop]
      rw [hrr] at hit
      rcases HR.out with h | ⟨b, o, rfl, hblt, hc⟩
      · subst h; simp at hlt
      have hrd : Rd w (some ⟨b, o + at_, none⟩) r := .inr ⟨b, o + at_, rfl, hblt, fun i hi => by
        rw [← hrr, List.getD_eq_getElem?_getD, List.getElem?_drop, ← List.getD_eq_getElem?_getD, Nat.add_assoc]
        exact hc _ (by omega)⟩
      have HRD := Lib.hid hrd
      have HRR := Lib.hid hrr
      have HRL := Lib.hid hrl
      clear hrd hrr hrl hc
      go_wp2_with (first | (refine wpList_exec rfl _ _ (exec_build _ [] rfl _ (run_zeroI _)) ?_) | (refine wpList_store_new2 rfl 25 _ _ rfl wo _ rfl zeroI.cells rfl rfl rfl (infoItem zeroI rfl) zeroI.one ?_))
      intro V gV hV
      have hbox : BoxI V wo.heap.size zeroI := hV
      have hne : v.ownBlock ≠ some wo.heap.size := fun e => by have := (hown.lt _ e).2; omega
      have hownV := hown.below gV
      have gwV := hb.trans' gV
      have hg0 := hb.size
      obtain ⟨g, hg⟩ : ∃ g, wo.heap.size = g := ⟨_, rfl⟩
      rw [hg] at hbox hne hg0
      have kconv : ∀ W, Grew w W → (convert 35 9 (.slice (some ⟨b, o + at_, none⟩) r.length (cap - at_))).run Tryd.prog W = .ok (.string ⟨r.toArray⟩) W := fun W g => conv_string (cap - at_) (HRD.out.below g (Nat.le_refl _))
      rw [HRL.out] at kconv
      have HNE := Lib.hid hne
      clear hV hne
      go_wp2
      rw [hg]
      have HG := Lib.hid hg
      clear hg gV hown
      go_loopw [7] (fun i wr => ∃ (m : Nat) (M : Int), i = .int .i64 (m : Int) ∧ 1 ≤ m ∧ m ≤ 5 ∧ Grew w wr ∧ BoxI wr g { zeroI with mode := M } ∧ OwnI wr w.heap.size v ds ∧ Hid ((M = 0 ∧ ∀ j : Nat, 1 ≤ j → j < m → begM (j : Int) r = false) ∨ (1 ≤ M ∧ M ≤ 4 ∧ begM M r = true))) (fun i _ => 5 - (intOf i).toNat)
      case atStart => exact ⟨1, 0, rfl, by omega, by omega, gwV, hbox, hownV, .inl ⟨rfl, fun j h1 h2 => by omega⟩⟩
      case round =>
        obtain ⟨m, M, rfl, hm1, hm5, hbi, hbx, hoi, hM⟩ := hrel
        clear hbox hownV gwV
        by_cases hlt4 : m ≤ 4
        · have hlt42 : (m : Int) ≤ 4 := by omega
          have cW := (fun W (g : Grew w W) => ref08_mode (m : Int) ⟨by omega, by omega⟩ W)
          obtain ⟨WS, hWS⟩ : ∃ WS : ByteArray, (⟨(Pure.wordM (m : Int)).toArray⟩ : ByteArray) = WS := ⟨_, rfl⟩
          have hWs : WS.size ≤ 6 := by rw [← hWS]; have := Pure.wordM_len (m : Int); show (Pure.wordM (m : Int)).toArray.size ≤ 6; simpa using this
          simp only [hWS] at cW
          obtain ⟨T1, h1⟩ : ∃ T : ByteArray, WS ++ ⟨#[32]⟩ = T := ⟨_, rfl⟩
          have n1 : ¬ 9223372036854775807 < WS.size + 1 := by omega
          have hTl : T1.data.toList = Pure.wordM (m : Int) ++ [32] := by rw [← h1, append_list, ← hWS]
          have cB := fun W => help_Begins ⟨r.toArray⟩ T1 W
          have hbg : Lib.hasPrefix r T1.data.toList = begM (m : Int) r := by rw [hTl]; rfl
          simp only [List.toList_toArray, hbg] at cB
          obtain ⟨E, hE⟩ : ∃ E, begM (m : Int) r = E := ⟨_, rfl⟩
          simp only [hE] at cB
          have c0 := hbx.cell0
          have f0 := hbx.free 0
          have a1 : (0 : Int) ≤ (at_ : Int) := by omega
          have a2 : (at_ : Int) ≤ (l.length : Int) := by omega
          have a3 : ¬ cap = at_ := by omega
          have HE := Lib.hid hE
          clear hE hWS hbg hTl
          cases E
          all_goals
            go_wp2
            refine wp_region_held_drew (S := fun w' => Grew w w') (by kernel_rfl) (by first | assumption | exact Below.drew (by assumption)) (fun hHeld => ?_)
            first
              | (refine wpAnyH_take (i := 0) (v := ?_) rfl (by kernel_rfl) (by kernel_rfl) (by kernel_rfl) (fun _ _ _ h => h) (Or.inl ⟨by rfl, ?_⟩) (by assumption) ?_; rotate_left 1; focus (intro w hSw; (try dsimp only at hSw); go_simp; (try with_reducible rfl)))
              | fail
            try simp only [Act.put, List.getElem_toArray, List.getElem_cons_succ, List.getElem_cons_zero, List.setIfInBounds_toArray, List.set_cons_zero, List.set_cons_succ]
            first
              | (refine wpAnyH_take (i := 1) (v := ?_) rfl (by kernel_rfl) (by kernel_rfl) (by kernel_rfl) (fun _ _ _ h => h) (Or.inl ⟨by rfl, ?_⟩) (by assumption) ?_; rotate_left 1; focus (intro w hSw; (try dsimp only at hSw); go_simp; (try with_reducible rfl)))
              | fail
            try simp only [Act.put, List.getElem_toArray, List.getElem_cons_succ, List.getElem_cons_zero, List.setIfInBounds_toArray, List.set_cons_zero, List.set_cons_succ]
            first
              | (refine wpAnyH_take (i := 2) (v := ?_) rfl (by kernel_rfl) (by kernel_rfl) (by kernel_rfl) (fun _ _ _ h => h) (Or.inl ⟨by rfl, ?_⟩) (by assumption) ?_; rotate_left 1; focus (intro w hSw; (try dsimp only at hSw); go_simp; (try with_reducible rfl)))
              | fail
            try simp only [Act.put, List.getElem_toArray, List.getElem_cons_succ, List.getElem_cons_zero, List.setIfInBounds_toArray, List.set_cons_zero, List.set_cons_succ]
            first
              | (refine wpAnyH_take (i := 3) (v := ?_) rfl (by kernel_rfl) (by kernel_rfl) (by kernel_rfl) (fun _ _ _ h => h) (Or.inl ⟨by rfl, ?_⟩) (by assumption) ?_; rotate_left 1; focus (intro w hSw; (try dsimp only at hSw); go_simp; (try with_reducible rfl)))
              | fail
            try simp only [Act.put, List.getElem_toArray, List.getElem_cons_succ, List.getElem_cons_zero, List.setIfInBounds_toArray, List.set_cons_zero, List.set_cons_succ]
            first
              | (refine wpAnyH_take (i := 4) (v := ?_) rfl (by kernel_rfl) (by kernel_rfl) (by kernel_rfl) (fun _ _ _ h => h) (Or.inl ⟨by rfl, ?_⟩) (by assumption) ?_; rotate_left 1; focus (intro w hSw; (try dsimp only at hSw); go_simp; (try with_reducible rfl)))
              | fail
            try simp only [Act.put, List.getElem_toArray, List.getElem_cons_succ, List.getElem_cons_zero, List.setIfInBounds_toArray, List.set_cons_zero, List.set_cons_succ]
            refine wpAnyH_ready (rs := [5]) (by kernel_rfl) (by simp) ?_
            refine AllReadyH.cons rfl (fun K hK => ?_) AllReadyH.nil
            go_simp
            (go_at_call 34; with_reducible refine (cW _ (by first | assumption | exact Below.drew (by assumption))).mono ?_; rintro e9 W9 ⟨rfl, h9⟩; subst W9)
            go_wp2_with fail
            refine hK.out _ _ (by first | assumption | exact Below.drew (by assumption)) (fun hHeld => ?_)
            clear hK K
            try simp only [Act.put, List.getElem_toArray, List.getElem_cons_succ, List.getElem_cons_zero, List.setIfInBounds_toArray, List.set_cons_zero, List.set_cons_succ]
            first
              | (refine wpAnyH_take (i := 6) (v := ?_) rfl (by kernel_rfl) (by kernel_rfl) (by kernel_rfl) (fun _ _ _ h => h) (Or.inl ⟨by rfl, ?_⟩) (by assumption) ?_; rotate_left 1; focus (intro w hSw; (try dsimp only at hSw); go_simp; (try with_reducible rfl)))
              | fail
            try simp only [Act.put, List.getElem_toArray, List.getElem_cons_succ, List.getElem_cons_zero, List.setIfInBounds_toArray, List.set_cons_zero, List.set_cons_succ]
            refine wpAnyH_ready (rs := [7]) (by kernel_rfl) (by simp) ?_
            refine AllReadyH.cons rfl (fun K hK => ?_) AllReadyH.nil
            go_simp
            (go_at_call 38; with_reducible refine (cB _).mono ?_; rintro e9 W9 ⟨rfl, h9⟩; subst W9)
            go_wp2_with fail
            refine hK.out _ _ (by first | assumption | exact Below.drew (by assumption)) (fun hHeld => ?_)
            clear hK K
            try simp only [Act.put, List.getElem_toArray, List.getElem_cons_succ, List.getElem_cons_zero, List.setIfInBounds_toArray, List.set_cons_zero, List.set_cons_succ]
            refine wpAnyH_done (by kernel_rfl) ?_ _
            go_wp2
          · go_roundw
            case rel =>
              refine ⟨m + 1, M, by go_num, by omega, by omega, hbi.drew, hbx.grew (Below.drew (Below.refl _ _)), hoi.below (Below.drew (Below.refl _ _)), ?_⟩
              rcases hM.out with ⟨h1, h2⟩ | h
              · refine .inl ⟨h1, fun j k1 k2 => ?_⟩
                by_cases e : j = m
                · subst e; exact HE.out
                · exact h2 j k1 (by omega)
              · exact .inr h
            case measure => simp [intOf]; omega
          · go_roundw
            case rel =>
              refine ⟨m + 1, (m : Int), by go_num, by omega, by omega, (hbi.setCell (p := ⟨g, 0, none⟩) hg0 _).drew, (hbx.set0 (m : Int)).grew (Below.drew (Below.refl _ _)), (hoi.set ⟨g, 0, none⟩ _ HNE.out).below (Below.drew (Below.refl _ _)), .inr ⟨by omega, by omega, HE.out⟩⟩
            case measure => simp [intOf]; omega
        · obtain rfl : m = 5 := by omega
          have hrne : r ≠ [] := by rintro rfl; have := HRL.out; simp at this; omega
          have c0 := hbx.cell0
          obtain ⟨M', hM'⟩ : ∃ M', ({ zeroI with mode := M } : Itm).mode = M' := ⟨_, rfl⟩
          rcases hM.out with ⟨h1, h2⟩ | ⟨h1, h4, hbg⟩
          · have hpn := parse_nobeg hit.out hrne h2
            have HPN := Lib.hid hpn
            subst h1
            clear hpn hM h2
            go_wp2
            go_ret2
            exact ⟨hbi, .inr (.inl ⟨by omega, HPN.out, rfl⟩)⟩
          · have fM : (M == 0) = false := by rw [beq_eq_false_iff_ne]; omega
            obtain ⟨s, hs⟩ := (prefix_iff _ _).1 hbg
            have hs2 : r = Pure.wordM M ++ 32 :: s := by rw [hs]; simp
            obtain ⟨ib1, ib2⟩ := itemT_beg ⟨h1, h4⟩ hs2
            obtain ⟨WS, hWS⟩ : ∃ WS : ByteArray, (⟨(Pure.wordM M).toArray⟩ : ByteArray) = WS := ⟨_, rfl⟩
            have hWs : WS.size ≤ 6 := by rw [← hWS]; have := Pure.wordM_len M; show (Pure.wordM M).toArray.size ≤ 6; simpa using this
            have hWl : (Pure.wordM M).length = WS.size := by rw [← hWS]; show _ = (Pure.wordM M).toArray.size; simp
            have cW := (fun W => ref08_mode M ⟨h1, h4⟩ W)
            simp only [hWS] at cW
            have hsl : s.length + WS.size + 1 = r.length := by rw [hs2, List.length_append, List.length_cons]; omega
            have hdrop : l.drop (at_ + WS.size + 1) = s := by
              rw [show at_ + WS.size + 1 = at_ + (WS.size + 1) by omega, ← List.drop_drop, HRR.out, hs2, ← hWl, ← List.drop_drop, List.drop_left']
              · rfl
              · rfl
            obtain ⟨F, hF⟩ : ∃ F, F = at_ + WS.size + 1 := ⟨_, rfl⟩
            have hFl : F ≤ l.length := by have := HRL.out; omega
            have kl := conv_string cap (HR.out.below hbi (Nat.le_refl _))
            have cF := fun W => help_Find_from ⟨l.toArray⟩ ⟨#[0]⟩ F W (by show l.toArray.size ≤ _; simp; omega) (by decide) (by decide) (by show F ≤ l.toArray.size; simpa using hFl)
            have hfz : findFrom l [0] F = _ := find_zero l F
            rw [hF, hdrop] at hfz
            rw [← hF] at hfz
            simp only [List.toList_toArray] at cF
            have hFi : (at_ : Int) + (WS.size : Int) + 1 = (F : Int) := by omega
            have HIB1 := Lib.hid ib1
            have HIB2 := Lib.hid ib2
            have HF := Lib.hid hF
            have HDR := Lib.hid hdrop
            have HSL := Lib.hid hsl
            clear ib1 ib2 hs hs2 hbg hM hWS hWl hdrop hF hsl
            cases hcz : Pure.cutC 0 s with
            | none =>
              rw [hcz] at hfz
              have hi0 := HIB1.out hcz
              have hpn := parse_stop hit.out hrne hi0
              have HPN := Lib.hid hpn
              have hfz2 : findFrom l [0] F = -1 := hfz
              simp only [hfz2] at cF
              clear hfz hfz2 hi0 hpn hcz
              go_wp2_with (first | (go_at_call 34; with_reducible refine (cW _).mono ?_; rintro e9 W9 ⟨rfl, h9⟩; subst W9) | (go_at_call 29; with_reducible refine (cF _).mono ?_; rintro e9 W9 ⟨rfl, h9⟩; subst W9))
              go_ret2
              exact ⟨hbi, .inr (.inl ⟨by omega, HPN.out, rfl⟩)⟩
            | some y =>
              obtain ⟨n, rest⟩ := y
              rw [hcz] at hfz
              have hi1 := HIB2.out n rest hcz
              have hcl := Pure.cutC_len hcz
              have hse := ((Pure.cutC_some 0 _ _ _).1 hcz).1
              obtain ⟨E, hE⟩ : ∃ E, E = F + n.length := ⟨_, rfl⟩
              have hfz2 : findFrom l [0] F = (E : Int) := by rw [hfz, hE]
              simp only [hfz2] at cF
              have hsl := HSL.out
              have hrl := HRL.out
              have hFv := HF.out
              have hE0 : decide ((E : Int) < 0) = false := decide_eq_false (by omega)
              have HN := Lib.hid hse
              clear hfz hfz2 hcz hse
              by_cases h20 : rest.length < 20
              · rw [if_pos h20] at hi1
                have hpn := parse_stop hit.out hrne hi1
                have HPN := Lib.hid hpn
                have f5 : decide ((l.length : Int) < (E : Int) + 21) = true := decide_eq_true (by omega)
                have f6 : l.length < E + 21 := by omega
                have hEb : E ≤ l.length := by omega
                have f7 : decide (l.length < E + 21) = true := decide_eq_true f6
                clear hi1 hpn hE hFv hsl hrl hcl
                go_wp2_with (first | (go_at_call 34; with_reducible refine (cW _).mono ?_; rintro e9 W9 ⟨rfl, h9⟩; subst W9) | (go_at_call 29; with_reducible refine (cF _).mono ?_; rintro e9 W9 ⟨rfl, h9⟩; subst W9))
                go_ret2
                exact ⟨hbi, .inr (.inl ⟨by omega, HPN.out, rfl⟩)⟩
              · rw [if_neg h20] at hi1
                have f5 : decide ((l.length : Int) < (E : Int) + 21) = false := decide_eq_false (by omega)
                have f6 : ¬ l.length < E + 21 := by omega
                have f7 : decide (l.length < E + 21) = false := decide_eq_false f6
                have hdn : l.drop F = n ++ 0 :: rest := by rw [hFv, HDR.out]; exact HN.out
                have hrest : ∀ i, i < rest.length → l.getD (E + 1 + i) 0 = rest.getD i 0 := by
                  intro i hi
                  have h1 : (l.drop F)[n.length + 1 + i]? = rest[i]? := by
                    rw [hdn, List.getElem?_append_right (by omega), show n.length + 1 + i - n.length = i + 1 by omega, List.getElem?_cons_succ]
                  rw [List.getElem?_drop] at h1
                  rw [List.getD_eq_getElem?_getD, List.getD_eq_getElem?_getD, ← h1]
                  congr 2
                  omega
                have hrd1 : Rd w (some ⟨b, o + F, none⟩) n := by
                  by_cases hn0 : n = []
                  · exact .inl hn0
                  · rcases HR.out with h | ⟨b', o', e, hb2, hc⟩
                    · subst h; simp at hlt
                    · cases e
                      refine .inr ⟨b, o + F, rfl, hb2, fun i hi => ?_⟩
                      rw [Nat.add_assoc, hc (F + i) (by omega)]
                      have h1 : (l.drop F)[i]? = n[i]? := by rw [hdn, List.getElem?_append_left hi]
                      rw [List.getElem?_drop] at h1
                      rw [List.getD_eq_getElem?_getD, List.getD_eq_getElem?_getD, h1]
                have kn : ∀ W, Grew w W → (convert 35 9 (.slice (some ⟨b, o + F, none⟩) n.length (cap - F))).run Tryd.prog W = .ok (.string ⟨n.toArray⟩) W := fun W g => conv_string (cap - F) (hrd1.below g (Nat.le_refl _))
                have hEF : E - F = n.length := by omega
                rw [← hEF] at kn
                have a1 : (F : Int) ≤ (E : Int) := by omega
                have a2 : (E : Int) ≤ (cap : Int) := by omega
                have a3 : ¬ cap = F := by omega
                have a4 : (0 : Int) ≤ (F : Int) := by omega
                have c1 := hbx.cell1
                have f1 := hbx.free 1
                have HI1 := Lib.hid hi1
                have HRS := Lib.hid hrest
                have hE1 : E + 21 + (rest.length - 20) = l.length := by omega
                have HE1 := Lib.hid hE1
                have HEF := Lib.hid hEF
                clear hi1 hdn hrest hrd1 hE1 hEF hE hFv hsl hrl hcl
                go_wp2_with (first | (go_at_call 34; with_reducible refine (cW _).mono ?_; rintro e9 W9 ⟨rfl, h9⟩; subst W9) | (go_at_call 29; with_reducible refine (cF _).mono ?_; rintro e9 W9 ⟨rfl, h9⟩; subst W9))
                have hbx1 := hbx.set1 ⟨n.toArray⟩
                have hbi1 := hbi.setCell (p := ⟨g, 1, none⟩) hg0 (.string ⟨n.toArray⟩)
                have hoi1 := hoi.set ⟨g, 1, none⟩ (.string ⟨n.toArray⟩) HNE.out
                obtain ⟨X0, hX0⟩ : ∃ X0 : Itm, X0 = ⟨M, ⟨n.toArray⟩, zeros20⟩ := ⟨_, rfl⟩
                have HX0 := Lib.hid hX0
                generalize wr.setCell ⟨g, 1, none⟩ (.string ⟨n.toArray⟩) = U at *
                clear hoi hbx hbi kl kn c1 f1 c0 cF cW
                go_loopw [10] (fun i wr => ∃ k : Nat, i = .int .i64 (k : Int) ∧ k ≤ 20 ∧ Grew w wr ∧ BoxI wr g ⟨M, ⟨n.toArray⟩, rest.take k ++ zeros20.drop k⟩ ∧ OwnI wr w.heap.size v ds) (fun i _ => 20 - (intOf i).toNat)
                case atStart => exact ⟨0, rfl, by omega, hbi1, hbx1, hoi1⟩
                case round =>
                  obtain ⟨k, rfl, hk, hbk, hbxk, hok⟩ := hrel
                  clear hbi1 hbx1 hoi1
                  by_cases hk20 : k < 20
                  · obtain ⟨c, hcc⟩ : ∃ c, rest.getD k 0 = c := ⟨_, rfl⟩
                    have hq : wr.cell? ⟨b, o + (E + 1 + k), none⟩ = some (.int .u8 (c.toNat : Int)) := by
                      rcases HR.out with h | ⟨b', o', e, hb2, hc⟩
                      · subst h; simp at hlt
                      · cases e
                        rw [hbk.cell (p := ⟨b, o + (E + 1 + k), none⟩) hb2, hc (E + 1 + k) (by have := HE1.out; omega), HRS.out k (by omega), hcc]
                    have hset : (rest.take k ++ zeros20.drop k).set k c = rest.take (k + 1) ++ zeros20.drop (k + 1) := by
                      have hkl : (rest.take k).length = k := by rw [List.length_take]; omega
                      rw [List.set_append_right _ _ (by omega), hkl, Nat.sub_self, List.drop_eq_getElem_cons (show k < zeros20.length from hk20), List.set_cons_zero, List.take_add_one, ← hcc]
                      have : rest[k]? = some (rest.getD k 0) := by rw [List.getD_eq_getElem?_getD, List.getElem?_eq_getElem (by omega)]; rfl
                      rw [this]
                      simp
                    have hbx2 := hbxk.set2 k c
                    rw [hset] at hbx2
                    have hfz := hbxk.free (2 + k)
                    obtain ⟨u0, hu0⟩ := hbxk.cell2 (k := k) (by show k < (rest.take k ++ zeros20.drop k).length; rw [List.length_append, List.length_take, List.length_drop]; have : zeros20.length = 20 := rfl; omega)
                    have hbi2 := hbk.setCell (p := ⟨g, 2 + k, none⟩) hg0 (.int .u8 (c.toNat : Int))
                    have hoi2 := hok.set ⟨g, 2 + k, none⟩ (.int .u8 (c.toNat : Int)) HNE.out
                    have b1 : (0 : Int) ≤ (E : Int) + 1 + (k : Int) := by omega
                    have b2 : (E : Int) + 1 + (k : Int) < (l.length : Int) := by have := HE1.out; omega
                    have b3 : ((E : Int) + 1 + (k : Int)).toNat = E + 1 + k := by omega
                    have HB2 := Lib.hid hbx2
                    clear hset hcc hbx2 hbxk hok
                    go_wp2
                    go_roundw
                    case rel => exact ⟨k + 1, by go_num, by omega, hbi2, HB2.out, hoi2⟩
                    case measure => simp [intOf]; omega
                  · obtain rfl : k = 20 := by omega
                    obtain ⟨X, hX⟩ : ∃ X : Itm, (⟨M, ⟨n.toArray⟩, rest.take 20⟩ : Itm) = X := ⟨_, rfl⟩
                    have hid0 : rest.take 20 ++ zeros20.drop 20 = rest.take 20 := by
                      have : zeros20.drop 20 = [] := rfl
                      rw [this, List.append_nil]
                    rw [hid0, hX] at hbxk
                    have hx20 : X.id.length = 20 := by rw [← hX]; show (rest.take 20).length = 20; rw [List.length_take]; omega
                    have hxn : X.name.size ≤ 1073741824 := by
                      rw [← hX]
                      show n.toArray.size ≤ _
                      have := HEF.out
                      have := HE1.out
                      simp
                      omega
                    have hi1 := HI1.out
                    rw [hX] at hi1
                    have hdr : l.drop (E + 21) = rest.drop 20 := by
                      have h1 : l.drop F = n ++ 0 :: rest := by rw [HF.out, HDR.out]; exact HN.out
                      have h2 := congrArg (List.drop (n.length + 21)) h1
                      have h3 : n.drop (n.length + 21) = [] := List.drop_of_length_le (by omega)
                      rw [List.drop_drop, List.drop_append, h3, List.nil_append, show n.length + 21 - n.length = 20 + 1 by omega, List.drop_succ_cons] at h2
                      rw [← h2]
                      congr 1
                      have := HEF.out
                      omega
                    have hstep : itemsT l.length l = (itemsT (l.drop (E + 21)).length (l.drop (E + 21))).map ((ds ++ [X]) ++ ·) := by
                      rw [hit.out, itemsT_step hi1, Option.map_map, hdr]
                      congr 1
                      funext y
                      simp
                    have HST := Lib.hid hstep
                    have hfX : ∀ y ∈ ds ++ [X], FineI y := by
                      intro y hy
                      rw [List.mem_append] at hy
                      rcases hy with hy | hy
                      · exact hfi.out y hy
                      · simp at hy; subst hy; exact ⟨hx20, hxn⟩
                    have HFX := Lib.hid hfX
                    have hrg := hbxk.range
                    have nfX := infoItem X hx20
                    obtain ⟨Y, hY, gY, gYY, -, -, rY⟩ := boxedI wr X
                    have gwY := hbk.trans' gY
                    have hownY := hok.below gY
                    have rYY := rY Y gYY
                    have he21 : E + 21 ≤ l.length := by have := HE1.out; omega
                    have hds2 : (ds ++ [X]).length ≤ E + 21 := by
                      have h1 := HEF.out
                      have h2 := HF.out
                      have h3 := HE1.out
                      rw [List.length_append]
                      show ds.length + 1 ≤ _
                      omega
                    clear hi1 hdr hstep hfX hid0 hX rY hok hbxk
                    subst hY
                    have hds30 : ds.length ≤ 1073741824 := by omega
                    go_wp2_with (refine wpList_load_mid rfl 25 (.tmp 6) rfl g 0 rfl X.cells _ hrg Tryd.underlying25 rfl nfX ?_; refine wpList_exec rfl _ _ (exec_buildSlice 31 1 [(0, .tmp 77)] rfl _ (run_slice_item X hx20 _)) ?_; refine wpList_append_I rfl (.tmp 76) (.tmp 78) rfl w.heap.size v ds X wr.heap.size rfl rfl hownY hx20 rYY gwY.size hds30 ?_)
                    intro v4 W4 hown4 hb4 hg4
                    have gw4 : Grew w W4 := Below.trans gwY hb4
                    go_wp2
                    go_roundw
                    case rel => exact ⟨E + 21, ds ++ [X], v4, rfl, by go_num, he21, gw4, hown4, hds2, HST, HFX⟩
                    case measure => simp [intOf]; have := HF.out; have := HEF.out; omega
    · obtain rfl : at_ = l.length := by omega
      have hits : itemsT l.length l = some ds := by rw [hit.out]; simp [itemsT]
      obtain ⟨pv, cv, rfl, hrd, hcv⟩ := hown.val
      have cR := (fun W (g : Grew wo W) => ref08_Right pv ds cv W (by omega) (hrd.grew g) hfi.out (u8_grew HU.out (hb.trans' g)))
      have HIT := Lib.hid hits
      have HOWN := Lib.hid hown
      have grr : Grew wo wo := Below.refl _ _
      clear hits hit hown hrd
      by_cases hd0 : 0 < ds.length
      · have f2 : decide (0 < ds.length) = true := decide_eq_true hd0
        have hne : ds ≠ [] := by rintro rfl; simp at hd0
        have HNE := Lib.hid hne
        clear hne
        obtain ⟨R, hR⟩ : ∃ R, rightI ds = R := ⟨_, rfl⟩
        rw [hR] at cR
        have HRR := Lib.hid hR
        clear hR
        cases R with
        | false =>
          go_wp2_with (first | (go_at_call 22; with_reducible refine (cR _ (by assumption)).mono ?_; rintro e1 W1 ⟨rfl, g1⟩; replace g1 := Grew.trans' (a := wo) (by assumption) g1))
          go_ret2
          exact ⟨hb.trans' (by assumption), .inr (.inl ⟨by omega, parseT_bad HIT.out HNE.out HRR.out, rfl⟩)⟩
        | true =>
          go_wp2_with (first | (go_at_call 22; with_reducible refine (cR _ (by assumption)).mono ?_; rintro e1 W1 ⟨rfl, g1⟩; replace g1 := Grew.trans' (a := wo) (by assumption) g1))
          go_ret2
          have gE : Grew wo W1 := by assumption
          exact ⟨hb.trans' gE, .inr (.inr ⟨by omega, ds, _, parseT_of HIT.out (.inr HRR.out), hfi.out, rfl, HOWN.out.below gE⟩)⟩
      · have f2 : decide (0 < ds.length) = false := decide_eq_false hd0
        have hd : ds = [] := List.eq_nil_of_length_eq_zero (by omega)
        subst hd
        go_wp2
        go_ret2
        exact ⟨hb, .inr (.inr ⟨by omega, [], _, parseT_of HIT.out (.inl rfl), hfi.out, rfl, HOWN.out⟩)⟩

end Go.Proofs.YtpgcjljaokopaaaDoor

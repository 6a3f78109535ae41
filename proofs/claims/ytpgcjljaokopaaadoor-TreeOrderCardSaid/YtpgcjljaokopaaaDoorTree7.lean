/- tree.mode and tree.Parse: which tree bytes are. Conditions: the library's tables are laid, at most 2^30 bytes; a nil slice has no capacity. -/
import Derived.Test.YtpgcjljaokopaaaDoorPureTree
import Derived.Test.YtpgcjljaokopaaaDoorItems
import Derived.Test.YtpgcjljaokopaaaDoorCut
import Derived.Test.YtpgcjljaokopaaaDoorCutB
namespace Go.Proofs.YtpgcjljaokopaaaDoor
set_option linter.unusedVariables false
set_option linter.unusedSimpArgs false
open Go.RowKit

theorem modeT_none {l : List UInt8} (h : ∀ j : Nat, 1 ≤ j → j < 5 → Pure.wordM (j : Int) ≠ l) : modeT l = 0 := by
  rcases modeT_cases l with h0 | ⟨h1, h4, e⟩
  · exact h0
  · exfalso
    have := h (modeT l).toNat (by omega) (by omega)
    rw [Int.toNat_of_nonneg (by omega)] at this
    exact this e.symm

set_option maxRecDepth 100000 in
set_option maxHeartbeats 1000000 in
theorem tree_mode (s : ByteArray) (w : World) :
    Calls Tryd.prog 37 #[.string s] w fun e w' => e = .returned (.int .i64 (modeT s.data.toList)) ∧ w' = w := by
  go_enter Tryd.func37, Tryd.ntmps37
  go_wp2
  go_loop [3] (fun i => ∃ m : Nat, i = .int .i64 (m : Int) ∧ 1 ≤ m ∧ m ≤ 5 ∧ Hid (∀ j : Nat, 1 ≤ j → j < m → Pure.wordM (j : Int) ≠ s.data.toList)) (fun i => 5 - (intOf i).toNat)
  case atStart => exact ⟨1, rfl, by omega, by omega, fun j h1 h2 => by omega⟩
  case round =>
    obtain ⟨m, rfl, h1, h5, hno⟩ := hrel
    by_cases hlt : m ≤ 4
    · have hlt2 : (m : Int) ≤ 4 := by omega
      have cW := tree_word (m : Int)
      obtain ⟨E, hE⟩ : ∃ E, ((⟨(Pure.wordM (m : Int)).toArray⟩ : ByteArray).toList == s.toList) = E := ⟨_, rfl⟩
      have hEq : E = true ↔ Pure.wordM (m : Int) = s.data.toList := by rw [← hE, beq_iff_eq, ByteArray.toList_eq, ByteArray.toList_eq]
      generalize (⟨(Pure.wordM (m : Int)).toArray⟩ : ByteArray) = WS at cW hE
      have HEQ := Lib.hid hEq
      clear hEq
      cases E with
      | true =>
        have hm : modeT s.data.toList = (m : Int) := by rw [← HEQ.out.1 rfl]; exact modeT_word ⟨by omega, by omega⟩
        have HM := Lib.hid hm
        clear hm
        go_wp2_with (go_at_call 33; with_reducible refine (cW _).mono ?_; rintro e9 W9 ⟨rfl, h9⟩; subst W9)
        go_ret
        exact ⟨by rw [HM.out]; rfl, rfl⟩
      | false =>
        go_wp2_with (go_at_call 33; with_reducible refine (cW _).mono ?_; rintro e9 W9 ⟨rfl, h9⟩; subst W9)
        go_round
        case rel =>
          refine ⟨m + 1, by go_num, by omega, by omega, fun j k1 k2 => ?_⟩
          by_cases e : j = m
          · subst e; intro e; have := HEQ.out.2 e; cases this
          · exact hno.out j k1 (by omega)
        case measure => simp [intOf]; omega
    · obtain rfl : m = 5 := by omega
      have hm := modeT_none hno.out
      have HM := Lib.hid hm
      clear hm hno
      go_wp2
      go_ret
      exact ⟨by rw [HM.out]; rfl, rfl⟩

/-- What Parse leaves. -/
def ParsePostI (l : List UInt8) (w : World) (e : Ending) (w' : World) : Prop := Grew w w' ∧
  ((65536 < l.length ∧ e = .returned (.tuple #[.slice none 0 0, .int .i64 5])) ∨ (l.length ≤ 65536 ∧ parseT l = none ∧ e = .returned (.tuple #[.slice none 0 0, .int .i64 4])) ∨
   (l.length ≤ 65536 ∧ ∃ its v, parseT l = some its ∧ (∀ x ∈ its, FineI x) ∧ e = .returned (.tuple #[v, .int .i64 0]) ∧ OwnI w' w.heap.size v its))

theorem parse_over {l r r' : List UInt8} {ds : List Itm} {x : Itm} (h : itemsT l.length l = (itemsT r.length r).map (ds ++ ·)) (hi : itemT r = some (x, r')) (hd : ds.length = 500) : parseT l = none := by
  rw [itemsT_step hi] at h
  cases hq : itemsT r'.length r' with
  | none => rw [hq] at h; exact parseT_none h
  | some more =>
    rw [hq] at h
    refine parseT_bad h (by simp) ?_
    unfold rightI
    rw [decide_eq_false (show ¬ (ds ++ x :: more).length ≤ 500 by simp; omega)]
    simp
theorem parse_stop {l r : List UInt8} {ds : List Itm} (h : itemsT l.length l = (itemsT r.length r).map (ds ++ ·)) (hne : r ≠ []) (hi : itemT r = none) : parseT l = none := by
  rw [itemsT_none hne hi] at h
  exact parseT_none h

theorem range_take {w : World} {b o : Nat} {l : List UInt8} (h : Rd w (some ⟨b, o, none⟩) l) (k : Nat) : w.rangeAt b o (Lib.byteCells (l.take k)) := by
  intro j v hv
  rw [byteCells_getElem?] at hv
  rcases h with rfl | ⟨b', o', e, _, hc⟩
  · simp at hv
  · cases e
    rw [List.getElem?_take] at hv
    split at hv
    · rw [Option.map_eq_some_iff] at hv
      obtain ⟨c, h1, rfl⟩ := hv
      have hj := (List.getElem?_eq_some_iff.1 h1).1
      rw [hc j hj, List.getD_eq_getElem?_getD, h1]
      rfl
    · simp at hv

set_option maxRecDepth 100000 in
set_option maxHeartbeats 8000000 in
theorem tree_Parse (p : Option Addr) (l : List UInt8) (cap : Nat) (w : World) (hr : Rd w p l) (hp : p = none → cap = 0) (hcap : l.length ≤ cap) (hl : l.length ≤ 1073741824) (hm : MaxOk w) (hu : U8Ok w) (hF : FoldOk w) :
    Calls Tryd.prog 20 #[.slice p l.length cap] w (ParsePostI l w) := by
  have g0 : Grew w w := Below.refl _ _
  by_cases hbig : 65536 < l.length
  · have f1 : decide (65536 < (l.length : Int)) = true := decide_eq_true (by omega)
    clear hm hu hF hr
    go_enter Tryd.func20, Tryd.ntmps20
    go_wp2
    go_ret2
    exact ⟨g0, .inl ⟨hbig, rfl⟩⟩
  have f1 : decide (65536 < (l.length : Int)) = false := decide_eq_false (by omega)
  have HM := Lib.hid hm
  have HU := Lib.hid hu
  have HFO := Lib.hid hF
  clear hm hu hF
  go_enter Tryd.func20, Tryd.ntmps20
  go_wp2
  clear f1
  go_loopw [0, 4] (fun bv lv wr => ∃ (q : Option Addr) (r : List UInt8) (c : Nat) (ds : List Itm) (v : Value), .slice q r.length c = bv ∧ v = lv ∧ Hid (Rd w q r) ∧ (q = none → c = 0) ∧ r.length ≤ c ∧ Grew w wr ∧ OwnI wr w.heap.size v ds ∧ ds.length ≤ 500 ∧ r.length ≤ l.length ∧ Hid (itemsT l.length l = (itemsT r.length r).map (ds ++ ·)) ∧ Hid (∀ x ∈ ds, FineI x)) (fun bv _ _ => match bv with | .slice _ n _ => n | _ => 0)
  case atStart => exact ⟨p, l, cap, [], _, rfl, rfl, hr, hp, hcap, g0, OwnI.nil _ _, by simp, Nat.le_refl _, by simp [Hid], by simp [Hid]⟩
  case round =>
    obtain ⟨q, r, c, ds, v, rfl, rfl, hrr, hq, hrc, hb, hown, hds, hrl, hit, hfi⟩ := hrel
    clear hr hp hcap g0
    by_cases h0 : 0 < r.length
    · have f2 : decide (0 < r.length) = true := decide_eq_true h0
      have hne : r ≠ [] := by rintro rfl; simp at h0
      obtain ⟨V, hV, gV, gVV, hqv⟩ := boxed wr #[.int .u8 0] 5
      have gwV := hb.trans' gV
      have hrz : Rd V (some ⟨wr.heap.size, 0, none⟩) [0] := .inr ⟨_, 0, rfl, by rw [← hV]; simp, fun i hi => by
        have : i = 0 := by simp at hi; omega
        subst this
        exact hqv V gVV 0 _ rfl⟩
      have cc := bytes_CutC 0 q (some ⟨wr.heap.size, 0, none⟩) r c V (hrr.out.below gwV (Nat.le_refl _)) hrz hq hrc (by omega) (HM.out.grew gwV)
      clear hqv hrz
      have HNE := Lib.hid hne
      clear hne
      have k0 := conv_string c (hrr.out.below gwV (Nat.le_refl _))
      go_wp2_with fail
      refine Calls.mono cc ?_
      rintro e2 W2 ⟨g2, ⟨hc, rfl⟩ | ⟨a, rr, p2, c2, hc, rfl, hrd, hrc2, hp2⟩⟩
      all_goals
        have gw2 := gwV.trans' g2
        clear cc
      · have hi0 : itemT r = none := by unfold itemT; rw [hc]
        have hpn := parse_stop hit.out HNE.out hi0
        have HPN := Lib.hid hpn
        have k1 := conv_string c (hrr.out.below gw2 (Nat.le_refl _))
        have cS := strings_Cut1 32 ⟨r.toArray⟩ W2 (by show r.toArray.size ≤ _; simp; omega) (HM.out.grew gw2)
        clear hpn hi0 hc k0
        go_wp2_with fail
        refine Calls.mono cS ?_
        rintro e3 W3 ⟨g3, ⟨_, rfl⟩ | ⟨x1, x2, _, _, rfl⟩⟩
        all_goals
          clear cS
          go_wp2
          go_ret2
          exact ⟨gw2.trans' g3, .inr (.inl ⟨by omega, HPN.out, rfl⟩)⟩
      · have hl2 := Pure.cutC_len hc
        have k1 := conv_string c ((hrd w hrr.out).1.below gw2 (Nat.le_refl _))
        have cS := strings_Cut1 32 ⟨a.toArray⟩ W2 (by show a.toArray.size ≤ _; simp; omega) (HM.out.grew gw2)
        have HRD := Lib.hid (hrd w hrr.out).2
        have HC := Lib.hid hc
        clear k0 hc hrd
        go_wp2_with fail
        refine Calls.mono cS ?_
        rintro e3 W3 ⟨g3, ⟨hsp, rfl⟩ | ⟨f, n, hsp, hsz, rfl⟩⟩
        all_goals
          have gw3 := gw2.trans' g3
          clear cS
        · have hi0 : itemT r = none := by unfold itemT; rw [HC.out]; simp only; rw [show Pure.cutC 32 a = none from hsp]
          have hpn := parse_stop hit.out HNE.out hi0
          have HPN := Lib.hid hpn
          clear hpn hi0 hsp
          go_wp2
          go_ret2
          exact ⟨gw3, .inr (.inl ⟨by omega, HPN.out, rfl⟩)⟩
        · by_cases h20 : rr.length < 20
          · have hi0 : itemT r = none := by
              unfold itemT; rw [HC.out]; simp only; rw [show Pure.cutC 32 a = _ from hsp]; simp only
              rw [if_pos h20]
            have hpn := parse_stop hit.out HNE.out hi0
            have HPN := Lib.hid hpn
            have f3 : decide ((rr.length : Int) < 20) = true := decide_eq_true (by omega)
            clear hpn hi0 hsp
            go_wp2
            go_ret2
            exact ⟨gw3, .inr (.inl ⟨by omega, HPN.out, rfl⟩)⟩
          · have hi1 : itemT r = some (⟨modeT f.data.toList, n, rr.take 20⟩, rr.drop 20) := by
              unfold itemT; rw [HC.out]; simp only; rw [show Pure.cutC 32 a = _ from hsp]; simp only
              rw [if_neg h20]
            have f3 : decide ((rr.length : Int) < 20) = false := decide_eq_false (by omega)
            obtain ⟨pv, cv, hv, hrv, hcv⟩ := hown.val
            subst hv
            by_cases h500 : ds.length = 500
            · have hpn := parse_over hit.out hi1 h500
              have HPN := Lib.hid hpn
              have f4 : ((ds.length : Int) == 500) = true := by rw [beq_iff_eq]; omega
              clear hpn hi1 hsp hrv hown
              go_wp2
              go_ret2
              exact ⟨gw3, .inr (.inl ⟨by omega, HPN.out, rfl⟩)⟩
            · have f4 : ((ds.length : Int) == 500) = false := by rw [beq_eq_false_iff_ne]; omega
              clear hrv
              rcases HRD.out with h | ⟨bb, oo, rfl, hblt, hcell⟩
              · subst h; simp at h20
              have hrl2 : rr.length ≤ l.length := by omega
              have hid : (rr.take 20).length = 20 := by rw [List.length_take]; omega
              have rid : ∀ W, Grew w W → W.rangeAt bb oo (Lib.byteCells (rr.take 20)) := fun W g => range_grew (range_take (.inr ⟨bb, oo, rfl, hblt, hcell⟩) 20) g
              have nfi := infoId' hid
              have k20 := arrayAt20
              obtain ⟨hx1, hx2, hx3⟩ := itemT_some hi1
              obtain ⟨X, hX⟩ : ∃ X : Itm, (⟨modeT f.data.toList, n, rr.take 20⟩ : Itm) = X := ⟨_, rfl⟩
              have hbX := fun W => run_build_item (modeT f.data.toList) n (rr.take 20) hid W
              have cM := fun W => tree_mode f W
              rw [hX] at hi1 hx2 hx3
              simp only [hX] at hbX
              have hstep : itemsT l.length l = (itemsT (rr.drop 20).length (rr.drop 20)).map ((ds ++ [X]) ++ ·) := by
                rw [hit.out, itemsT_step hi1, Option.map_map]
                congr 1
                funext y
                simp
              have HST := Lib.hid hstep
              have hfX : ∀ y ∈ ds ++ [X], FineI y := by
                intro y hy
                rw [List.mem_append] at hy
                rcases hy with hy | hy
                · exact hfi.out y hy
                · simp at hy; subst hy; exact ⟨hx2, by omega⟩
              have HFX := Lib.hid hfX
              have hownD := (hown.below (gV.trans' (g2.trans' g3))).below (Below.drew (Below.refl _ _) : Grew W3 W3.drew)
              have gw3d : Grew w W3.drew := gw3.drew
              have hal := heap_alloc_new W3.drew (.cells X.cells.toArray 25)
              have rX : (W3.drew.alloc (.cells X.cells.toArray 25)).rangeAt W3.drew.heap.size 0 X.cells := by have := range_row hal; simpa using this
              have gwX : Grew w (W3.drew.alloc (.cells X.cells.toArray 25)) := gw3d.alloc gw3d.size _
              have hownX := hownD.below ((Below.refl _ _).alloc (Nat.le_refl _) (.cells X.cells.toArray 25) : Grew W3.drew _)
              have hc20 : (20 : Int) ≤ (c2 : Int) := by omega
              have HOX := Lib.hid hownX
              have hc0 : ¬ c2 = 0 := by omega
              clear hownX hownD hal hown hX hfX hstep hi1 hit hsp hfi
              go_wp2
              refine wp_region_held_drew (S := fun w' => Grew w w') (by kernel_rfl) (by (first | assumption | exact Below.drew (by assumption) | exact gwX)) (fun hHeld => ?_)
              first
                | (refine wpAnyH_take (i := 0) (v := ?_) rfl (by kernel_rfl) (by kernel_rfl) (by kernel_rfl) (fun _ _ _ h => h) (Or.inl ⟨by rfl, ?_⟩) (by assumption) ?_; rotate_left 1; focus (intro w hSw; (try dsimp only at hSw); go_simp; (try with_reducible rfl)))
                | fail
              try simp only [Act.put, List.getElem_toArray, List.getElem_cons_succ, List.getElem_cons_zero, List.setIfInBounds_toArray, List.set_cons_zero, List.set_cons_succ]
              first
                | (refine wpAnyH_take (i := 1) (v := ?_) rfl (by kernel_rfl) (by kernel_rfl) (by kernel_rfl) (fun _ _ _ h => h) (Or.inl ⟨by rfl, ?_⟩) (by assumption) ?_; rotate_left 1; focus (intro w hSw; (try dsimp only at hSw); go_simp; (try with_reducible rfl)))
                | fail
              try simp only [Act.put, List.getElem_toArray, List.getElem_cons_succ, List.getElem_cons_zero, List.setIfInBounds_toArray, List.set_cons_zero, List.set_cons_succ]
              first
                | (refine wpAnyH_take (i := 3) (v := ?_) rfl (by kernel_rfl) (by kernel_rfl) (by kernel_rfl) (fun _ _ _ h => h) (Or.inl ⟨by rfl, ?_⟩) (by assumption) ?_; rotate_left 1; focus (intro w hSw; (try dsimp only at hSw); go_simp; (try with_reducible rfl)))
                | fail
              try simp only [Act.put, List.getElem_toArray, List.getElem_cons_succ, List.getElem_cons_zero, List.setIfInBounds_toArray, List.set_cons_zero, List.set_cons_succ]
              first
                | (refine wpAnyH_take (i := 4) (v := ?_) rfl (by kernel_rfl) (by kernel_rfl) (by kernel_rfl) (fun _ _ _ h => h) (Or.inl ⟨by rfl, ?_⟩) (by assumption) ?_; rotate_left 1; focus (intro w hSw; (try dsimp only at hSw); go_simp; (try with_reducible rfl)))
                | fail
              try simp only [Act.put, List.getElem_toArray, List.getElem_cons_succ, List.getElem_cons_zero, List.setIfInBounds_toArray, List.set_cons_zero, List.set_cons_succ]
              first
                | (refine wpAnyH_take (i := 5) (v := ?_) rfl (by kernel_rfl) (by kernel_rfl) (by kernel_rfl) (fun _ _ _ h => h) (Or.inl ⟨by rfl, ?_⟩) (by assumption) ?_; rotate_left 1; focus (intro w hSw; (try dsimp only at hSw); go_simp; (try with_reducible rfl)))
                | fail
              try simp only [Act.put, List.getElem_toArray, List.getElem_cons_succ, List.getElem_cons_zero, List.setIfInBounds_toArray, List.set_cons_zero, List.set_cons_succ]
              first
                | (refine wpAnyH_take (i := 6) (v := ?_) rfl (by kernel_rfl) (by kernel_rfl) (by kernel_rfl) (fun _ _ _ h => h) (Or.inl ⟨by rfl, ?_⟩) (by assumption) ?_; rotate_left 1; focus (intro w hSw; (try dsimp only at hSw); go_simp; (try with_reducible rfl)))
                | fail
              try simp only [Act.put, List.getElem_toArray, List.getElem_cons_succ, List.getElem_cons_zero, List.setIfInBounds_toArray, List.set_cons_zero, List.set_cons_succ]
              first
                | (refine' wpAnyH_take (i := 7) (v := _) rfl (by kernel_rfl) (by kernel_rfl) (by kernel_rfl) (fun _ _ _ h => h) (yieldsIf_load_mid (by rfl) _ _ rfl _ _ rfl _ _ (fun w hSw => (by (exact rid _ hSw))) Tryd.underlying23 rfl (by first | assumption | kernel_rfl)) (by assumption) ?_)
                | fail
              try simp only [Act.put, List.getElem_toArray, List.getElem_cons_succ, List.getElem_cons_zero, List.setIfInBounds_toArray, List.set_cons_zero, List.set_cons_succ]
              refine wpAnyH_ready (rs := [2]) (by kernel_rfl) (by simp) ?_
              refine AllReadyH.cons rfl (fun K hK => ?_) AllReadyH.nil
              go_simp
              (go_at_call 37; with_reducible refine (cM _).mono ?_; rintro e9 W9 ⟨rfl, h9⟩; subst W9)
              go_wp2_with fail
              refine hK.out _ _ (by (first | assumption | exact Below.drew (by assumption) | exact gwX)) (fun hHeld => ?_)
              clear hK K
              try simp only [Act.put, List.getElem_toArray, List.getElem_cons_succ, List.getElem_cons_zero, List.setIfInBounds_toArray, List.set_cons_zero, List.set_cons_succ]
              first
                | (refine wpAnyH_take (i := 8) (v := .agg X.cells.toArray) rfl (by kernel_rfl) (by kernel_rfl) (by kernel_rfl) (fun _ _ _ h => h) (Or.inl ⟨by rfl, fun w hSw => (by exact exec_build _ _ rfl _ (hbX w))⟩) (by assumption) ?_)
                | fail
              try simp only [Act.put, List.getElem_toArray, List.getElem_cons_succ, List.getElem_cons_zero, List.setIfInBounds_toArray, List.set_cons_zero, List.set_cons_succ]
              refine wpAnyH_ready (rs := [9]) (by kernel_rfl) (by simp) ?_
              refine AllReadyH.cons rfl (fun K hK => ?_) AllReadyH.nil
              (refine step_run rfl _ _ (exec_buildSlice _ _ _ rfl _ (run_slice_item X hx2 _)) ?_)
              refine hK.out _ _ (by (first | assumption | exact Below.drew (by assumption) | exact gwX)) (fun hHeld => ?_)
              clear hK K
              try simp only [Act.put, List.getElem_toArray, List.getElem_cons_succ, List.getElem_cons_zero, List.setIfInBounds_toArray, List.set_cons_zero, List.set_cons_succ]
              refine wpAnyH_ready (rs := [10]) (by kernel_rfl) (by simp) ?_
              refine AllReadyH.cons rfl (fun K hK => ?_) AllReadyH.nil
              (refine step_append_I rfl _ _ rfl w.heap.size _ ds X _ rfl rfl HOX.out hx2 rX gwX.size (by omega) ?_; intro v4 W4 hown4 hb4 hg4; have gw4 : Grew w W4 := Below.trans gwX hb4)
              refine hK.out _ _ (by (first | assumption | exact Below.drew (by assumption) | exact gwX)) (fun hHeld => ?_)
              clear hK K
              try simp only [Act.put, List.getElem_toArray, List.getElem_cons_succ, List.getElem_cons_zero, List.setIfInBounds_toArray, List.set_cons_zero, List.set_cons_succ]
              first
                | (refine wpAnyH_take (i := 11) (v := ?_) rfl (by kernel_rfl) (by kernel_rfl) (by kernel_rfl) (fun _ _ _ h => h) (Or.inl ⟨by rfl, ?_⟩) (by assumption) ?_; rotate_left 1; focus (intro w hSw; (try dsimp only at hSw); go_simp; (try with_reducible rfl)))
                | fail
              try simp only [Act.put, List.getElem_toArray, List.getElem_cons_succ, List.getElem_cons_zero, List.setIfInBounds_toArray, List.set_cons_zero, List.set_cons_succ]
              refine wpAnyH_done (by kernel_rfl) ?_ _
              by_cases hc2 : c2 = 20
              · have hrr0 : rr.length = 20 := by omega
                have hd0 : rr.drop 20 = [] := List.drop_of_length_le (by omega)
                have HST2 := HST.out
                rw [hd0] at HST2
                have HS2 := Lib.hid HST2
                clear HST2 hd0
                go_wp2
                go_roundw
                case rel => exact ⟨_, [], 0, ds ++ [X], v4, rfl, rfl, .inl rfl, fun _ => rfl, Nat.le_refl _, gw4, hown4, by rw [List.length_append]; show _ + 1 ≤ _; omega, Nat.zero_le _, HS2, HFX⟩
                case measure => show 0 < r.length; exact h0
              · have hd0 : (rr.drop 20).length = rr.length - 20 := List.length_drop
                have hrd2 : Rd w (some ⟨bb, oo + 20, none⟩) (rr.drop 20) := .inr ⟨bb, oo + 20, rfl, hblt, fun i hi => by
                  rw [List.length_drop] at hi
                  rw [Nat.add_assoc, hcell (20 + i) (by omega), List.getD_eq_getElem?_getD, List.getD_eq_getElem?_getD, List.getElem?_drop]⟩
                have HD := Lib.hid hd0
                have HRD2 := Lib.hid hrd2
                clear hd0 hrd2
                go_wp2
                go_roundw
                case rel => exact ⟨_, rr.drop 20, c2 - 20, ds ++ [X], v4, by rw [HD.out], rfl, HRD2, fun h => by (cases h), by rw [HD.out]; omega, gw4, hown4, by rw [List.length_append]; show _ + 1 ≤ _; omega, by rw [HD.out]; omega, HST, HFX⟩
                case measure => show rr.length - 20 < r.length; omega
    · have hr0 : r = [] := List.eq_nil_of_length_eq_zero (by omega)
      subst hr0
      have hits : itemsT l.length l = some ds := by rw [hit.out]; simp [itemsT]
      obtain ⟨pv, cv, rfl, hrd, hcv⟩ := hown.val
      have cR := (fun W (g : Grew wr W) => tree_Right pv ds cv W (by omega) (hrd.grew g) hfi.out (HM.out.grew (hb.trans' g)) (u8_grew HU.out (hb.trans' g)) (HFO.out.grew (hb.trans' g)))
      have HIT := Lib.hid hits
      have HOWN := Lib.hid hown
      have grr : Grew wr wr := Below.refl _ _
      clear hits hit hrr hown hrd
      by_cases hd0 : 0 < ds.length
      · have f2 : decide (0 < ds.length) = true := decide_eq_true hd0
        have hne : ds ≠ [] := by rintro rfl; simp at hd0
        have HNE := Lib.hid hne
        clear hne
        obtain ⟨R, hR⟩ : ∃ R, rightI ds = R := ⟨_, rfl⟩
        rw [hR] at cR
        have HRR := Lib.hid hR
        clear hR
        cases R with
        | false =>
          go_wp2_with (first | (go_at_call 14; with_reducible refine (cR _ (by assumption)).mono ?_; rintro e1 W1 ⟨rfl, g1⟩; replace g1 := Grew.trans' (a := wr) (by assumption) g1))
          go_ret2
          exact ⟨hb.trans' (by assumption), .inr (.inl ⟨by omega, parseT_bad HIT.out HNE.out HRR.out, rfl⟩)⟩
        | true =>
          go_wp2_with (first | (go_at_call 14; with_reducible refine (cR _ (by assumption)).mono ?_; rintro e1 W1 ⟨rfl, g1⟩; replace g1 := Grew.trans' (a := wr) (by assumption) g1))
          go_ret2
          have gE : Grew wr W1 := by assumption
          exact ⟨hb.trans' gE, .inr (.inr ⟨by omega, ds, _, parseT_of HIT.out (.inr HRR.out), hfi.out, rfl, HOWN.out.below gE⟩)⟩
      · have f2 : decide (0 < ds.length) = false := decide_eq_false hd0
        have hd : ds = [] := List.eq_nil_of_length_eq_zero (by omega)
        subst hd
        go_wp2
        go_ret2
        exact ⟨hb, .inr (.inr ⟨by omega, [], _, parseT_of HIT.out (.inl rfl), hfi.out, rfl, HOWN.out⟩)⟩

end Go.Proofs.YtpgcjljaokopaaaDoor

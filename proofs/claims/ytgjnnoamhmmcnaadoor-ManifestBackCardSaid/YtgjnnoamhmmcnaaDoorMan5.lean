/- The reference's Parse of files. Conditions: at most 2^30 bytes; the library's tables are laid. -/
import Derived.Test.YtgjnnoamhmmcnaaDoorMan2
import Derived.Test.YtgjnnoamhmmcnaaDoorMan4
import Derived.Test.YtgjnnoamhmmcnaaDoorHexa7
import Derived.Test.YtgjnnoamhmmcnaaDoorHelpBytes
import Derived.Test.YtgjnnoamhmmcnaaDoorM1
namespace Go.Proofs.YtgjnnoamhmmcnaaDoor
set_option linter.unusedVariables false
set_option linter.unusedSimpArgs false
open Go.RowKit

theorem zero_far {q ln rest p r0 : List UInt8} (h1 : Pure.cutC 10 q = some (ln, rest)) (h2 : Pure.cutC 0 q = some (p, r0)) : (ln.length < p.length ∧ Pure.cutC 0 ln = none) ∨ (p.length < ln.length ∧ ∃ r, ln = p ++ 0 :: r ∧ Pure.cutC 0 ln = some (p, r)) := by
  obtain ⟨e1, n1⟩ := (Pure.cutC_some _ _ _ _).1 h1
  obtain ⟨e2, n2⟩ := (Pure.cutC_some _ _ _ _).1 h2
  rw [e1] at e2
  rcases List.append_eq_append_iff.1 e2 with ⟨t, ht, hr⟩ | ⟨t, ht, hr⟩
  · cases t with
    | nil => simp at hr
    | cons c t =>
      left
      rw [ht]
      refine ⟨by simp, ?_⟩
      rw [Pure.cutC_none]
      intro d hd
      exact n2 d (by rw [ht]; simp [hd])
  · cases t with
    | nil => simp at hr
    | cons c t =>
      right
      simp only [List.cons_append, List.cons.injEq] at hr
      obtain ⟨rfl, -⟩ := hr
      rw [ht]
      exact ⟨by simp, t, rfl, Pure.cutC_app _ _ _ n2⟩
theorem zero_none {q ln rest : List UInt8} (h1 : Pure.cutC 10 q = some (ln, rest)) (h2 : Pure.cutC 0 q = none) : Pure.cutC 0 ln = none := by
  obtain ⟨e1, -⟩ := (Pure.cutC_some _ _ _ _).1 h1
  rw [Pure.cutC_none] at h2 ⊢
  intro d hd
  exact h2 d (by rw [e1]; simp [hd])
theorem fileM_none {ln : List UInt8} (h : Pure.cutC 0 ln = none) : fileM ln = none := by unfold fileM; rw [h]
theorem fileM_short {ln p r : List UInt8} (h : Pure.cutC 0 ln = some (p, r)) (hr : r.length < 40) : fileM ln = none := by
  unfold fileM
  rw [h]
  simp only
  cases hu : Pure.unhex (r.take 40) with
  | none => rfl
  | some id =>
    have := Pure.unhex_length hu
    rw [List.length_take] at this
    simp only
    rw [if_neg (by omega)]
theorem fileM_long {ln p r : List UInt8} (h : Pure.cutC 0 ln = some (p, r)) (hr : 41 < r.length) : fileM ln = none := by
  unfold fileM
  rw [h]
  simp only
  have hm : modeM (r.drop 40) = none := by
    have hl : (r.drop 40).length = r.length - 40 := List.length_drop
    unfold modeM
    rw [if_neg (fun e => by rw [e] at hl; simp at hl; omega), if_neg (fun e => by rw [e] at hl; simp at hl; omega), if_neg (fun e => by rw [e] at hl; simp at hl; omega)]
  cases hu : Pure.unhex (r.take 40) with
  | none => rfl
  | some id =>
    simp only
    rw [hm]
    split <;> rfl
theorem fileM_noid {ln p r : List UInt8} (h : Pure.cutC 0 ln = some (p, r)) (hu : ∀ l, Pure.unhex (r.take 40) = some l → l.length ≠ 20) : fileM ln = none := by
  unfold fileM
  rw [h]
  simp only
  cases hq : Pure.unhex (r.take 40) with
  | none => rfl
  | some id => simp only; rw [if_neg (hu id hq)]
theorem fileM_id {ln p r id : List UInt8} (h : Pure.cutC 0 ln = some (p, r)) (hu : Pure.unhex (r.take 40) = some id) (h20 : id.length = 20) : fileM ln = (modeM (r.drop 40)).map fun m => ⟨⟨p.toArray⟩, m, id⟩ := by
  unfold fileM
  rw [h]
  simp only
  rw [hu]
  simp only
  rw [if_pos h20]
theorem lineM_of {q ln rest : List UInt8} (h : Pure.cutC 10 q = some (ln, rest)) : lineM q = (fileM ln).map fun f => (f, rest) := by unfold lineM; rw [h]
theorem fil_set1 (i : Fil) (m : Int) : i.cells.toArray.setIfInBounds 1 (.int .i64 m) = ({ i with mode := m } : Fil).cells.toArray := by simp [Fil.cells]
theorem run_build_file2 (p : ByteArray) (m : Int) (id : List UInt8) (h : id.length = 20) (w : World) : (Instr.build 28 #[(0, .string p), (2, .agg (Lib.byteCells id).toArray), (1, .int .i64 m)]).run Tryd.prog w = .ok (.agg (⟨p, m, id⟩ : Fil).cells.toArray) w := by
  have hl : (Lib.byteCells id).length = 20 := by rw [Lib.byteCells_length]; exact h
  obtain ⟨b0, b1, b2, b3, b4, b5, b6, b7, b8, b9, b10, b11, b12, b13, b14, b15, b16, b17, b18, b19, hb⟩ : ∃ b0 b1 b2 b3 b4 b5 b6 b7 b8 b9 b10 b11 b12 b13 b14 b15 b16 b17 b18 b19, Lib.byteCells id = [b0, b1, b2, b3, b4, b5, b6, b7, b8, b9, b10, b11, b12, b13, b14, b15, b16, b17, b18, b19] := by
    generalize Lib.byteCells id = L at hl
    match L, hl with
    | [b0, b1, b2, b3, b4, b5, b6, b7, b8, b9, b10, b11, b12, b13, b14, b15, b16, b17, b18, b19], _ => exact ⟨_, _, _, _, _, _, _, _, _, _, _, _, _, _, _, _, _, _, _, _, rfl⟩
  unfold Fil.cells
  simp only [hb]
  exact run_build w _ _ _ (by kernel_rfl)
theorem ext_list (q : ByteArray) (i j : Nat) (l : List UInt8) (h : (q.data.toList.take j).drop i = l) : (q.extract i j).data.toList = l := by
  rw [ByteArray.data_extract]
  simp only [Array.toList_extract, List.extract_eq_take_drop]
  rw [← h, List.drop_take]

set_option maxRecDepth 100000 in
set_option maxHeartbeats 8000000 in
theorem ref16_Parse (p : Option Addr) (b : List UInt8) (cap : Nat) (w : World) (hr : Rd w p b) (hl : b.length ≤ 1073741824) (hu : U8Ok w) :
    Calls Tryd.prog 12 #[.slice p b.length cap] w (ParsePostM b w) := by
  have g0 : Grew w w := Below.refl _ _
  have k0 := conv_string cap hr
  have HR := Lib.hid hr
  have HU := Lib.hid hu
  obtain ⟨B0, hB0⟩ : ∃ B0, (⟨b.toArray⟩ : ByteArray) = B0 := ⟨_, rfl⟩
  have hB0l : B0.data.toList = b := by rw [← hB0]
  have hB0s : B0.size = b.length := by rw [Lib.size_eq, hB0l]
  rw [hB0] at k0
  clear hr hu hB0
  go_enter Tryd.func12, Tryd.ntmps12
  go_wp2
  go_loopw [4, 5] (fun rv lv wr => ∃ (q : ByteArray) (ds : List Fil) (v : Value), .string q = rv ∧ v = lv ∧ Grew w wr ∧ OwnG kFile wr w.heap.size v ds ∧ ds.length + q.size ≤ b.length ∧ Hid (linesM b.length b = (linesM q.data.toList.length q.data.toList).map (ds ++ ·)) ∧ Hid (∀ x ∈ ds, FineF x)) (fun rv _ _ => match rv with | .string s => s.size | _ => 0)
  case atStart => exact ⟨B0, [], _, rfl, rfl, g0, OwnG.nil _ _ _, by simp; omega, by rw [hB0l]; simp [Hid], by simp [Hid]⟩
  case round =>
    obtain ⟨q, ds, v, rfl, rfl, hb, hown, hdq, hit, hfi⟩ := hrel
    clear g0 k0 hB0l hB0s
    obtain ⟨wo, rfl⟩ : ∃ wo : World, wo = wr := ⟨_, rfl⟩
    have hql : q.data.toList.length = q.size := Array.length_toList
    by_cases h0 : 0 < q.size
    · have hq0 : (q.toList == ([] : List UInt8)) = false := by
        rw [beq_eq_false_iff_ne, ByteArray.toList_eq]
        intro e
        rw [e] at hql
        simp at hql
        omega
      have hne : q.data.toList ≠ [] := fun e => by
        rw [e] at hql
        simp at hql
        omega
      have HNE := Lib.hid hne
      have c10 := fun W => help_Find q ⟨#[10]⟩ W (by omega) (by decide) (by decide)
      have c00 := fun W => help_Find q ⟨#[0]⟩ W (by omega) (by decide) (by decide)
      have hcd : (⟨#[10]⟩ : ByteArray).data.toList = [10] := rfl
      have hce : (⟨#[0]⟩ : ByteArray).data.toList = [0] := rfl
      simp only [hcd] at c10
      simp only [hce] at c00
      have i10 := index_cut q.data.toList 10
      have i00 := index_cut q.data.toList 0
      obtain ⟨F1, hF1⟩ : ∃ F, Lib.index q.data.toList [10] = F := ⟨_, rfl⟩
      obtain ⟨F0, hF0⟩ : ∃ F, Lib.index q.data.toList [0] = F := ⟨_, rfl⟩
      simp only [hF1] at c10 i10
      simp only [hF0] at c00 i00
      clear hF1 hF0 hcd hce hne hql
      have arms1 := True.intro
      cases hc1 : Pure.cutC 10 q.data.toList with
      | none =>
        rw [hc1] at i10
        simp only at i10
        subst i10
        have hlm : lineM q.data.toList = none := by unfold lineM; rw [hc1]
        have hpn := parse_stopM hit.out HNE.out hlm
        have HPN := Lib.hid hpn
        clear hpn hlm hc1 i00
        go_wp2_with (first | (go_at_call 22; with_reducible refine (c10 _).mono ?_; rintro e9 W9 ⟨rfl, h9⟩; subst W9) | (go_at_call 22; with_reducible refine (c00 _).mono ?_; rintro e9 W9 ⟨rfl, h9⟩; subst W9))
        go_ret2
        exact ⟨hb, .inl ⟨HPN.out, rfl⟩⟩
      | some y1 =>
        obtain ⟨ln, rest⟩ := y1
        rw [hc1] at i10
        simp only at i10
        subst i10
        obtain ⟨e, he⟩ : ∃ e, ln.length = e := ⟨_, rfl⟩
        simp only [he] at c10
        have hlm := lineM_of hc1
        have HLM := Lib.hid hlm
        have hlen1 := Pure.cutC_len hc1
        have hql : q.data.toList.length = q.size := Array.length_toList
        have he0 : decide ((e : Int) < 0) = false := decide_eq_false (by omega)
        have hee : e + rest.length + 1 = q.size := by omega
        have HE := Lib.hid he
        clear hlm
        have hstop : ∀ (P : Prop), fileM ln = none → parseM b = none := fun _ h => parse_stopM hit.out HNE.out (by rw [HLM.out, h]; rfl)
        have HSTOP := Lib.hid hstop
        clear hstop
        cases hc0 : Pure.cutC 0 q.data.toList with
        | none =>
          rw [hc0] at i00
          simp only at i00
          subst i00
          have HPN := Lib.hid (HSTOP.out True (fileM_none (zero_none hc1 hc0)))
          clear hc1 hc0 he hlen1 hql
          go_wp2_with (first | (go_at_call 22; with_reducible refine (c10 _).mono ?_; rintro e9 W9 ⟨rfl, h9⟩; subst W9) | (go_at_call 22; with_reducible refine (c00 _).mono ?_; rintro e9 W9 ⟨rfl, h9⟩; subst W9))
          go_ret2
          exact ⟨hb, .inl ⟨HPN.out, rfl⟩⟩
        | some y0 =>
          obtain ⟨pp, r0⟩ := y0
          rw [hc0] at i00
          simp only at i00
          subst i00
          obtain ⟨z, hz⟩ : ∃ z, pp.length = z := ⟨_, rfl⟩
          simp only [hz] at c00
          have hz0 : decide ((z : Int) < 0) = false := decide_eq_false (by omega)
          rcases zero_far hc1 hc0 with ⟨hlt, hn⟩ | ⟨hlt, r, hln, hn⟩
          · have HPN := Lib.hid (HSTOP.out True (fileM_none hn))
            have hze : decide (e < z) = true := decide_eq_true (by omega)
            clear hc1 hc0 he hlen1 hql hz hn
            go_wp2_with (first | (go_at_call 22; with_reducible refine (c10 _).mono ?_; rintro e9 W9 ⟨rfl, h9⟩; subst W9) | (go_at_call 22; with_reducible refine (c00 _).mono ?_; rintro e9 W9 ⟨rfl, h9⟩; subst W9))
            go_ret2
            exact ⟨hb, .inl ⟨HPN.out, rfl⟩⟩
          · have hze : decide (e < z) = false := decide_eq_false (by omega)
            have hrl : z + 1 + r.length = e := by
              have := congrArg List.length hln
              simp only [List.length_append, List.length_cons] at this
              omega
            by_cases h41 : r.length < 40
            · have HPN := Lib.hid (HSTOP.out True (fileM_short hn h41))
              have d1 : decide ((e : Int) - (z : Int) < 41) = true := decide_eq_true (by omega)
              clear hc1 hc0 he hlen1 hql hz hn hln
              go_wp2_with (first | (go_at_call 22; with_reducible refine (c10 _).mono ?_; rintro e9 W9 ⟨rfl, h9⟩; subst W9) | (go_at_call 22; with_reducible refine (c00 _).mono ?_; rintro e9 W9 ⟨rfl, h9⟩; subst W9))
              go_ret2
              exact ⟨hb, .inl ⟨HPN.out, rfl⟩⟩
            have d1 : decide ((e : Int) - (z : Int) < 41) = false := decide_eq_false (by omega)
            by_cases h42 : 41 < r.length
            · have HPN := Lib.hid (HSTOP.out True (fileM_long hn h42))
              have d2 : decide (42 < (e : Int) - (z : Int)) = true := decide_eq_true (by omega)
              clear hc1 hc0 he hlen1 hql hz hn hln
              go_wp2_with (first | (go_at_call 22; with_reducible refine (c10 _).mono ?_; rintro e9 W9 ⟨rfl, h9⟩; subst W9) | (go_at_call 22; with_reducible refine (c00 _).mono ?_; rintro e9 W9 ⟨rfl, h9⟩; subst W9))
              go_ret2
              exact ⟨hb, .inl ⟨HPN.out, rfl⟩⟩
            have d2 : decide (42 < (e : Int) - (z : Int)) = false := decide_eq_false (by omega)
            have hqd : q.data.toList = (pp ++ 0 :: r) ++ 10 :: rest := by rw [← hln]; exact ((Pure.cutC_some _ _ _ _).1 hc1).1
            obtain ⟨P, hP⟩ : ∃ P, q.extract 0 z = P := ⟨_, rfl⟩
            obtain ⟨D1, hD1⟩ : ∃ P, q.extract (z + 1) (z + 41) = P := ⟨_, rfl⟩
            obtain ⟨D2, hD2⟩ : ∃ P, q.extract (z + 41) e = P := ⟨_, rfl⟩
            obtain ⟨D3, hD3⟩ : ∃ P, q.extract (e + 1) q.size = P := ⟨_, rfl⟩
            have lP : P.data.toList = pp := by
              rw [← hP]
              refine ext_list _ _ _ _ ?_
              rw [hqd, List.drop_zero, List.append_assoc, List.take_left' hz]
            have hzz : (pp ++ [0]).length = z + 1 := by rw [List.length_append, hz]; rfl
            have lD1 : D1.data.toList = r.take 40 := by
              rw [← hD1]
              refine ext_list _ _ _ _ ?_
              rw [hqd, List.drop_take, show (pp ++ 0 :: r) ++ 10 :: rest = (pp ++ [0]) ++ (r ++ 10 :: rest) by simp, List.drop_left' hzz, show z + 41 - (z + 1) = 40 by omega, List.take_append_of_le_length (by omega)]
            have lD2 : D2.data.toList = r.drop 40 := by
              rw [← hD2]
              refine ext_list _ _ _ _ ?_
              have hte : (pp ++ 0 :: r).length = e := by rw [← hln]; exact he
              rw [hqd, List.take_left' hte, show pp ++ 0 :: r = (pp ++ [0]) ++ r by simp, show z + 41 = (pp ++ [0]).length + 40 by rw [hzz], List.drop_append, List.drop_of_length_le (by omega), List.nil_append]
              congr 1
              omega
            have lD3 : D3.data.toList = rest := by
              rw [← hD3]
              refine ext_list _ _ _ _ ?_
              have hte : (pp ++ 0 :: r ++ [10]).length = e + 1 := by rw [← hln, List.length_append, he]; rfl
              rw [List.take_of_length_le (by omega), hqd, show pp ++ 0 :: r ++ 10 :: rest = (pp ++ 0 :: r ++ [10]) ++ rest by simp, List.drop_left' hte]
            have sD1 : D1.size = 40 := by rw [Lib.size_eq, lD1, List.length_take]; omega
            have sD2 : D2.size ≤ 1 := by rw [Lib.size_eq, lD2, List.length_drop]; omega
            have sD3 : D3.size < q.size := by rw [Lib.size_eq, lD3]; omega
            have sP : P.size ≤ q.size := by rw [Lib.size_eq, lP]; omega
            have o1 : z + 41 ≤ q.size := by omega
            have o2 : z + 41 ≤ e := by omega
            have o4 : e ≤ q.size := by omega
            have o5 : e + 1 ≤ q.size := by omega
            have o6 : z ≤ q.size := by omega
            have cI := (ref_Id D1 wo (by omega)).mono (fun _ _ h => id_uniform h)
            have HP := Lib.hid lP
            have HD1 := Lib.hid lD1
            have HD2 := Lib.hid lD2
            have HD3 := Lib.hid lD3
            have HN := Lib.hid hn
            clear lP lD1 lD2 lD3 hqd hzz hn hln hc1 hc0 he hz hrl hlen1 hql h41 h42 hlt hee
            go_wp2_with (first | (go_at_call 22; with_reducible refine (c10 _).mono ?_; rintro e9 W9 ⟨rfl, h9⟩; subst W9) | (go_at_call 22; with_reducible refine (c00 _).mono ?_; rintro e9 W9 ⟨rfl, h9⟩; subst W9) | (go_at_call 27; with_reducible refine cI.mono ?_))
            rintro e2 W2 ⟨id, E, rfl, hid, g2, hE⟩
            have nfx : (Tryd.prog.info? 26).map (·.size) = some (Lib.byteCells id).length := infoId' hid
            have one1 := one_bytes' id
            have h22 : (Lib.byteCells id).length = 20 := by rw [Lib.byteCells_length]; exact hid
            have gw2 := hb.trans' g2
            go_wp2_with (refine wpList_store_new rfl 26 _ _ rfl W2 _ rfl (Lib.byteCells id) rfl rfl h22.symm nfx one1 ?_)
            intro V gV gVV rV fV sV
            have gwV := gw2.trans' gV
            have hownV := hown.below (g2.trans' gV)
            clear hown g2 gV fV sV cI c10 c00
            rcases hE with ⟨rfl, hun⟩ | ⟨rfl, hun⟩
            rotate_right
            · have HPN := Lib.hid (HSTOP.out True (fileM_noid HN.out (by have := hun.out; rw [HD1.out] at this; exact this)))
              clear hun
              go_wp2
              go_ret2
              exact ⟨gwV, .inl ⟨HPN.out, rfl⟩⟩
            have hfi2 := fileM_id HN.out (by have := hun.out; rw [HD1.out] at this; exact this) hid
            have HFI2 := Lib.hid hfi2
            clear hun hfi2
            have kb := fun W => run_build_file2 P 1 id hid W
            obtain ⟨X1, hX1⟩ : ∃ X : Fil, (⟨P, 1, id⟩ : Fil) = X := ⟨_, rfl⟩
            simp only [hX1] at kb
            have hX1i : X1.id.length = 20 := by rw [← hX1]; exact hid
            have nfX := infoFile X1 hX1i
            have hX1c : X1.cells.toArray[1]? = some (.int .i64 1) := by rw [← hX1]; rfl
            have gA : ∀ O, Grew V (V.drew.alloc O) := fun O => (Below.drew gVV).alloc (Below.drew gVV).size O
            have HOD := Lib.hid hownV
            clear hownV
            go_wp2
            refine wp_region_held_drew (S := fun w' => Grew V w') (by kernel_rfl) (by (first | assumption | exact Below.drew (by assumption) | exact gA _)) (fun hHeld => ?_)
            first
              | (refine wpAnyH_take (i := 0) (v := ?_) rfl (by kernel_rfl) (by kernel_rfl) (by kernel_rfl) (fun _ _ _ h => h) (Or.inl ⟨by rfl, ?_⟩) (by assumption) ?_; rotate_left 1; focus (intro w hSw; (try dsimp only at hSw); go_simp; (try with_reducible rfl)))
              | fail
            try simp only [Act.put, List.getElem_toArray, List.getElem_cons_succ, List.getElem_cons_zero, List.setIfInBounds_toArray, List.set_cons_zero, List.set_cons_succ]
            first
              | (refine wpAnyH_take (i := 1) (v := ?_) rfl (by kernel_rfl) (by kernel_rfl) (by kernel_rfl) (fun _ _ _ h => h) (Or.inl ⟨by rfl, ?_⟩) (by assumption) ?_; rotate_left 1; focus (intro w hSw; (try dsimp only at hSw); go_simp; (try with_reducible rfl)))
              | fail
            try simp only [Act.put, List.getElem_toArray, List.getElem_cons_succ, List.getElem_cons_zero, List.setIfInBounds_toArray, List.set_cons_zero, List.set_cons_succ]
            first
              | (refine wpAnyH_take (i := 2) (v := ?_) rfl (by kernel_rfl) (by kernel_rfl) (by kernel_rfl) (fun _ _ _ h => h) (Or.inl ⟨by rfl, ?_⟩) (by assumption) ?_; rotate_left 1; focus (intro w hSw; (try dsimp only at hSw); go_simp; (try with_reducible rfl)))
              | fail
            try simp only [Act.put, List.getElem_toArray, List.getElem_cons_succ, List.getElem_cons_zero, List.setIfInBounds_toArray, List.set_cons_zero, List.set_cons_succ]
            first
              | (refine' wpAnyH_take (i := 3) (v := _) rfl (by kernel_rfl) (by kernel_rfl) (by kernel_rfl) (fun _ _ _ h => h) (yieldsIf_load_mid (by rfl) _ _ rfl _ _ rfl _ _ (fun w hSw => (by (exact rV _ hSw))) Tryd.underlying26 rfl (by first | assumption | kernel_rfl)) (by assumption) ?_)
              | fail
            try simp only [Act.put, List.getElem_toArray, List.getElem_cons_succ, List.getElem_cons_zero, List.setIfInBounds_toArray, List.set_cons_zero, List.set_cons_succ]
            first
              | (refine wpAnyH_take (i := 4) (v := .agg X1.cells.toArray) rfl (by kernel_rfl) (by kernel_rfl) (by kernel_rfl) (fun _ _ _ h => h) (Or.inl ⟨by rfl, fun w hSw => (by exact execBuild 28 [(0, .tmp 58), (2, .tmp 59), (1, .const (.int .i64 1))] rfl _ (kb w))⟩) (by assumption) ?_)
              | fail
            try simp only [Act.put, List.getElem_toArray, List.getElem_cons_succ, List.getElem_cons_zero, List.setIfInBounds_toArray, List.set_cons_zero, List.set_cons_succ]
            refine wpAnyH_ready (rs := [5]) (by kernel_rfl) (by simp) ?_
            refine AllReadyH.cons rfl (fun K hK => ?_) AllReadyH.nil
            go_simp
            skip
            go_wp2_with fail
            refine hK.out _ _ (by (first | assumption | exact Below.drew (by assumption) | exact gA _)) (fun hHeld => ?_)
            clear hK K
            try simp only [Act.put, List.getElem_toArray, List.getElem_cons_succ, List.getElem_cons_zero, List.setIfInBounds_toArray, List.set_cons_zero, List.set_cons_succ]
            refine wpAnyH_ready (rs := [6]) (by kernel_rfl) (by simp) ?_
            refine AllReadyH.cons rfl (fun K hK => ?_) AllReadyH.nil
            (refine step_store_at rfl 28 _ _ rfl V.drew.heap.size _ _ X1.cells rfl rfl (heap_alloc_new _ _) (by rw [X1.len hX1i]; rfl) nfX X1.one ?_; intro U bU gU0 sU0; have gVU : Grew V U := (gA _).grown gU0 (by simp) (fun q hq => (by cases hq; exact Nat.le_refl _)))
            refine hK.out _ _ (by (first | assumption | exact Below.drew (by assumption) | exact gA _)) (fun hHeld => ?_)
            clear hK K
            try simp only [Act.put, List.getElem_toArray, List.getElem_cons_succ, List.getElem_cons_zero, List.setIfInBounds_toArray, List.set_cons_zero, List.set_cons_succ]
            refine wpAnyH_done (by kernel_rfl) ?_ _
            have gwU := gwV.trans' gVU
            have sU : U.heap.size = V.heap.size + 1 := by rw [sU0]; simp
            obtain ⟨g, hg⟩ : ∃ g, V.drew.heap.size = g := ⟨_, rfl⟩
            have hg2 : V.heap.size = g := hg
            have hgw : w.heap.size ≤ g := by rw [← hg2]; exact gwV.size
            have hYlt : g < U.heap.size := by omega
            have hownU := HOD.out.below gVU
            have hneU : v.ownBlock ≠ some g := fun e => by have := (HOD.out.lt _ e).2; omega
            rw [hg] at bU
            rw [hg2]
            have cU : U.cell? ⟨g, 1, none⟩ = some (.int .i64 1) := by rw [cell_of_row U g 1 _ _ (0, 0) bU]; exact hX1c
            have fU : U.frozen? ⟨g, 1, none⟩ = false := by simp [World.frozen?, bU]
            have HNEU := Lib.hid hneU
            have HOU := Lib.hid hownU
            have HBU := Lib.hid bU
            have HX1 := Lib.hid hX1
            clear hg hg2 hneU hownU HOD sU sU0 gU0 gVU gA kb nfX one1 h22 hX1c bU rV gVV
            have ways : (D2.data.toList = [] ∨ D2.data.toList = [120]) ∨ (D2.data.toList = [108] ∨ modeM D2.data.toList = none) := by
              unfold modeM
              by_cases k1 : D2.data.toList = []
              · exact .inl (.inl k1)
              by_cases k2 : D2.data.toList = [120]
              · exact .inl (.inr k2)
              by_cases k3 : D2.data.toList = [108]
              · exact .inr (.inl k3)
              · right; right; rw [if_neg k1, if_neg k2, if_neg k3]
            rcases ways with (hd | hd) | (hd | hd)
            · have f0 : D2.toList.isEmpty = true := by rw [ByteArray.toList_eq, hd]; rfl
              have f0' : (D2.toList == ([] : List UInt8)) = true := by rw [ByteArray.toList_eq, hd]; rfl
              have f1 : (D2.toList == [120]) = false := by rw [ByteArray.toList_eq, hd]; rfl
              have f2 : (D2.toList == [108]) = false := by rw [ByteArray.toList_eq, hd]; rfl
              have hfm : fileM ln = some ⟨P, 1, id⟩ := by
                have e1 : (⟨pp.toArray⟩ : ByteArray) = P := by
                  have := HP.out
                  rw [← this]
                rw [HFI2.out, ← HD2.out, hd, e1]
                rfl
              have hlm2 : lineM q.data.toList = some (⟨P, 1, id⟩, D3.data.toList) := by rw [HLM.out, hfm, HD3.out]; rfl
              obtain ⟨X, hX⟩ : ∃ X : Fil, (⟨P, 1, id⟩ : Fil) = X := ⟨_, rfl⟩
              rw [hX] at hlm2
              have hXi : X.id.length = 20 := by rw [← hX]; exact hid
              have hXp : X.path.size ≤ 1073741824 := by rw [← hX]; show P.size ≤ _; omega
              have nfX := infoFile X hXi
              have hstep : linesM b.length b = (linesM D3.data.toList.length D3.data.toList).map ((ds ++ [X]) ++ ·) := by
                rw [hit.out, linesM_step hlm2, Option.map_map]
                congr 1
                funext y
                simp
              have hfX : ∀ y ∈ ds ++ [X], FineF y := by
                intro y hy
                rw [List.mem_append] at hy
                rcases hy with hy | hy
                · exact hfi.out y hy
                · simp at hy; subst hy; exact ⟨hXi, hXp⟩
              have HST := Lib.hid hstep
              have HFX := Lib.hid hfX
              obtain ⟨T, hT⟩ : ∃ T : World, T = U := ⟨_, rfl⟩
              subst hT
              have gwT := gwU
              have bT : T.heap[g]? = some (.cells X.cells.toArray 28 (0, 0)) := by rw [← hX, HX1.out]; exact HBU.out
              have oT : OwnG kFile T w.heap.size v ds := HOU.out
              have rT : T.rangeAt g 0 X.cells := by have := range_row bT; simpa using this
              have ks : ∀ W, (Instr.buildSlice 22 1 #[(0, .agg X.cells.toArray)]).run Tryd.prog W = .ok (.slice (some ⟨W.heap.size, 0, none⟩) 1 1) (W.alloc (.cells X.cells.toArray 28)) := fun W => run_slice_G kFile X hXi W
              obtain ⟨R, hR, gR, gRR, rR⟩ := boxedG kFile T X
              change T.alloc (.cells X.cells.toArray 28) = R at hR
              have hoR := oT.below gR
              have rRR := rR R gRR
              have gwR := gwT.trans' gR
              have hbR : w.heap.size ≤ R.heap.size := gwR.size
              have HOR := Lib.hid hoR
              have HRR := Lib.hid rRR
              have HRT := Lib.hid rT
              rw [← hR] at HOR HRR hbR gwR
              clear hoR rRR rR gRR hR hlm2 hfm hstep hfX oT bT rT hd
              go_wp2_with (refine wpList_load_mid rfl 28 _ rfl g 0 rfl X.cells _ HRT.out Tryd.underlying28 rfl nfX ?_; refine wpListExec rfl _ _ (execBuildSlice 22 1 [(0, .tmp 75)] rfl _ (ks _)) ?_; refine wpList_append_G kFile rfl _ _ rfl w.heap.size v ds X T.heap.size rfl rfl HOR.out hXi HRR.out hbR (by omega) ?_)
              intro v4 W4 hown4 hb4 hg4
              go_wp2
              go_roundw
              case rel => exact ⟨D3, ds ++ [X], v4, rfl, rfl, Below.trans gwR hb4, hown4, by rw [List.length_append]; show _ + 1 + _ ≤ _; omega, HST, HFX⟩
              case measure => show D3.size < q.size; exact sD3
            · have f0 : D2.toList.isEmpty = false := by rw [ByteArray.toList_eq, hd]; rfl
              have f0' : (D2.toList == ([] : List UInt8)) = false := by rw [ByteArray.toList_eq, hd]; rfl
              have f1 : (D2.toList == [120]) = true := by rw [ByteArray.toList_eq, hd]; rfl
              have f2 : (D2.toList == [108]) = false := by rw [ByteArray.toList_eq, hd]; rfl
              have hfm : fileM ln = some ⟨P, 2, id⟩ := by
                have e1 : (⟨pp.toArray⟩ : ByteArray) = P := by
                  have := HP.out
                  rw [← this]
                rw [HFI2.out, ← HD2.out, hd, e1]
                rfl
              have hlm2 : lineM q.data.toList = some (⟨P, 2, id⟩, D3.data.toList) := by rw [HLM.out, hfm, HD3.out]; rfl
              obtain ⟨X, hX⟩ : ∃ X : Fil, (⟨P, 2, id⟩ : Fil) = X := ⟨_, rfl⟩
              rw [hX] at hlm2
              have hXi : X.id.length = 20 := by rw [← hX]; exact hid
              have hXp : X.path.size ≤ 1073741824 := by rw [← hX]; show P.size ≤ _; omega
              have nfX := infoFile X hXi
              have hstep : linesM b.length b = (linesM D3.data.toList.length D3.data.toList).map ((ds ++ [X]) ++ ·) := by
                rw [hit.out, linesM_step hlm2, Option.map_map]
                congr 1
                funext y
                simp
              have hfX : ∀ y ∈ ds ++ [X], FineF y := by
                intro y hy
                rw [List.mem_append] at hy
                rcases hy with hy | hy
                · exact hfi.out y hy
                · simp at hy; subst hy; exact ⟨hXi, hXp⟩
              have HST := Lib.hid hstep
              have HFX := Lib.hid hfX
              obtain ⟨T, hT⟩ : ∃ T, U.setCell ⟨g, 1, none⟩ (.int .i64 2) = T := ⟨_, rfl⟩
              have gwT : Grew w T := by rw [← hT]; exact gwU.setCell (p := ⟨g, 1, none⟩) hgw _
              have bT : T.heap[g]? = some (.cells X.cells.toArray 28 (0, 0)) := by
                rw [← hT, ← hX, set_cell_any U g 1 _ _ _ _ HBU.out, fil_set1, ← HX1.out]
              have oT : OwnG kFile T w.heap.size v ds := by rw [← hT]; exact HOU.out.set ⟨g, 1, none⟩ _ HNEU.out
              have rT : T.rangeAt g 0 X.cells := by have := range_row bT; simpa using this
              have ks : ∀ W, (Instr.buildSlice 22 1 #[(0, .agg X.cells.toArray)]).run Tryd.prog W = .ok (.slice (some ⟨W.heap.size, 0, none⟩) 1 1) (W.alloc (.cells X.cells.toArray 28)) := fun W => run_slice_G kFile X hXi W
              obtain ⟨R, hR, gR, gRR, rR⟩ := boxedG kFile T X
              change T.alloc (.cells X.cells.toArray 28) = R at hR
              have hoR := oT.below gR
              have rRR := rR R gRR
              have gwR := gwT.trans' gR
              have hbR : w.heap.size ≤ R.heap.size := gwR.size
              have HOR := Lib.hid hoR
              have HRR := Lib.hid rRR
              have HRT := Lib.hid rT
              rw [← hR] at HOR HRR hbR gwR
              clear hoR rRR rR gRR hR hlm2 hfm hstep hfX oT bT rT hd
              go_wp2_with (refine wpList_load_mid rfl 28 _ rfl g 0 rfl X.cells _ HRT.out Tryd.underlying28 rfl nfX ?_; refine wpListExec rfl _ _ (execBuildSlice 22 1 [(0, .tmp 75)] rfl _ (ks _)) ?_; refine wpList_append_G kFile rfl _ _ rfl w.heap.size v ds X T.heap.size rfl rfl HOR.out hXi HRR.out hbR (by omega) ?_)
              intro v4 W4 hown4 hb4 hg4
              go_wp2
              go_roundw
              case rel => exact ⟨D3, ds ++ [X], v4, rfl, rfl, Below.trans gwR hb4, hown4, by rw [List.length_append]; show _ + 1 + _ ≤ _; omega, HST, HFX⟩
              case measure => show D3.size < q.size; exact sD3
            · have f0 : D2.toList.isEmpty = false := by rw [ByteArray.toList_eq, hd]; rfl
              have f0' : (D2.toList == ([] : List UInt8)) = false := by rw [ByteArray.toList_eq, hd]; rfl
              have f1 : (D2.toList == [120]) = false := by rw [ByteArray.toList_eq, hd]; rfl
              have f2 : (D2.toList == [108]) = true := by rw [ByteArray.toList_eq, hd]; rfl
              have hfm : fileM ln = some ⟨P, 3, id⟩ := by
                have e1 : (⟨pp.toArray⟩ : ByteArray) = P := by
                  have := HP.out
                  rw [← this]
                rw [HFI2.out, ← HD2.out, hd, e1]
                rfl
              have hlm2 : lineM q.data.toList = some (⟨P, 3, id⟩, D3.data.toList) := by rw [HLM.out, hfm, HD3.out]; rfl
              obtain ⟨X, hX⟩ : ∃ X : Fil, (⟨P, 3, id⟩ : Fil) = X := ⟨_, rfl⟩
              rw [hX] at hlm2
              have hXi : X.id.length = 20 := by rw [← hX]; exact hid
              have hXp : X.path.size ≤ 1073741824 := by rw [← hX]; show P.size ≤ _; omega
              have nfX := infoFile X hXi
              have hstep : linesM b.length b = (linesM D3.data.toList.length D3.data.toList).map ((ds ++ [X]) ++ ·) := by
                rw [hit.out, linesM_step hlm2, Option.map_map]
                congr 1
                funext y
                simp
              have hfX : ∀ y ∈ ds ++ [X], FineF y := by
                intro y hy
                rw [List.mem_append] at hy
                rcases hy with hy | hy
                · exact hfi.out y hy
                · simp at hy; subst hy; exact ⟨hXi, hXp⟩
              have HST := Lib.hid hstep
              have HFX := Lib.hid hfX
              obtain ⟨T, hT⟩ : ∃ T, U.setCell ⟨g, 1, none⟩ (.int .i64 3) = T := ⟨_, rfl⟩
              have gwT : Grew w T := by rw [← hT]; exact gwU.setCell (p := ⟨g, 1, none⟩) hgw _
              have bT : T.heap[g]? = some (.cells X.cells.toArray 28 (0, 0)) := by
                rw [← hT, ← hX, set_cell_any U g 1 _ _ _ _ HBU.out, fil_set1, ← HX1.out]
              have oT : OwnG kFile T w.heap.size v ds := by rw [← hT]; exact HOU.out.set ⟨g, 1, none⟩ _ HNEU.out
              have rT : T.rangeAt g 0 X.cells := by have := range_row bT; simpa using this
              have ks : ∀ W, (Instr.buildSlice 22 1 #[(0, .agg X.cells.toArray)]).run Tryd.prog W = .ok (.slice (some ⟨W.heap.size, 0, none⟩) 1 1) (W.alloc (.cells X.cells.toArray 28)) := fun W => run_slice_G kFile X hXi W
              obtain ⟨R, hR, gR, gRR, rR⟩ := boxedG kFile T X
              change T.alloc (.cells X.cells.toArray 28) = R at hR
              have hoR := oT.below gR
              have rRR := rR R gRR
              have gwR := gwT.trans' gR
              have hbR : w.heap.size ≤ R.heap.size := gwR.size
              have HOR := Lib.hid hoR
              have HRR := Lib.hid rRR
              have HRT := Lib.hid rT
              rw [← hR] at HOR HRR hbR gwR
              clear hoR rRR rR gRR hR hlm2 hfm hstep hfX oT bT rT hd
              go_wp2_with (refine wpList_load_mid rfl 28 _ rfl g 0 rfl X.cells _ HRT.out Tryd.underlying28 rfl nfX ?_; refine wpListExec rfl _ _ (execBuildSlice 22 1 [(0, .tmp 75)] rfl _ (ks _)) ?_; refine wpList_append_G kFile rfl _ _ rfl w.heap.size v ds X T.heap.size rfl rfl HOR.out hXi HRR.out hbR (by omega) ?_)
              intro v4 W4 hown4 hb4 hg4
              go_wp2
              go_roundw
              case rel => exact ⟨D3, ds ++ [X], v4, rfl, rfl, Below.trans gwR hb4, hown4, by rw [List.length_append]; show _ + 1 + _ ≤ _; omega, HST, HFX⟩
              case measure => show D3.size < q.size; exact sD3
            · have f0 : D2.toList.isEmpty = false := by
                rw [ByteArray.toList_eq]
                cases hq : D2.data.toList with
                | nil => rw [hq] at hd; simp [modeM] at hd
                | cons c r => rfl
              have f0' : (D2.toList == ([] : List UInt8)) = false := by
                rw [ByteArray.toList_eq, beq_eq_false_iff_ne]
                intro e
                rw [e] at hd
                simp [modeM] at hd
              have f1 : (D2.toList == [120]) = false := by
                rw [ByteArray.toList_eq, beq_eq_false_iff_ne]
                intro e
                rw [e] at hd
                simp [modeM] at hd
              have f2 : (D2.toList == [108]) = false := by
                rw [ByteArray.toList_eq, beq_eq_false_iff_ne]
                intro e
                rw [e] at hd
                simp [modeM] at hd
              have HPN := Lib.hid (HSTOP.out True (by rw [HFI2.out, ← HD2.out, hd]; rfl))
              clear hd
              go_wp2
              go_ret2
              exact ⟨gwU, .inl ⟨HPN.out, rfl⟩⟩
    · have hq0 : (q.toList == ([] : List UInt8)) = true := by
        rw [beq_iff_eq, ByteArray.toList_eq]
        exact List.eq_nil_of_length_eq_zero (by omega)
      have hq1 : q.data.toList = [] := List.eq_nil_of_length_eq_zero (by omega)
      have hits : linesM b.length b = some ds := by rw [hit.out, hq1]; simp [linesM]
      have HIT := Lib.hid hits
      obtain ⟨pv, cv, rfl, hrd, -, -, -⟩ := hown.val
      have cP := ref16_Print pv ds cv wo (by omega) hrd hfi.out (u8_grew HU.out hb)
      have HOW := Lib.hid hown
      clear hq1 hits hit hown hrd hql
      go_wp2_with (go_at_call 10; with_reducible refine cP.mono ?_)
      rintro e5 W5 ⟨g5, ⟨h1, rfl⟩ | ⟨h1, h2, rfl⟩ | ⟨h1, h2, vx, rfl, hox⟩⟩
      · have hpn : parseM b = none := parseM_bad HIT.out (fun h => by rw [h.1] at h1; cases h1)
        have HPN := Lib.hid hpn
        clear hpn
        go_wp2
        go_ret2
        exact ⟨hb.trans' g5, .inl ⟨HPN.out, rfl⟩⟩
      · have hpn : parseM b = none := parseM_bad HIT.out (fun h => by have h3 := h.2.1; rw [← h.2.2] at h3; omega)
        have HPN := Lib.hid hpn
        clear hpn
        go_wp2
        go_ret2
        exact ⟨hb.trans' g5, .inl ⟨HPN.out, rfl⟩⟩
      · obtain ⟨px, cx, rfl, hrx, -, -⟩ := hox.val
        have gw5 := hb.trans' g5
        have cE := help_Bytes px p (printF ds) b cx cap W5 hrx (HR.out.below gw5 (Nat.le_refl _))
        obtain ⟨B, hB⟩ : ∃ B, (printF ds == b) = B := ⟨_, rfl⟩
        rw [hB] at cE
        have HB := Lib.hid hB
        have HL2 := Lib.hid h2
        have HH1 := Lib.hid h1
        clear hB hox hrx h2 h1
        cases B with
        | false =>
          have hpn : parseM b = none := parseM_bad HIT.out (fun h => absurd h.2.2 (beq_eq_false_iff_ne.1 HB.out))
          have HPN := Lib.hid hpn
          clear hpn
          go_wp2_with (go_at_call 13; with_reducible refine cE.mono ?_; rintro e11 W11 ⟨rfl, h11⟩; subst W11)
          go_ret2
          exact ⟨gw5, .inl ⟨HPN.out, rfl⟩⟩
        | true =>
          have he := beq_iff_eq.1 HB.out
          have hps : parseM b = some ds := parseM_of HIT.out ⟨HH1.out, by rw [← he]; exact HL2.out, he⟩
          have HPS := Lib.hid hps
          clear hps he
          go_wp2_with (go_at_call 13; with_reducible refine cE.mono ?_; rintro e11 W11 ⟨rfl, h11⟩; subst W11)
          go_ret2
          exact ⟨gw5, .inr ⟨ds, _, HPS.out, hfi.out, rfl, HOW.out.below g5⟩⟩

end Go.Proofs.YtgjnnoamhmmcnaaDoor

/- The reference's Print: a tree as bytes, or why not. Conditions: the library's tables are laid, names of at most 2^30 bytes. -/
import Derived.Test.YtpgcjljaokopaaaDoorTree4
import Derived.Test.YtpgcjljaokopaaaDoorTree5
namespace Go.Proofs.YtpgcjljaokopaaaDoor
set_option linter.unusedVariables false
set_option linter.unusedSimpArgs false
open Go.RowKit

theorem good_modes : ∀ (l : List Itm) (p : Option Itm) (s : List (List UInt8)), goodI p s l = true → ∀ x ∈ l, 1 ≤ x.mode ∧ x.mode ≤ 4
  | [], _, _, _ => by simp
  | y :: r, p, s, h => by
    rw [good_cons] at h
    simp only [Bool.and_eq_true] at h
    intro x hx
    rcases List.mem_cons.1 hx with rfl | hx
    · have := h.1.1
      unfold oneI at this
      simp only [Bool.and_eq_true, decide_eq_true_eq] at this
      exact this.2
    · exact good_modes r _ _ h.2 x hx

set_option maxRecDepth 100000 in
set_option maxHeartbeats 4000000 in
theorem ref08_Print (p : Option Addr) (l : List Itm) (cap : Nat) (w : World) (hl : l.length ≤ 1073741824) (hr : RdI w p l) (hf : ∀ x ∈ l, FineI x) (hu : U8Ok w) :
    Calls Tryd.prog 19 #[.slice p l.length cap] w (PrintPostI l w) := by
  have g0 : Grew w w := Below.refl _ _
  have cR := (fun W (g : Grew w W) => ref08_Right p l cap W hl (hr.grew g) hf (u8_grew hu g))
  have HFI := Lib.hid hf
  have HR := Lib.hid hr
  clear hu hf hr
  by_cases hbad : 0 < l.length ∧ rightI l = false
  · obtain ⟨h0, hb⟩ := hbad
    have hne : l ≠ [] := by rintro rfl; simp at h0
    have HNE := Lib.hid hne
    have HB := Lib.hid hb
    rw [hb] at cR
    have f1 : decide (0 < l.length) = true := decide_eq_true h0
    clear hb hne
    go_enter Tryd.func19, Tryd.ntmps19
    go_wp2_with (first | (go_at_call 22; with_reducible refine (cR _ (by assumption)).mono ?_; rintro e1 W1 ⟨rfl, g1⟩; replace g1 := Grew.trans' (a := w) (by assumption) g1))
    go_ret2
    exact ⟨by assumption, .inl ⟨HNE.out, HB.out, rfl⟩⟩
  have hok : l = [] ∨ rightI l = true := by
    by_cases h0 : 0 < l.length
    · right
      cases hq : rightI l with
      | true => rfl
      | false => exact absurd ⟨h0, hq⟩ hbad
    · left; exact List.eq_nil_of_length_eq_zero (by omega)
  have hlen : l.length ≤ 500 := by
    rcases hok with rfl | h
    · simp
    · unfold rightI at h; simp only [Bool.and_eq_true, decide_eq_true_eq] at h; exact h.2
  have hnm : ∀ x ∈ l, Pure.nameI x.name.data.toList = true := by
    rcases hok with rfl | h
    · simp
    · unfold rightI at h; simp only [Bool.and_eq_true] at h; exact good_all _ _ _ h.1.1
  have hways : decide (0 < l.length) = false ∨ (decide (0 < l.length) = true ∧ rightI l = true) := by
    rcases hok with rfl | h
    · left; rfl
    · right
      refine ⟨decide_eq_true ?_, h⟩
      unfold rightI at h; simp only [Bool.and_eq_true, decide_eq_true_eq] at h; have := h.1.2; omega
  have HOK := Lib.hid hok
  have hmd : ∀ x ∈ l, 1 ≤ x.mode ∧ x.mode ≤ 4 := by
    rcases hok with rfl | h
    · simp
    · unfold rightI at h; simp only [Bool.and_eq_true] at h; exact good_modes _ _ _ h.1.1
  have HNM := Lib.hid hnm
  have HMD := Lib.hid hmd
  clear hok hnm hmd hbad
  obtain ⟨R, hR⟩ : ∃ R, rightI l = R := ⟨_, rfl⟩
  rw [hR] at cR hways
  clear hR
  rcases hways with f1 | ⟨f1, rfl⟩
  all_goals
    go_enter Tryd.func19, Tryd.ntmps19
    go_wp2_with (first | (go_at_call 22; with_reducible refine (cR _ (by assumption)).mono ?_; rintro e1 W1 ⟨rfl, g1⟩; replace g1 := Grew.trans' (a := w) (by assumption) g1))
    go_loopw [4, 5] (fun vv i wr => ∃ (k : Nat) (v : Value), v = vv ∧ i = .int .i64 (k : Int) ∧ k ≤ l.length ∧ Grew w wr ∧ OwnB wr w.heap.size v (printI (l.take k))) (fun _ i _ => l.length - (intOf i).toNat)
    case atStart => exact ⟨0, _, rfl, rfl, Nat.zero_le _, by assumption, OwnB.nil _ _⟩
    case round =>
      obtain ⟨k, v, rfl, rfl, hk, hb, hown⟩ := hrel
      clear cR f1
      by_cases hlt : k < l.length
      · obtain ⟨x, hx⟩ : ∃ x, l[k]? = some x := ⟨_, List.getElem?_eq_getElem hlt⟩
        obtain ⟨hxi, hxn⟩ := HFI.out x (List.mem_of_getElem? hx)
        have hxm := HNM.out x (List.mem_of_getElem? hx)
        have hmd := HMD.out x (List.mem_of_getElem? hx)
        rcases HR.out with h | ⟨b, o, rfl, hc⟩
        · subst h; simp at hlt
        have rx : ∀ W, Grew w W → W.rangeAt b (o + k * 22) x.cells := fun W g => range_grew (hc k x hx) g
        have q0 : ∀ W, Grew w W → W.cell? ⟨b, o + k * 22, none⟩ = some (.int .i64 x.mode) := fun W g => by have := rx W g 0 _ x.cell0; simpa using this
        have q1 : ∀ W, Grew w W → W.cell? ⟨b, o + k * 22 + 1, none⟩ = some (.string x.name) := fun W g => rx W g 1 _ x.cell1
        have ri : ∀ W, Grew w W → W.rangeAt b (o + k * 22 + 2) (Lib.byteCells x.id) := fun W g => range_drop (rx W g) 2
        clear hc
        have cW := (fun W (g : Grew w W) => ref08_mode x.mode hmd W)
        obtain ⟨WS, hWS⟩ : ∃ WS : ByteArray, (⟨(Pure.wordM x.mode).toArray⟩ : ByteArray) = WS := ⟨_, rfl⟩
        have hWs : WS.size ≤ 6 := by rw [← hWS]; have := Pure.wordM_len x.mode; show (Pure.wordM x.mode).toArray.size ≤ 6; simpa using this
        simp only [hWS] at cW
        obtain ⟨T1, h1⟩ : ∃ T : ByteArray, WS ++ ⟨#[32]⟩ = T := ⟨_, rfl⟩
        obtain ⟨T2, h2⟩ : ∃ T : ByteArray, T1 ++ x.name = T := ⟨_, rfl⟩
        obtain ⟨T3, h3⟩ : ∃ T : ByteArray, T2 ++ ⟨#[0]⟩ = T := ⟨_, rfl⟩
        have hnl := name_len hxm
        have hnn : x.name.size ≤ 400 := by have : x.name.data.toList.length = x.name.size := Array.length_toList; omega
        have s1 : T1.size = WS.size + 1 := by rw [← h1, ByteArray.size_append]; rfl
        have s2 : T2.size = T1.size + x.name.size := by rw [← h2, ByteArray.size_append]
        have s3 : T3.size = T2.size + 1 := by rw [← h3, ByteArray.size_append]; rfl
        have hT1s : T1.size ≤ 7 := by omega
        have hT2s : T2.size ≤ 407 := by omega
        have hT3s : T3.size ≤ 408 := by omega
        have hT3 : T3.data.toList = Pure.wordM x.mode ++ [32] ++ x.name.data.toList ++ [0] := by
          rw [← h3, ← h2, ← h1, append_list, append_list, append_list, ← hWS]
        have n1 : ¬ 9223372036854775807 < WS.size + 1 := by omega
        have n2 : ¬ 9223372036854775807 < T1.size + x.name.size := by omega
        have n3 : ¬ 9223372036854775807 < T2.size + 1 := by omega
        have HT := Lib.hid hT3
        have hPL := printI_len (l.take k) (fun y hy => HFI.out y (List.mem_of_mem_take hy)) (fun y hy => HNM.out y (List.mem_of_mem_take hy))
        have hTk : (l.take k).length ≤ 500 := by rw [List.length_take]; omega
        have hPL2 : (printI (l.take k)).length ≤ 214000 := by omega
        have hnx := printI_next hx
        have HNX := Lib.hid hnx
        have hownV := hown.below (Below.drew (Below.refl _ _) : Grew wr wr.drew)
        have HOV := Lib.hid hownV
        have gwVd : Grew w wr.drew := hb.drew
        clear hnx hT3 hWS s1 s2 s3 hPL hTk hnl hown hownV hxm
        go_wp2
        refine wp_region_held_drew (S := fun w' => Grew w w') (by kernel_rfl) (by first | assumption | exact Below.drew (by assumption)) (fun hHeld => ?_)
        first
          | (refine wpAnyH_take (i := 0) (v := ?_) rfl (by kernel_rfl) (by kernel_rfl) (by kernel_rfl) (fun _ _ _ h => h) (Or.inl ⟨by rfl, ?_⟩) (by assumption) ?_; rotate_left 1; focus (intro w hSw; (try dsimp only at hSw); go_simp; (try with_reducible rfl)))
          | fail
        try simp only [Act.put, List.getElem_toArray, List.getElem_cons_succ, List.getElem_cons_zero, List.setIfInBounds_toArray, List.set_cons_zero, List.set_cons_succ]
        first
          | (refine wpAnyH_take (i := 1) (v := ?_) rfl (by kernel_rfl) (by kernel_rfl) (by kernel_rfl) (fun _ _ _ h => h) (Or.inl ⟨by rfl, ?_⟩) (by assumption) ?_; rotate_left 1; focus (intro w hSw; (try dsimp only at hSw); go_simp; (try with_reducible rfl)))
          | fail
        try simp only [Act.put, List.getElem_toArray, List.getElem_cons_succ, List.getElem_cons_zero, List.setIfInBounds_toArray, List.set_cons_zero, List.set_cons_succ]
        first
          | (refine wpAnyH_take (i := 2) (v := ?_) rfl (by kernel_rfl) (by kernel_rfl) (by kernel_rfl) (fun _ _ _ h => h) (Or.inl ⟨by rfl, ?_⟩) (by assumption) ?_; rotate_left 1; focus (intro w hSw; (try dsimp only at hSw); go_simp; (try with_reducible rfl)))
          | fail
        try simp only [Act.put, List.getElem_toArray, List.getElem_cons_succ, List.getElem_cons_zero, List.setIfInBounds_toArray, List.set_cons_zero, List.set_cons_succ]
        first
          | (refine wpAnyH_take (i := 3) (v := ?_) rfl (by kernel_rfl) (by kernel_rfl) (by kernel_rfl) (fun _ _ _ h => h) (Or.inl ⟨by rfl, ?_⟩) (by assumption) ?_; rotate_left 1; focus (intro w hSw; (try dsimp only at hSw); go_simp; (try with_reducible rfl)))
          | fail
        try simp only [Act.put, List.getElem_toArray, List.getElem_cons_succ, List.getElem_cons_zero, List.setIfInBounds_toArray, List.set_cons_zero, List.set_cons_succ]
        first
          | (refine wpAnyH_take (i := 4) (v := ?_) rfl (by kernel_rfl) (by kernel_rfl) (by kernel_rfl) (fun _ _ _ h => h) (Or.inl ⟨by rfl, ?_⟩) (by assumption) ?_; rotate_left 1; focus (intro w hSw; (try dsimp only at hSw); go_simp; (try with_reducible rfl)))
          | fail
        try simp only [Act.put, List.getElem_toArray, List.getElem_cons_succ, List.getElem_cons_zero, List.setIfInBounds_toArray, List.set_cons_zero, List.set_cons_succ]
        first
          | (refine wpAnyH_take (i := 5) (v := ?_) rfl (by kernel_rfl) (by kernel_rfl) (by kernel_rfl) (fun _ _ _ h => h) (Or.inl ⟨by rfl, ?_⟩) (by assumption) ?_; rotate_left 1; focus (intro w hSw; (try dsimp only at hSw); go_simp; (try with_reducible rfl)))
          | fail
        try simp only [Act.put, List.getElem_toArray, List.getElem_cons_succ, List.getElem_cons_zero, List.setIfInBounds_toArray, List.set_cons_zero, List.set_cons_succ]
        first
          | (refine wpAnyH_take (i := 8) (v := ?_) rfl (by kernel_rfl) (by kernel_rfl) (by kernel_rfl) (fun _ _ _ h => h) (Or.inl ⟨by rfl, ?_⟩) (by assumption) ?_; rotate_left 1; focus (intro w hSw; (try dsimp only at hSw); go_simp; (try with_reducible rfl)))
          | fail
        try simp only [Act.put, List.getElem_toArray, List.getElem_cons_succ, List.getElem_cons_zero, List.setIfInBounds_toArray, List.set_cons_zero, List.set_cons_succ]
        first
          | (refine wpAnyH_take (i := 9) (v := ?_) rfl (by kernel_rfl) (by kernel_rfl) (by kernel_rfl) (fun _ _ _ h => h) (Or.inl ⟨by rfl, ?_⟩) (by assumption) ?_; rotate_left 1; focus (intro w hSw; (try dsimp only at hSw); go_simp; (try with_reducible rfl)))
          | fail
        try simp only [Act.put, List.getElem_toArray, List.getElem_cons_succ, List.getElem_cons_zero, List.setIfInBounds_toArray, List.set_cons_zero, List.set_cons_succ]
        first
          | (refine wpAnyH_take (i := 10) (v := ?_) rfl (by kernel_rfl) (by kernel_rfl) (by kernel_rfl) (fun _ _ _ h => h) (Or.inl ⟨by rfl, ?_⟩) (by assumption) ?_; rotate_left 1; focus (intro w hSw; (try dsimp only at hSw); go_simp; (try with_reducible rfl)))
          | fail
        try simp only [Act.put, List.getElem_toArray, List.getElem_cons_succ, List.getElem_cons_zero, List.setIfInBounds_toArray, List.set_cons_zero, List.set_cons_succ]
        first
          | (refine wpAnyH_take (i := 11) (v := ?_) rfl (by kernel_rfl) (by kernel_rfl) (by kernel_rfl) (fun _ _ _ h => h) (Or.inl ⟨by rfl, ?_⟩) (by assumption) ?_; rotate_left 1; focus (intro w hSw; (try dsimp only at hSw); go_simp; (try with_reducible rfl)))
          | fail
        try simp only [Act.put, List.getElem_toArray, List.getElem_cons_succ, List.getElem_cons_zero, List.setIfInBounds_toArray, List.set_cons_zero, List.set_cons_succ]
        first
          | (refine wpAnyH_take (i := 12) (v := ?_) rfl (by kernel_rfl) (by kernel_rfl) (by kernel_rfl) (fun _ _ _ h => h) (Or.inl ⟨by rfl, ?_⟩) (by assumption) ?_; rotate_left 1; focus (intro w hSw; (try dsimp only at hSw); go_simp; (try with_reducible rfl)))
          | fail
        try simp only [Act.put, List.getElem_toArray, List.getElem_cons_succ, List.getElem_cons_zero, List.setIfInBounds_toArray, List.set_cons_zero, List.set_cons_succ]
        refine wpAnyH_ready (rs := [6]) (by kernel_rfl) (by simp) ?_
        refine AllReadyH.cons rfl (fun K hK => ?_) AllReadyH.nil
        go_simp
        (go_at_call 34; with_reducible refine (cW _ (by first | assumption | exact Below.drew (by assumption))).mono ?_; rintro e9 W9 ⟨rfl, h9⟩; subst W9)
        go_wp2_with fail
        refine hK.out _ _ (by first | assumption | exact Below.drew (by assumption)) (fun hHeld => ?_)
        clear hK K
        try simp only [Act.put, List.getElem_toArray, List.getElem_cons_succ, List.getElem_cons_zero, List.setIfInBounds_toArray, List.set_cons_zero, List.set_cons_succ]
        first
          | (refine wpAnyH_take (i := 7) (v := ?_) rfl (by kernel_rfl) (by kernel_rfl) (by kernel_rfl) (fun _ _ _ h => h) (Or.inl ⟨by rfl, ?_⟩) (by assumption) ?_; rotate_left 1; focus (intro w hSw; (try dsimp only at hSw); go_simp; (try with_reducible rfl)))
          | fail
        try simp only [Act.put, List.getElem_toArray, List.getElem_cons_succ, List.getElem_cons_zero, List.setIfInBounds_toArray, List.set_cons_zero, List.set_cons_succ]
        first
          | (refine wpAnyH_take (i := 13) (v := ?_) rfl (by kernel_rfl) (by kernel_rfl) (by kernel_rfl) (fun _ _ _ h => h) (Or.inl ⟨by rfl, ?_⟩) (by assumption) ?_; rotate_left 1; focus (intro w hSw; (try dsimp only at hSw); go_simp; (try with_reducible rfl)))
          | fail
        try simp only [Act.put, List.getElem_toArray, List.getElem_cons_succ, List.getElem_cons_zero, List.setIfInBounds_toArray, List.set_cons_zero, List.set_cons_succ]
        first
          | (refine wpAnyH_take (i := 14) (v := ?_) rfl (by kernel_rfl) (by kernel_rfl) (by kernel_rfl) (fun _ _ _ h => h) (Or.inl ⟨by rfl, ?_⟩) (by assumption) ?_; rotate_left 1; focus (intro w hSw; (try dsimp only at hSw); go_simp; (try with_reducible rfl)))
          | fail
        try simp only [Act.put, List.getElem_toArray, List.getElem_cons_succ, List.getElem_cons_zero, List.setIfInBounds_toArray, List.set_cons_zero, List.set_cons_succ]
        refine wpAnyH_ready (rs := [15]) (by kernel_rfl) (by simp) ?_
        refine AllReadyH.cons rfl (fun K hK => ?_) AllReadyH.nil
        (refine step_append_S rfl _ _ rfl w.heap.size _ _ _ rfl rfl HOV.out gwVd.size (by omega) ?_; intro v3 W3 hown3 hb3 hg3; have hS3 : Grew w W3 := Below.trans gwVd hb3)
        refine hK.out _ _ (by first | assumption | exact Below.drew (by assumption)) (fun hHeld => ?_)
        clear hK K
        try simp only [Act.put, List.getElem_toArray, List.getElem_cons_succ, List.getElem_cons_zero, List.setIfInBounds_toArray, List.set_cons_zero, List.set_cons_succ]
        first
          | (refine wpAnyH_take (i := 16) (v := ?_) rfl (by kernel_rfl) (by kernel_rfl) (by kernel_rfl) (fun _ _ _ h => h) (Or.inl ⟨by rfl, ?_⟩) (by assumption) ?_; rotate_left 1; focus (intro w hSw; (try dsimp only at hSw); go_simp; (try with_reducible rfl)))
          | fail
        try simp only [Act.put, List.getElem_toArray, List.getElem_cons_succ, List.getElem_cons_zero, List.setIfInBounds_toArray, List.set_cons_zero, List.set_cons_succ]
        refine wpAnyH_done (by kernel_rfl) ?_ _
        have hr3 := rd_range (ri _ hS3)
        rw [HT.out] at hown3
        have hsl := run_slice_id b (o + k * 22 + 2)
        have hlen3 : (printI (l.take k) ++ (Pure.wordM x.mode ++ [32] ++ x.name.data.toList ++ [0])).length + x.id.length ≤ 140737488355328 := by
          have hw := Pure.wordM_len x.mode
          have hn2 : x.name.data.toList.length = x.name.size := Array.length_toList
          simp only [List.length_append, List.length_cons, List.length_nil]
          omega
        go_wp2_with (at_builtin; refine wpList_append_B rfl _ _ rfl w.heap.size _ _ _ _ _ rfl (by rw [hxi]; rfl) hown3 hr3 hS3.size hlen3 ?_)
        intro v4 W4 hown4 hb4 hg4
        go_wp2
        go_roundw
        case rel => exact ⟨k + 1, v4, rfl, by go_num, by omega, Below.trans hS3 hb4, by rw [HNX.out]; simpa using hown4⟩
        case measure => simp [intOf]; omega
      · obtain rfl : k = l.length := by omega
        rw [List.take_length] at hown
        obtain ⟨q, d, rfl, hrd, hcap, hat⟩ := hown.val
        by_cases hbig : 65536 < (printI l).length
        · have f2 : decide (65536 < ((printI l).length : Int)) = true := decide_eq_true (by omega)
          have HO := HOK.out
          go_wp2
          go_ret2
          exact ⟨hb, .inr (.inl ⟨HOK.out, hbig, rfl⟩)⟩
        · have f2 : decide (65536 < ((printI l).length : Int)) = false := decide_eq_false (by omega)
          go_wp2
          go_ret2
          exact ⟨hb, .inr (.inr ⟨HOK.out, by omega, _, rfl, hown⟩)⟩

end Go.Proofs.YtpgcjljaokopaaaDoor

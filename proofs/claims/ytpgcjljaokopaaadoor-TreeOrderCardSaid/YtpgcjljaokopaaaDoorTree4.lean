/- tree.Print: a tree as bytes, or why not. Conditions: the library's tables are laid, names of at most 2^30 bytes. -/
import Derived.Test.YtpgcjljaokopaaaDoorTree3
import Derived.Test.YtpgcjljaokopaaaDoorBuf
namespace Go.Proofs.YtpgcjljaokopaaaDoor
set_option linter.unusedVariables false
set_option linter.unusedSimpArgs false
open Go.RowKit

/-- An item as bytes. -/
def lineI (x : Itm) : List UInt8 := (Pure.wordM x.mode ++ [32] ++ x.name.data.toList ++ [0]) ++ x.id
/-- Items as bytes. -/
def printI (l : List Itm) : List UInt8 := l.flatMap lineI
theorem printI_next {l : List Itm} {k : Nat} {x : Itm} (h : l[k]? = some x) : printI (l.take (k + 1)) = printI (l.take k) ++ (Pure.wordM x.mode ++ [32] ++ x.name.data.toList ++ [0]) ++ x.id := by
  unfold printI
  rw [List.take_add_one, h, List.flatMap_append]
  simp [lineI]
theorem good_all : ∀ (l : List Itm) (p : Option Itm) (s : List (List UInt8)), goodI p s l = true → ∀ x ∈ l, Pure.nameI x.name.data.toList = true
  | [], _, _, _ => by simp
  | y :: r, p, s, h => by
    rw [good_cons] at h
    simp only [Bool.and_eq_true] at h
    intro x hx
    rcases List.mem_cons.1 hx with rfl | hx
    · have := h.1.1
      unfold oneI at this
      simp only [Bool.and_eq_true] at this
      exact this.1.1.2
    · exact good_all r _ _ h.2 x hx
theorem name_len {l : List UInt8} (h : Pure.nameI l = true) : l.length ≤ 400 := by
  unfold Pure.nameI Pure.pathP at h
  simp only [Bool.and_eq_true, decide_eq_true_eq] at h
  exact h.1.1.1.1.1
theorem line_len {x : Itm} (hi : x.id.length = 20) (hn : Pure.nameI x.name.data.toList = true) : (lineI x).length ≤ 428 := by
  have h1 := Pure.wordM_len x.mode
  have h2 := name_len hn
  unfold lineI
  simp only [List.length_append, List.length_cons, List.length_nil]
  omega
theorem printI_len : ∀ (l : List Itm), (∀ x ∈ l, FineI x) → (∀ x ∈ l, Pure.nameI x.name.data.toList = true) → (printI l).length ≤ l.length * 428
  | [], _, _ => by simp [printI]
  | x :: r, h, hn => by
    have ih := printI_len r (fun y hy => h y (by simp [hy])) (fun y hy => hn y (by simp [hy]))
    have := line_len (h x (by simp)).1 (hn x (by simp))
    unfold printI at ih ⊢
    rw [List.flatMap_cons, List.length_append, List.length_cons]
    omega

/-- What Print leaves. -/
def PrintPostI (l : List Itm) (w : World) (e : Ending) (w' : World) : Prop := Grew w w' ∧
  ((l ≠ [] ∧ rightI l = false ∧ e = .returned (.tuple #[.slice none 0 0, .int .i64 11])) ∨ ((l = [] ∨ rightI l = true) ∧ 65536 < (printI l).length ∧ e = .returned (.tuple #[.slice none 0 0, .int .i64 5])) ∨
   ((l = [] ∨ rightI l = true) ∧ (printI l).length ≤ 65536 ∧ ∃ v, e = .returned (.tuple #[v, .int .i64 0]) ∧ OwnB w' w.heap.size v (printI l)))

theorem run_slice_id (b o : Nat) (w : World) : (Instr.sliceAt 23 (.pointer (some ⟨b, o, none⟩)) none none none).run Tryd.prog w = .ok (.slice (some ⟨b, o, none⟩) 20 20) w := by
  simp [Instr.sliceAt, go_sem]

set_option maxRecDepth 100000 in
set_option maxHeartbeats 4000000 in
theorem tree_Print (p : Option Addr) (l : List Itm) (cap : Nat) (w : World) (hl : l.length ≤ 1073741824) (hr : RdI w p l) (hf : ∀ x ∈ l, FineI x) (hm : MaxOk w) (hu : U8Ok w) (hF : FoldOk w) :
    Calls Tryd.prog 15 #[.slice p l.length cap] w (PrintPostI l w) := by
  have g0 : Grew w w := Below.refl _ _
  have cR := (fun W (g : Grew w W) => tree_Right p l cap W hl (hr.grew g) hf (hm.grew g) (u8_grew hu g) (hF.grew g))
  have HFI := Lib.hid hf
  have HR := Lib.hid hr
  clear hm hu hF hf hr
  by_cases hbad : 0 < l.length ∧ rightI l = false
  · obtain ⟨h0, hb⟩ := hbad
    have hne : l ≠ [] := by rintro rfl; simp at h0
    have HNE := Lib.hid hne
    have HB := Lib.hid hb
    rw [hb] at cR
    have f1 : decide (0 < l.length) = true := decide_eq_true h0
    clear hb hne
    go_enter Tryd.func15, Tryd.ntmps15
    go_wp2_with (first | (go_at_call 14; with_reducible refine (cR _ (by assumption)).mono ?_; rintro e1 W1 ⟨rfl, g1⟩; replace g1 := Grew.trans' (a := w) (by assumption) g1))
    go_ret2
    exact ⟨by assumption, .inl ⟨HNE.out, HB.out, rfl⟩⟩
  have hok : l = [] ∨ rightI l = true := by
    by_cases h0 : 0 < l.length
    · right
      cases hq : rightI l with
      | true => rfl
      | false => exact absurd ⟨h0, hq⟩ hbad
    · left; exact List.eq_nil_of_length_eq_zero (by omega)
  have hlen : l.length ≤ 500 := by
    rcases hok with rfl | h
    · simp
    · unfold rightI at h; simp only [Bool.and_eq_true, decide_eq_true_eq] at h; exact h.2
  have hnm : ∀ x ∈ l, Pure.nameI x.name.data.toList = true := by
    rcases hok with rfl | h
    · simp
    · unfold rightI at h; simp only [Bool.and_eq_true] at h; exact good_all _ _ _ h.1.1
  have hways : decide (0 < l.length) = false ∨ (decide (0 < l.length) = true ∧ rightI l = true) := by
    rcases hok with rfl | h
    · left; rfl
    · right
      refine ⟨decide_eq_true ?_, h⟩
      unfold rightI at h; simp only [Bool.and_eq_true, decide_eq_true_eq] at h; have := h.1.2; omega
  have HOK := Lib.hid hok
  have HNM := Lib.hid hnm
  clear hok hnm hbad
  obtain ⟨R, hR⟩ : ∃ R, rightI l = R := ⟨_, rfl⟩
  rw [hR] at cR hways
  clear hR
  rcases hways with f1 | ⟨f1, rfl⟩
  all_goals
    go_enter Tryd.func15, Tryd.ntmps15
    go_wp2_with (first | (go_at_call 14; with_reducible refine (cR _ (by assumption)).mono ?_; rintro e1 W1 ⟨rfl, g1⟩; replace g1 := Grew.trans' (a := w) (by assumption) g1))
    go_loopw [4, 17] (fun vv i wr => ∃ (k : Nat) (v : Value), v = vv ∧ i = .int .i64 (k : Int) ∧ k ≤ l.length ∧ Grew w wr ∧ OwnB wr w.heap.size v (printI (l.take k))) (fun _ i _ => l.length - (intOf i).toNat)
    case atStart => exact ⟨0, _, rfl, rfl, Nat.zero_le _, by assumption, OwnB.nil _ _⟩
    case round =>
      obtain ⟨k, v, rfl, rfl, hk, hb, hown⟩ := hrel
      clear cR f1
      by_cases hlt : k < l.length
      · obtain ⟨x, hx⟩ : ∃ x, l[k]? = some x := ⟨_, List.getElem?_eq_getElem hlt⟩
        obtain ⟨hxi, hxn⟩ := HFI.out x (List.mem_of_getElem? hx)
        have hxm := HNM.out x (List.mem_of_getElem? hx)
        rcases HR.out with h | ⟨b, o, rfl, hc⟩
        · subst h; simp at hlt
        have rx := range_grew (hc k x hx) hb
        have nfx := infoItem x hxi
        clear hc
        go_wp2_with (first | (refine wpList_load_mid rfl 25 _ rfl b _ rfl x.cells _ rx Tryd.underlying25 rfl nfx ?_) | (refine wpList_store_new rfl 25 _ _ rfl wr _ rfl x.cells rfl rfl (x.len hxi).symm nfx x.one ?_))
        intro V gV gVV rV fV sV
        have q0 : ∀ W, Grew V W → W.cell? ⟨wr.heap.size, 0, none⟩ = some (.int .i64 x.mode) := fun W g => by have := rV W g 0 _ x.cell0; simpa using this
        have q1 : ∀ W, Grew V W → W.cell? ⟨wr.heap.size, 1, none⟩ = some (.string x.name) := fun W g => by have := rV W g 1 _ x.cell1; simpa using this
        have ri : ∀ W, Grew V W → W.rangeAt wr.heap.size 2 (Lib.byteCells x.id) := fun W g => by have := range_drop (rV W g) 2; rwa [Nat.zero_add] at this
        have gwV := hb.trans' gV
        have cW := (fun W (g : Grew V W) => tree_word x.mode W)
        obtain ⟨WS, hWS⟩ : ∃ WS : ByteArray, (⟨(Pure.wordM x.mode).toArray⟩ : ByteArray) = WS := ⟨_, rfl⟩
        have hWs : WS.size ≤ 6 := by rw [← hWS]; have := Pure.wordM_len x.mode; show (Pure.wordM x.mode).toArray.size ≤ 6; simpa using this
        simp only [hWS] at cW
        obtain ⟨T1, h1⟩ : ∃ T : ByteArray, WS ++ ⟨#[32]⟩ = T := ⟨_, rfl⟩
        obtain ⟨T2, h2⟩ : ∃ T : ByteArray, T1 ++ x.name = T := ⟨_, rfl⟩
        obtain ⟨T3, h3⟩ : ∃ T : ByteArray, T2 ++ ⟨#[0]⟩ = T := ⟨_, rfl⟩
        have hnl := name_len hxm
        have hnn : x.name.size ≤ 400 := by have : x.name.data.toList.length = x.name.size := Array.length_toList; omega
        have s1 : T1.size = WS.size + 1 := by rw [← h1, ByteArray.size_append]; rfl
        have s2 : T2.size = T1.size + x.name.size := by rw [← h2, ByteArray.size_append]
        have s3 : T3.size = T2.size + 1 := by rw [← h3, ByteArray.size_append]; rfl
        have hT1s : T1.size ≤ 7 := by omega
        have hT2s : T2.size ≤ 407 := by omega
        have hT3s : T3.size ≤ 408 := by omega
        have hT3 : T3.data.toList = Pure.wordM x.mode ++ [32] ++ x.name.data.toList ++ [0] := by
          rw [← h3, ← h2, ← h1, append_list, append_list, append_list, ← hWS]
        have n1 : ¬ 9223372036854775807 < WS.size + 1 := by omega
        have n2 : ¬ 9223372036854775807 < T1.size + x.name.size := by omega
        have n3 : ¬ 9223372036854775807 < T2.size + 1 := by omega
        have HT := Lib.hid hT3
        have hPL := printI_len (l.take k) (fun y hy => HFI.out y (List.mem_of_mem_take hy)) (fun y hy => HNM.out y (List.mem_of_mem_take hy))
        have hTk : (l.take k).length ≤ 500 := by rw [List.length_take]; omega
        have hPL2 : (printI (l.take k)).length ≤ 214000 := by omega
        have hnx := printI_next hx
        have HNX := Lib.hid hnx
        have hownV := (hown.below gV).below (Below.drew (Below.refl _ _) : Grew V V.drew)
        have hne : v.ownBlock ≠ some wr.heap.size := fun e => by have := (hown.lt _ e).2; omega
        have HOV := Lib.hid hownV
        have HNE := Lib.hid hne
        have gwVd : Grew w V.drew := gwV.drew
        clear hnx hT3 hWS s1 s2 s3 hPL hTk hnl hown hownV hne hxm
        go_wp2
        refine wp_region_held_drew (S := fun w' => Grew w w' ∧ w'.cell? ⟨wr.heap.size, 0, none⟩ = some (.int .i64 x.mode) ∧ w'.cell? ⟨wr.heap.size, 1, none⟩ = some (.string x.name)) (by kernel_rfl) (by (first | assumption | exact ⟨gwV.drew, q0 _ (Below.drew gVV), q1 _ (Below.drew gVV)⟩)) (fun hHeld => ?_)
        first
          | (refine wpAnyH_take (i := 0) (v := ?_) rfl (by kernel_rfl) (by kernel_rfl) (by kernel_rfl) (fun _ _ _ h => h) (Or.inl ⟨by rfl, ?_⟩) (by assumption) ?_; rotate_left 1; focus (intro w hSw; (obtain ⟨hs1, hs2, hs3⟩ := hSw); go_simp; (try with_reducible rfl)))
          | fail
        try simp only [Act.put, List.getElem_toArray, List.getElem_cons_succ, List.getElem_cons_zero, List.setIfInBounds_toArray, List.set_cons_zero, List.set_cons_succ]
        first
          | (refine wpAnyH_take (i := 1) (v := ?_) rfl (by kernel_rfl) (by kernel_rfl) (by kernel_rfl) (fun _ _ _ h => h) (Or.inl ⟨by rfl, ?_⟩) (by assumption) ?_; rotate_left 1; focus (intro w hSw; (obtain ⟨hs1, hs2, hs3⟩ := hSw); go_simp; (try with_reducible rfl)))
          | fail
        try simp only [Act.put, List.getElem_toArray, List.getElem_cons_succ, List.getElem_cons_zero, List.setIfInBounds_toArray, List.set_cons_zero, List.set_cons_succ]
        first
          | (refine wpAnyH_take (i := 2) (v := ?_) rfl (by kernel_rfl) (by kernel_rfl) (by kernel_rfl) (fun _ _ _ h => h) (Or.inl ⟨by rfl, ?_⟩) (by assumption) ?_; rotate_left 1; focus (intro w hSw; (obtain ⟨hs1, hs2, hs3⟩ := hSw); go_simp; (try with_reducible rfl)))
          | fail
        try simp only [Act.put, List.getElem_toArray, List.getElem_cons_succ, List.getElem_cons_zero, List.setIfInBounds_toArray, List.set_cons_zero, List.set_cons_succ]
        first
          | (refine wpAnyH_take (i := 5) (v := ?_) rfl (by kernel_rfl) (by kernel_rfl) (by kernel_rfl) (fun _ _ _ h => h) (Or.inl ⟨by rfl, ?_⟩) (by assumption) ?_; rotate_left 1; focus (intro w hSw; (obtain ⟨hs1, hs2, hs3⟩ := hSw); go_simp; (try with_reducible rfl)))
          | fail
        try simp only [Act.put, List.getElem_toArray, List.getElem_cons_succ, List.getElem_cons_zero, List.setIfInBounds_toArray, List.set_cons_zero, List.set_cons_succ]
        first
          | (refine wpAnyH_take (i := 6) (v := ?_) rfl (by kernel_rfl) (by kernel_rfl) (by kernel_rfl) (fun _ _ _ h => h) (Or.inl ⟨by rfl, ?_⟩) (by assumption) ?_; rotate_left 1; focus (intro w hSw; (obtain ⟨hs1, hs2, hs3⟩ := hSw); go_simp; (try with_reducible rfl)))
          | fail
        try simp only [Act.put, List.getElem_toArray, List.getElem_cons_succ, List.getElem_cons_zero, List.setIfInBounds_toArray, List.set_cons_zero, List.set_cons_succ]
        refine wpAnyH_ready (rs := [3]) (by kernel_rfl) (by simp) ?_
        refine AllReadyH.cons rfl (fun K hK => ?_) AllReadyH.nil
        go_simp
        (go_at_call 33; with_reducible refine (cW _ (by first | assumption | exact Below.drew (by assumption))).mono ?_; rintro e9 W9 ⟨rfl, h9⟩; subst W9)
        go_wp2_with fail
        refine hK.out _ _ (by (first | assumption | exact ⟨gwV.drew, q0 _ (Below.drew gVV), q1 _ (Below.drew gVV)⟩)) (fun hHeld => ?_)
        clear hK K
        try simp only [Act.put, List.getElem_toArray, List.getElem_cons_succ, List.getElem_cons_zero, List.setIfInBounds_toArray, List.set_cons_zero, List.set_cons_succ]
        first
          | (refine wpAnyH_take (i := 4) (v := ?_) rfl (by kernel_rfl) (by kernel_rfl) (by kernel_rfl) (fun _ _ _ h => h) (Or.inl ⟨by rfl, ?_⟩) (by assumption) ?_; rotate_left 1; focus (intro w hSw; (obtain ⟨hs1, hs2, hs3⟩ := hSw); go_simp; (try with_reducible rfl)))
          | fail
        try simp only [Act.put, List.getElem_toArray, List.getElem_cons_succ, List.getElem_cons_zero, List.setIfInBounds_toArray, List.set_cons_zero, List.set_cons_succ]
        first
          | (refine wpAnyH_take (i := 7) (v := ?_) rfl (by kernel_rfl) (by kernel_rfl) (by kernel_rfl) (fun _ _ _ h => h) (Or.inl ⟨by rfl, ?_⟩) (by assumption) ?_; rotate_left 1; focus (intro w hSw; (obtain ⟨hs1, hs2, hs3⟩ := hSw); go_simp; (try with_reducible rfl)))
          | fail
        try simp only [Act.put, List.getElem_toArray, List.getElem_cons_succ, List.getElem_cons_zero, List.setIfInBounds_toArray, List.set_cons_zero, List.set_cons_succ]
        first
          | (refine wpAnyH_take (i := 8) (v := ?_) rfl (by kernel_rfl) (by kernel_rfl) (by kernel_rfl) (fun _ _ _ h => h) (Or.inl ⟨by rfl, ?_⟩) (by assumption) ?_; rotate_left 1; focus (intro w hSw; (obtain ⟨hs1, hs2, hs3⟩ := hSw); go_simp; (try with_reducible rfl)))
          | fail
        try simp only [Act.put, List.getElem_toArray, List.getElem_cons_succ, List.getElem_cons_zero, List.setIfInBounds_toArray, List.set_cons_zero, List.set_cons_succ]
        refine wpAnyH_ready (rs := [9]) (by kernel_rfl) (by simp) ?_
        refine AllReadyH.cons rfl (fun K hK => ?_) AllReadyH.nil
        (refine step_append_S rfl _ _ rfl w.heap.size _ _ _ rfl rfl HOV.out gwVd.size (by omega) ?_; intro v3 W3 hown3 hb3 hg3; have hS3 : Grew w W3 ∧ W3.cell? ⟨wr.heap.size, 0, none⟩ = some (.int .i64 x.mode) ∧ W3.cell? ⟨wr.heap.size, 1, none⟩ = some (.string x.name) := ⟨Below.trans gwVd hb3, cell_grown (q0 _ (Below.drew gVV)) hg3 HNE.out, cell_grown (q1 _ (Below.drew gVV)) hg3 HNE.out⟩)
        refine hK.out _ _ (by (first | assumption | exact ⟨gwV.drew, q0 _ (Below.drew gVV), q1 _ (Below.drew gVV)⟩)) (fun hHeld => ?_)
        clear hK K
        try simp only [Act.put, List.getElem_toArray, List.getElem_cons_succ, List.getElem_cons_zero, List.setIfInBounds_toArray, List.set_cons_zero, List.set_cons_succ]
        first
          | (refine wpAnyH_take (i := 10) (v := ?_) rfl (by kernel_rfl) (by kernel_rfl) (by kernel_rfl) (fun _ _ _ h => h) (Or.inl ⟨by rfl, ?_⟩) (by assumption) ?_; rotate_left 1; focus (intro w hSw; (obtain ⟨hs1, hs2, hs3⟩ := hSw); go_simp; (try with_reducible rfl)))
          | fail
        try simp only [Act.put, List.getElem_toArray, List.getElem_cons_succ, List.getElem_cons_zero, List.setIfInBounds_toArray, List.set_cons_zero, List.set_cons_succ]
        refine wpAnyH_done (by kernel_rfl) ?_ _
        have hr3 := rd_range (range_grown (ri _ (Below.drew gVV)) hg3 HNE.out)
        have hid20 := hxi
        rw [HT.out] at hown3
        have hsl := run_slice_id wr.heap.size 2
        have hlen3 : (printI (l.take k) ++ (Pure.wordM x.mode ++ [32] ++ x.name.data.toList ++ [0])).length + x.id.length ≤ 140737488355328 := by
          have hw := Pure.wordM_len x.mode
          have hn2 : x.name.data.toList.length = x.name.size := Array.length_toList
          simp only [List.length_append, List.length_cons, List.length_nil]
          omega
        have g3 := hS3.1
        clear hS3
        go_wp2_with (at_builtin; refine wpList_append_B rfl _ _ rfl w.heap.size _ _ _ _ _ rfl (by rw [hxi]; rfl) hown3 hr3 g3.size hlen3 ?_)
        intro v4 W4 hown4 hb4 hg4
        go_wp2
        go_roundw
        case rel => exact ⟨k + 1, v4, rfl, by go_num, by omega, Below.trans g3 hb4, by rw [HNX.out]; simpa using hown4⟩
        case measure => simp [intOf]; omega
      · obtain rfl : k = l.length := by omega
        rw [List.take_length] at hown
        obtain ⟨q, d, rfl, hrd, hcap, hat⟩ := hown.val
        by_cases hbig : 65536 < (printI l).length
        · have f2 : decide (65536 < ((printI l).length : Int)) = true := decide_eq_true (by omega)
          have HO := HOK.out
          go_wp2
          go_ret2
          exact ⟨hb, .inr (.inl ⟨HOK.out, hbig, rfl⟩)⟩
        · have f2 : decide (65536 < ((printI l).length : Int)) = false := decide_eq_false (by omega)
          go_wp2
          go_ret2
          exact ⟨hb, .inr (.inr ⟨HOK.out, by omega, _, rfl, hown⟩)⟩

end Go.Proofs.YtpgcjljaokopaaaDoor

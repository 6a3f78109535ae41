/- manifest.flag, Right and Print. Conditions: the library's tables are laid, paths of at most 2^30 bytes. -/
import Derived.Test.YtgjnnoamhmmcnaaDoorFlat2
import Derived.Test.YtgjnnoamhmmcnaaDoorM1
import Derived.Test.YtgjnnoamhmmcnaaDoorHexa1
namespace Go.Proofs.YtgjnnoamhmmcnaaDoor
set_option linter.unusedVariables false
set_option linter.unusedSimpArgs false
open Go.RowKit

set_option maxRecDepth 100000 in
theorem manifest_flag (k : Int) (w : World) :
    Calls Tryd.prog 20 #[.int .i64 k] w fun e w' => e = .returned (.string ⟨(flagF k).toArray⟩) ∧ w' = w := by
  have hw : flagF k = if (k == 2) = true then [120] else if (k == 3) = true then [108] else [] := by unfold flagF; simp only [beq_iff_eq]
  rw [hw]
  clear hw
  cases h2 : (k == 2) <;> cases h3 : (k == 3)
  all_goals
    go_enter Tryd.func20, Tryd.ntmps20
    go_wp2
    go_ret
    exact ⟨rfl, rfl⟩

theorem noLine_step {l : List Fil} {k : Nat} {x : Fil} (h : l[k]? = some x) (hn : (l.take k).all (fun f => !f.p.contains 10) = true) : (l.take (k + 1)).all (fun f => !f.p.contains 10) = !x.p.contains 10 := by
  rw [List.take_add_one, h, List.all_append, hn]
  simp

set_option maxRecDepth 100000 in
set_option maxHeartbeats 1000000 in
theorem manifest_Right (p : Option Addr) (l : List Fil) (cap : Nat) (w : World) (hl : l.length ≤ 1073741824) (hr : RdG kFile w p l) (hf : ∀ x ∈ l, FineF x) (hm : MaxOk w) (hu : U8Ok w) (hF : FoldOk w) :
    Calls Tryd.prog 18 #[.slice p l.length cap] w fun e w' => e = .returned (.bool (rightM l)) ∧ Grew w w' := by
  have g0 : Grew w w := Below.refl _ _
  have cR := fun W (g : Grew w W) => flat_Right p l cap W hl (hr.grew g) hf (hm.grew g) (u8_grew hu g) (hF.grew g)
  obtain ⟨m, hmm⟩ := hm
  have hmm : ∀ W, Grew w W → W.cell? ⟨2, 0, none⟩ = some (.int .i64 m) := fun W g => cell_grew hmm g
  have HFI := Lib.hid hf
  have HR := Lib.hid hr
  have HMM := Lib.hid hmm
  have HCR := Lib.hid cR
  clear hf hr hmm cR hu hF
  go_enter Tryd.func18, Tryd.ntmps18
  go_wp2
  go_loopw [7] (fun i wr => ∃ k : Nat, i = .int .i64 (k : Int) ∧ k ≤ l.length ∧ Grew w wr ∧ Hid ((l.take k).all (fun f => !f.p.contains 10) = true)) (fun i _ => l.length - (intOf i).toNat)
  case atStart => exact ⟨0, rfl, Nat.zero_le _, g0, rfl⟩
  case round =>
    obtain ⟨k, rfl, hk, hb, hno⟩ := hrel
    by_cases hlt : k < l.length
    · obtain ⟨x, hx⟩ : ∃ x, l[k]? = some x := ⟨_, List.getElem?_eq_getElem hlt⟩
      obtain ⟨hxi, hxn⟩ := HFI.out x (List.mem_of_getElem? hx)
      rcases HR.out with h | ⟨b, o, rfl, hc⟩
      · subst h; simp at hlt
      have rx : wr.rangeAt b (o + k * 22) x.cells := range_grew (hc k x hx) hb
      have nfx := infoFile x hxi
      clear hc g0
      go_wp2_with (first | (refine wpList_load_mid rfl 28 _ rfl b _ rfl x.cells _ rx Tryd.underlying28 rfl nfx ?_) | (refine wpList_store_new rfl 28 _ _ rfl wr _ rfl x.cells rfl rfl (x.len hxi).symm nfx x.one ?_))
      intro V gV gVV rV fV sV
      have q0 : V.cell? ⟨wr.heap.size, 0, none⟩ = some (.string x.path) := (fil_range (rV V gVV)).1
      have gwV : Grew w V := hb.trans' gV
      have cC := Tryd.strings_Contains x.path ⟨#[10]⟩ m V (by omega) (HMM.out V gwV)
      have hcc : Lib.contains x.path.data.toList [10] = x.p.contains 10 := Pure.contains_one _ _
      have hst := noLine_step hx hno.out
      have hcd : (⟨#[10]⟩ : ByteArray).data.toList = [10] := rfl
      rw [hcd, hcc] at cC
      obtain ⟨C, hC⟩ : ∃ C, x.p.contains 10 = C := ⟨_, rfl⟩
      rw [hC] at cC hst
      have HST := Lib.hid hst
      have HC := Lib.hid hC
      clear hcc hst hC rV fV rx nfx hcd
      cases C with
      | true =>
        have hbad : rightM l = false := by
          unfold rightM
          have : l.all (fun f => !f.p.contains 10) = false := by
            rw [List.all_eq_false]
            exact ⟨x, List.mem_of_getElem? hx, by rw [HC.out]; decide⟩
          rw [this]
          rfl
        have HB := Lib.hid hbad
        clear hbad
        go_wp2_with (go_at_call 31; with_reducible refine cC.mono ?_; rintro e5 W5 ⟨rfl, h5⟩; subst W5)
        go_ret
        exact ⟨by rw [HB.out]; rfl, gwV⟩
      | false =>
        go_wp2_with (go_at_call 31; with_reducible refine cC.mono ?_; rintro e5 W5 ⟨rfl, h5⟩; subst W5)
        go_roundw
        case rel => exact ⟨k + 1, by go_num, by omega, gwV, by have := HST.out; unfold Hid; rw [this]; rfl⟩
        case measure => simp [intOf]; omega
    · obtain rfl : k = l.length := by omega
      have hno2 := hno.out
      rw [List.take_length] at hno2
      have hR : rightM l = rightF l := by unfold rightM; rw [hno2]; rfl
      have HRR := Lib.hid hR
      have cR := fun W (g : Grew wr W) => HCR.out W (hb.trans' g)
      have grr : Grew wr wr := Below.refl _ _
      clear hno hno2 hR
      go_wp2_with (first | (go_at_call 32; with_reducible refine (cR _ (by assumption)).mono ?_; rintro e1 W1 ⟨rfl, g1⟩; replace g1 := Grew.trans' (a := wr) (by assumption) g1))
      go_ret
      exact ⟨by rw [HRR.out]; rfl, hb.trans' (by assumption)⟩

/-- What Print leaves. -/
def PrintPostM (l : List Fil) (w : World) (e : Ending) (w' : World) : Prop := Grew w w' ∧
  ((rightM l = false ∧ e = .returned (.tuple #[.slice none 0 0, .int .i64 11])) ∨ (rightM l = true ∧ 65536 < (printF l).length ∧ e = .returned (.tuple #[.slice none 0 0, .int .i64 5])) ∨
   (rightM l = true ∧ (printF l).length ≤ 65536 ∧ ∃ v, e = .returned (.tuple #[v, .int .i64 0]) ∧ OwnB w' w.heap.size v (printF l)))
theorem run_slice_idF (b o : Nat) (w : World) : (Instr.sliceAt 26 (.pointer (some ⟨b, o, none⟩)) none none none).run Tryd.prog w = .ok (.slice (some ⟨b, o, none⟩) 20 20) w := by
  simp [Instr.sliceAt, go_sem]

set_option maxRecDepth 100000 in
set_option maxHeartbeats 4000000 in
theorem manifest_Print (p : Option Addr) (l : List Fil) (cap : Nat) (w : World) (hl : l.length ≤ 1073741824) (hr : RdG kFile w p l) (hf : ∀ x ∈ l, FineF x) (hm : MaxOk w) (hu : U8Ok w) (hF : FoldOk w) :
    Calls Tryd.prog 9 #[.slice p l.length cap] w (PrintPostM l w) := by
  have g0 : Grew w w := Below.refl _ _
  have cR := (fun W (g : Grew w W) => manifest_Right p l cap W hl (hr.grew g) hf (hm.grew g) (u8_grew hu g) (hF.grew g))
  have HFI := Lib.hid hf
  have HR := Lib.hid hr
  clear hm hu hF hf hr
  cases hok : rightM l with
  | false =>
    rw [hok] at cR
    have HB := Lib.hid hok
    clear hok
    go_enter Tryd.func9, Tryd.ntmps9
    go_wp2_with (first | (go_at_call 18; with_reducible refine (cR _ (by assumption)).mono ?_; rintro e1 W1 ⟨rfl, g1⟩; replace g1 := Grew.trans' (a := w) (by assumption) g1))
    go_ret2
    exact ⟨by assumption, .inl ⟨HB.out, rfl⟩⟩
  | true =>
    rw [hok] at cR
    obtain ⟨p1, p2, hlen, -⟩ := rightM_parts hok
    have HOK := Lib.hid hok
    have HNM := Lib.hid (fun x hx => (oneF_parts (p1 x hx)).1)
    clear hok p1 p2
    go_enter Tryd.func9, Tryd.ntmps9
    go_wp2_with (first | (go_at_call 18; with_reducible refine (cR _ (by assumption)).mono ?_; rintro e1 W1 ⟨rfl, g1⟩; replace g1 := Grew.trans' (a := w) (by assumption) g1))
    go_loopw [4, 12] (fun vv i wr => ∃ (k : Nat) (v : Value), v = vv ∧ i = .int .i64 (k : Int) ∧ k ≤ l.length ∧ Grew w wr ∧ OwnB wr w.heap.size v (printF (l.take k))) (fun _ i _ => l.length - (intOf i).toNat)
    case atStart => exact ⟨0, _, rfl, rfl, Nat.zero_le _, by assumption, OwnB.nil _ _⟩
    case round =>
      obtain ⟨k, v, rfl, rfl, hk, hb, hown⟩ := hrel
      clear cR
      by_cases hlt : k < l.length
      · obtain ⟨x, hx⟩ : ∃ x, l[k]? = some x := ⟨_, List.getElem?_eq_getElem hlt⟩
        obtain ⟨hxi, hxn⟩ := HFI.out x (List.mem_of_getElem? hx)
        have hxm := HNM.out x (List.mem_of_getElem? hx)
        rcases HR.out with h | ⟨b, o, rfl, hc⟩
        · subst h; simp at hlt
        have rx : wr.rangeAt b (o + k * 22) x.cells := range_grew (hc k x hx) hb
        have nfx := infoFile x hxi
        clear hc g0
        go_wp2_with (first | (refine wpList_load_mid rfl 28 _ rfl b _ rfl x.cells _ rx Tryd.underlying28 rfl nfx ?_) | (refine wpList_store_new rfl 28 _ _ rfl wr _ rfl x.cells rfl rfl (x.len hxi).symm nfx x.one ?_))
        intro V gV gVV rV fV sV
        have q0 : ∀ W, Grew V W → W.cell? ⟨wr.heap.size, 0, none⟩ = some (.string x.path) := fun W g => (fil_range (rV W g)).1
        have q1 : ∀ W, Grew V W → W.cell? ⟨wr.heap.size, 1, none⟩ = some (.int .i64 x.mode) := fun W g => by have := (fil_range (rV W g)).2.1; simpa using this
        have ri : ∀ W, Grew V W → W.rangeAt wr.heap.size 2 (Lib.byteCells x.id) := fun W g => by have := (fil_range (rV W g)).2.2; simpa using this
        have gwV := hb.trans' gV
        have cH := (fun W (g : Grew V W) => hexa_Hex (some ⟨wr.heap.size, 2, none⟩) x.id 20 W (by omega) (rd_range (ri W g)))
        rw [hxi] at cH
        have cW := (fun W => manifest_flag x.mode W)
        obtain ⟨H, hH⟩ : ∃ H : ByteArray, (⟨(Pure.hex x.id).toArray⟩ : ByteArray) = H := ⟨_, rfl⟩
        have hHl : H.data.toList = Pure.hex x.id := by rw [← hH]
        have hHs : H.size = 40 := by rw [Lib.size_eq, hHl, Pure.hex_length, hxi]
        simp only [hH] at cH
        obtain ⟨FL, hFL⟩ : ∃ H : ByteArray, (⟨(flagF x.mode).toArray⟩ : ByteArray) = H := ⟨_, rfl⟩
        have hFLl : FL.data.toList = flagF x.mode := by rw [← hFL]
        have hFLs : FL.size ≤ 1 := by rw [Lib.size_eq, hFLl]; exact flagF_len _
        simp only [hFL] at cW
        obtain ⟨T1, h1⟩ : ∃ T : ByteArray, x.path ++ ⟨#[0]⟩ = T := ⟨_, rfl⟩
        obtain ⟨T2, h2⟩ : ∃ T : ByteArray, T1 ++ H = T := ⟨_, rfl⟩
        obtain ⟨T3, h3⟩ : ∃ T : ByteArray, T2 ++ FL = T := ⟨_, rfl⟩
        obtain ⟨T4, h4⟩ : ∃ T : ByteArray, T3 ++ ⟨#[10]⟩ = T := ⟨_, rfl⟩
        have hnl : x.path.data.toList.length ≤ 400 := path_len hxm
        have hnn : x.path.size ≤ 400 := by have : x.path.data.toList.length = x.path.size := Array.length_toList; omega
        have s1 : T1.size = x.path.size + 1 := by rw [← h1, ByteArray.size_append]; rfl
        have s2 : T2.size = T1.size + H.size := by rw [← h2, ByteArray.size_append]
        have s3 : T3.size = T2.size + FL.size := by rw [← h3, ByteArray.size_append]
        have s4 : T4.size = T3.size + 1 := by rw [← h4, ByteArray.size_append]; rfl
        have hT4s : T4.size ≤ 443 := by omega
        have hT4 : T4.data.toList = lineF x := by
          rw [← h4, ← h3, ← h2, ← h1]
          simp only [append_list, hHl, hFLl]
          rfl
        have n1 : ¬ 9223372036854775807 < x.path.size + 1 := by omega
        have n2 : ¬ 9223372036854775807 < T1.size + H.size := by omega
        have n3 : ¬ 9223372036854775807 < T2.size + FL.size := by omega
        have n4 : ¬ 9223372036854775807 < T3.size + 1 := by omega
        have HT := Lib.hid hT4
        have hPL := printF_len (l.take k) (fun y hy => (HFI.out y (List.mem_of_mem_take hy)).1) (fun y hy => HNM.out y (List.mem_of_mem_take hy))
        have hTk : (l.take k).length ≤ 500 := by rw [List.length_take]; omega
        have hPL2 : (printF (l.take k)).length ≤ 221500 := by omega
        have hnx := printF_next hx
        have HNX := Lib.hid hnx
        have hownV := fun W (g : Grew V W) => (hown.below gV).below g
        have HOV := Lib.hid hownV
        have hsl := run_slice_idF wr.heap.size 2
        have hne : v.ownBlock ≠ some wr.heap.size := fun e => by have := (hown.lt _ e).2; omega
        have HNE := Lib.hid hne
        clear hnx hT4 hH hHl hFL hFLl s1 s2 s3 s4 hPL hTk hnl hown hownV hne hxm rx nfx rV fV sV hHs hFLs
        go_wp2
        refine wp_region_held_drew (S := fun w' => Grew w w' ∧ w'.cell? ⟨wr.heap.size, 0, none⟩ = some (.string x.path) ∧ w'.cell? ⟨wr.heap.size, 1, none⟩ = some (.int .i64 x.mode)) (by kernel_rfl) (by (first | assumption | exact ⟨gwV.drew, q0 _ (Below.drew gVV), q1 _ (Below.drew gVV)⟩ | exact ⟨gwV.trans' (by assumption), q0 _ (by assumption), q1 _ (by assumption)⟩)) (fun hHeld => ?_)
        first
          | (refine wpAnyH_take (i := 0) (v := ?_) rfl (by kernel_rfl) (by kernel_rfl) (by kernel_rfl) (fun _ _ _ h => h) (Or.inl ⟨by rfl, ?_⟩) (by assumption) ?_; rotate_left 1; focus (intro w hSw; (obtain ⟨hs1, hs2, hs3⟩ := hSw); go_simp; (try with_reducible rfl)))
          | fail
        try simp only [Act.put, List.getElem_toArray, List.getElem_cons_succ, List.getElem_cons_zero, List.setIfInBounds_toArray, List.set_cons_zero, List.set_cons_succ]
        first
          | (refine wpAnyH_take (i := 1) (v := ?_) rfl (by kernel_rfl) (by kernel_rfl) (by kernel_rfl) (fun _ _ _ h => h) (Or.inl ⟨by rfl, ?_⟩) (by assumption) ?_; rotate_left 1; focus (intro w hSw; (obtain ⟨hs1, hs2, hs3⟩ := hSw); go_simp; (try with_reducible rfl)))
          | fail
        try simp only [Act.put, List.getElem_toArray, List.getElem_cons_succ, List.getElem_cons_zero, List.setIfInBounds_toArray, List.set_cons_zero, List.set_cons_succ]
        first
          | (refine wpAnyH_take (i := 2) (v := ?_) rfl (by kernel_rfl) (by kernel_rfl) (by kernel_rfl) (fun _ _ _ h => h) (Or.inl ⟨by rfl, ?_⟩) (by assumption) ?_; rotate_left 1; focus (intro w hSw; (obtain ⟨hs1, hs2, hs3⟩ := hSw); go_simp; (try with_reducible rfl)))
          | fail
        try simp only [Act.put, List.getElem_toArray, List.getElem_cons_succ, List.getElem_cons_zero, List.setIfInBounds_toArray, List.set_cons_zero, List.set_cons_succ]
        first
          | (refine wpAnyH_take (i := 3) (v := ?_) rfl (by kernel_rfl) (by kernel_rfl) (by kernel_rfl) (fun _ _ _ h => h) (Or.inl ⟨by rfl, ?_⟩) (by assumption) ?_; rotate_left 1; focus (intro w hSw; (obtain ⟨hs1, hs2, hs3⟩ := hSw); go_simp; (try with_reducible rfl)))
          | fail
        try simp only [Act.put, List.getElem_toArray, List.getElem_cons_succ, List.getElem_cons_zero, List.setIfInBounds_toArray, List.set_cons_zero, List.set_cons_succ]
        first
          | (refine wpAnyH_take (i := 4) (v := ?_) rfl (by kernel_rfl) (by kernel_rfl) (by kernel_rfl) (fun _ _ _ h => h) (Or.inl ⟨by rfl, ?_⟩) (by assumption) ?_; rotate_left 1; focus (intro w hSw; (obtain ⟨hs1, hs2, hs3⟩ := hSw); go_simp; (try with_reducible rfl)))
          | fail
        try simp only [Act.put, List.getElem_toArray, List.getElem_cons_succ, List.getElem_cons_zero, List.setIfInBounds_toArray, List.set_cons_zero, List.set_cons_succ]
        first
          | (refine wpAnyH_take (i := 5) (v := ?_) rfl (by kernel_rfl) (by kernel_rfl) (by kernel_rfl) (fun _ _ _ h => h) (Or.inl ⟨by rfl, ?_⟩) (by assumption) ?_; rotate_left 1; focus (intro w hSw; (obtain ⟨hs1, hs2, hs3⟩ := hSw); go_simp; (try with_reducible rfl)))
          | fail
        try simp only [Act.put, List.getElem_toArray, List.getElem_cons_succ, List.getElem_cons_zero, List.setIfInBounds_toArray, List.set_cons_zero, List.set_cons_succ]
        first
          | (refine wpAnyH_take (i := 8) (v := ?_) rfl (by kernel_rfl) (by kernel_rfl) (by kernel_rfl) (fun _ _ _ h => h) (Or.inl ⟨by rfl, ?_⟩) (by assumption) ?_; rotate_left 1; focus (intro w hSw; (obtain ⟨hs1, hs2, hs3⟩ := hSw); go_simp; (try with_reducible rfl)))
          | fail
        try simp only [Act.put, List.getElem_toArray, List.getElem_cons_succ, List.getElem_cons_zero, List.setIfInBounds_toArray, List.set_cons_zero, List.set_cons_succ]
        first
          | (refine wpAnyH_take (i := 9) (v := ?_) rfl (by kernel_rfl) (by kernel_rfl) (by kernel_rfl) (fun _ _ _ h => h) (Or.inl ⟨by rfl, ?_⟩) (by assumption) ?_; rotate_left 1; focus (intro w hSw; (obtain ⟨hs1, hs2, hs3⟩ := hSw); go_simp; (try with_reducible rfl)))
          | fail
        try simp only [Act.put, List.getElem_toArray, List.getElem_cons_succ, List.getElem_cons_zero, List.setIfInBounds_toArray, List.set_cons_zero, List.set_cons_succ]
        refine wpAnyH_ready (rs := [6]) (by kernel_rfl) (by simp) ?_
        refine AllReadyH.cons rfl (fun K hK => ?_) AllReadyH.nil
        go_simp
        (go_at_call 19; with_reducible refine (cH _ (by first | assumption | exact Below.drew (by assumption))).mono ?_; rintro e1 W1 ⟨rfl, g1⟩; replace g1 := Grew.trans' (a := V) (by first | assumption | exact Below.drew (by assumption)) g1)
        go_wp2_with fail
        refine hK.out _ _ (by (first | assumption | exact ⟨gwV.drew, q0 _ (Below.drew gVV), q1 _ (Below.drew gVV)⟩ | exact ⟨gwV.trans' (by assumption), q0 _ (by assumption), q1 _ (by assumption)⟩)) (fun hHeld => ?_)
        clear hK K
        try simp only [Act.put, List.getElem_toArray, List.getElem_cons_succ, List.getElem_cons_zero, List.setIfInBounds_toArray, List.set_cons_zero, List.set_cons_succ]
        first
          | (refine wpAnyH_take (i := 7) (v := ?_) rfl (by kernel_rfl) (by kernel_rfl) (by kernel_rfl) (fun _ _ _ h => h) (Or.inl ⟨by rfl, ?_⟩) (by assumption) ?_; rotate_left 1; focus (intro w hSw; (obtain ⟨hs1, hs2, hs3⟩ := hSw); go_simp; (try with_reducible rfl)))
          | fail
        try simp only [Act.put, List.getElem_toArray, List.getElem_cons_succ, List.getElem_cons_zero, List.setIfInBounds_toArray, List.set_cons_zero, List.set_cons_succ]
        refine wpAnyH_ready (rs := [10]) (by kernel_rfl) (by simp) ?_
        refine AllReadyH.cons rfl (fun K hK => ?_) AllReadyH.nil
        go_simp
        (go_at_call 20; with_reducible refine (cW _).mono ?_; rintro e9 W9 ⟨rfl, h9⟩; subst W9)
        go_wp2_with fail
        refine hK.out _ _ (by (first | assumption | exact ⟨gwV.drew, q0 _ (Below.drew gVV), q1 _ (Below.drew gVV)⟩ | exact ⟨gwV.trans' (by assumption), q0 _ (by assumption), q1 _ (by assumption)⟩)) (fun hHeld => ?_)
        clear hK K
        try simp only [Act.put, List.getElem_toArray, List.getElem_cons_succ, List.getElem_cons_zero, List.setIfInBounds_toArray, List.set_cons_zero, List.set_cons_succ]
        first
          | (refine wpAnyH_take (i := 11) (v := ?_) rfl (by kernel_rfl) (by kernel_rfl) (by kernel_rfl) (fun _ _ _ h => h) (Or.inl ⟨by rfl, ?_⟩) (by assumption) ?_; rotate_left 1; focus (intro w hSw; (obtain ⟨hs1, hs2, hs3⟩ := hSw); go_simp; (try with_reducible rfl)))
          | fail
        try simp only [Act.put, List.getElem_toArray, List.getElem_cons_succ, List.getElem_cons_zero, List.setIfInBounds_toArray, List.set_cons_zero, List.set_cons_succ]
        first
          | (refine wpAnyH_take (i := 12) (v := ?_) rfl (by kernel_rfl) (by kernel_rfl) (by kernel_rfl) (fun _ _ _ h => h) (Or.inl ⟨by rfl, ?_⟩) (by assumption) ?_; rotate_left 1; focus (intro w hSw; (obtain ⟨hs1, hs2, hs3⟩ := hSw); go_simp; (try with_reducible rfl)))
          | fail
        try simp only [Act.put, List.getElem_toArray, List.getElem_cons_succ, List.getElem_cons_zero, List.setIfInBounds_toArray, List.set_cons_zero, List.set_cons_succ]
        refine wpAnyH_ready (rs := [13]) (by kernel_rfl) (by simp) ?_
        refine AllReadyH.cons rfl (fun K hK => ?_) AllReadyH.nil
        (have g1' : Grew V W1 := (by assumption); refine step_append_S rfl _ _ rfl w.heap.size _ _ _ rfl rfl (HOV.out _ g1') (gwV.trans' g1').size (by omega) ?_; intro v3 W3 hown3 hb3 hg3; have hS3 : Grew w W3 ∧ W3.cell? ⟨wr.heap.size, 0, none⟩ = some (.string x.path) ∧ W3.cell? ⟨wr.heap.size, 1, none⟩ = some (.int .i64 x.mode) := ⟨Below.trans (gwV.trans' g1') hb3, cell_grown (q0 _ g1') hg3 HNE.out, cell_grown (q1 _ g1') hg3 HNE.out⟩)
        refine hK.out _ _ (by (first | assumption | exact ⟨gwV.drew, q0 _ (Below.drew gVV), q1 _ (Below.drew gVV)⟩ | exact ⟨gwV.trans' (by assumption), q0 _ (by assumption), q1 _ (by assumption)⟩)) (fun hHeld => ?_)
        clear hK K
        try simp only [Act.put, List.getElem_toArray, List.getElem_cons_succ, List.getElem_cons_zero, List.setIfInBounds_toArray, List.set_cons_zero, List.set_cons_succ]
        first
          | (refine wpAnyH_take (i := 14) (v := ?_) rfl (by kernel_rfl) (by kernel_rfl) (by kernel_rfl) (fun _ _ _ h => h) (Or.inl ⟨by rfl, ?_⟩) (by assumption) ?_; rotate_left 1; focus (intro w hSw; (obtain ⟨hs1, hs2, hs3⟩ := hSw); go_simp; (try with_reducible rfl)))
          | fail
        try simp only [Act.put, List.getElem_toArray, List.getElem_cons_succ, List.getElem_cons_zero, List.setIfInBounds_toArray, List.set_cons_zero, List.set_cons_succ]
        refine wpAnyH_done (by kernel_rfl) ?_ _
        rw [HT.out] at hown3
        have g3 := hS3.1
        clear hS3
        go_wp2
        go_roundw
        case rel => exact ⟨k + 1, v3, rfl, by go_num, by omega, g3, by rw [HNX.out]; exact hown3⟩
        case measure => simp [intOf]; omega
      · obtain rfl : k = l.length := by omega
        rw [List.take_length] at hown
        obtain ⟨q, d, rfl, hrd, hcap, hat⟩ := hown.val
        have HO := Lib.hid hown
        clear hown hrd
        by_cases hbig : 65536 < (printF l).length
        · have f2 : decide (65536 < ((printF l).length : Int)) = true := decide_eq_true (by omega)
          go_wp2
          go_ret2
          exact ⟨hb, .inr (.inl ⟨HOK.out, hbig, rfl⟩)⟩
        · have f2 : decide (65536 < ((printF l).length : Int)) = false := decide_eq_false (by omega)
          go_wp2
          go_ret2
          exact ⟨hb, .inr (.inr ⟨HOK.out, by omega, _, rfl, HO.out⟩)⟩

end Go.Proofs.YtgjnnoamhmmcnaaDoor

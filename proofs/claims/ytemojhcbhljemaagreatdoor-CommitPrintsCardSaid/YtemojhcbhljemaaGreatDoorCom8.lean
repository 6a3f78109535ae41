/- The reference's Right of a record; is an id among others. Conditions: the library's tables are laid; at most 2^30 parents, names and text of at most 2^40 bytes. -/
import Derived.Test.YtemojhcbhljemaaGreatDoorCom2
import Derived.Test.YtemojhcbhljemaaGreatDoorIdent4
import Derived.Test.YtemojhcbhljemaaGreatDoorHelpText
namespace Go.Proofs.YtemojhcbhljemaaGreatDoor
set_option linter.unusedVariables false
set_option linter.unusedSimpArgs false
open Go.RowKit

set_option maxRecDepth 100000 in
set_option maxHeartbeats 1000000 in
theorem help_In_Id (p : Option Addr) (l : List (List UInt8)) (cap : Nat) (x : List UInt8) (w : World) (hx : x.length = 20) (hl : l.length ≤ 1073741824) (hok : ∀ y ∈ l, y.length = 20) (hr : RdG kId w p l) :
    Calls Tryz.prog 37 #[.slice p l.length cap, .agg (Lib.byteCells x).toArray] w fun e w' => e = .returned (.bool (l.contains x)) ∧ Grew w w' := by
  obtain ⟨V, hV, gV, gVV, rV⟩ := boxedG kId w x
  change ∀ W, Grew V W → W.rangeAt w.heap.size 0 (Lib.byteCells x) at rV
  change w.alloc (.cells (Lib.byteCells x).toArray 23) = V at hV
  have nfx := infoId' hx
  have HOK := Lib.hid hok
  have HR := Lib.hid hr
  clear hok hr
  go_enter Tryz.func37, Tryz.ntmps37
  go_wp2
  go_loopw [5] (fun i wr => ∃ k : Nat, k ≤ l.length ∧ i = .int .i64 k ∧ Grew V wr ∧ Hid ((l.take k).contains x = false)) (fun i _ => l.length - (intOf i).toNat)
  case atStart => exact ⟨0, Nat.zero_le _, rfl, gVV, by rw [List.take_zero]; rfl⟩
  case round =>
    obtain ⟨k, hk, rfl, hb, hno⟩ := hrel
    by_cases hlt : k < l.length
    · obtain ⟨y, hy⟩ : ∃ y, l[k]? = some y := ⟨_, List.getElem?_eq_getElem hlt⟩
      have hyi := HOK.out y (List.mem_of_getElem? hy)
      obtain ⟨b, o, rfl, hc⟩ := HR.out.at (by omega)
      have ry : ∀ W, Grew V W → W.rangeAt b (o + k * 20) (Lib.byteCells y) := fun W g => range_grew (range_grew (hc k y hy) gV) g
      have nfy := infoId' hyi
      have e := fun W => eql_id y x hyi hx W
      have gz := fun W op a b => guard_id op a b y x W
      have htk : l.take (k + 1) = l.take k ++ [y] := by rw [List.take_add_one, hy]; rfl
      have hmem : y ∈ l := List.mem_of_getElem? hy
      have HTK := Lib.hid htk
      have HMEM := Lib.hid hmem
      obtain ⟨B, hB⟩ : ∃ B, (y == x) = B := ⟨_, rfl⟩
      simp only [hB] at e
      have HB := Lib.hid hB
      clear hc htk hmem hB hy
      cases B with
      | false =>
        go_wp2
        refine wp_region_held_drew (S := fun w' => Grew V w') (by kernel_rfl) (by first | assumption | exact Below.drew (by assumption)) (fun hHeld => ?_)
        first
          | (refine wpAnyH_take (i := 0) (v := ?_) rfl (by kernel_rfl) (by kernel_rfl) (by kernel_rfl) (fun _ _ _ h => h) (Or.inl ⟨by rfl, ?_⟩) (by assumption) ?_; rotate_left 1; focus (intro w hSw; (try dsimp only at hSw); go_simp; (try with_reducible rfl)))
          | fail
        try simp only [Act.put, List.getElem_toArray, List.getElem_cons_succ, List.getElem_cons_zero, List.setIfInBounds_toArray, List.set_cons_zero, List.set_cons_succ]
        first
          | (refine wpAnyH_take (i := 1) (v := ?_) rfl (by kernel_rfl) (by kernel_rfl) (by kernel_rfl) (fun _ _ _ h => h) (Or.inl ⟨by rfl, ?_⟩) (by assumption) ?_; rotate_left 1; focus (intro w hSw; (try dsimp only at hSw); go_simp; (try with_reducible rfl)))
          | fail
        try simp only [Act.put, List.getElem_toArray, List.getElem_cons_succ, List.getElem_cons_zero, List.setIfInBounds_toArray, List.set_cons_zero, List.set_cons_succ]
        first
          | (refine wpAnyH_take (i := 2) (v := ?_) rfl (by kernel_rfl) (by kernel_rfl) (by kernel_rfl) (fun _ _ _ h => h) (Or.inl ⟨by rfl, ?_⟩) (by assumption) ?_; rotate_left 1; focus (intro w hSw; (try dsimp only at hSw); go_simp; (try with_reducible rfl)))
          | fail
        try simp only [Act.put, List.getElem_toArray, List.getElem_cons_succ, List.getElem_cons_zero, List.setIfInBounds_toArray, List.set_cons_zero, List.set_cons_succ]
        first
          | (refine' wpAnyH_take (i := 3) (v := _) rfl (by kernel_rfl) (by kernel_rfl) (by kernel_rfl) (fun _ _ _ h => h) (yieldsIf_load_mid (by rfl) _ _ rfl _ _ rfl _ _ (fun w hSw => (by (first | exact rV _ hSw | exact ry _ hSw))) Tryz.underlying23 rfl (by first | assumption | kernel_rfl)) (by assumption) ?_)
          | fail
        try simp only [Act.put, List.getElem_toArray, List.getElem_cons_succ, List.getElem_cons_zero, List.setIfInBounds_toArray, List.set_cons_zero, List.set_cons_succ]
        first
          | (refine' wpAnyH_take (i := 4) (v := _) rfl (by kernel_rfl) (by kernel_rfl) (by kernel_rfl) (fun _ _ _ h => h) (yieldsIf_load_mid (by rfl) _ _ rfl _ _ rfl _ _ (fun w hSw => (by (first | exact rV _ hSw | exact ry _ hSw))) Tryz.underlying23 rfl (by first | assumption | kernel_rfl)) (by assumption) ?_)
          | fail
        try simp only [Act.put, List.getElem_toArray, List.getElem_cons_succ, List.getElem_cons_zero, List.setIfInBounds_toArray, List.set_cons_zero, List.set_cons_succ]
        first
          | (refine wpAnyH_take (i := 5) (v := ?_) rfl (by kernel_rfl) (by kernel_rfl) (by kernel_rfl) (fun _ _ _ h => h) (Or.inl ⟨by rfl, ?_⟩) (by assumption) ?_; rotate_left 1; focus (intro w hSw; (try dsimp only at hSw); go_simp; (try with_reducible rfl)))
          | fail
        try simp only [Act.put, List.getElem_toArray, List.getElem_cons_succ, List.getElem_cons_zero, List.setIfInBounds_toArray, List.set_cons_zero, List.set_cons_succ]
        refine wpAnyH_done (by kernel_rfl) ?_ _
        go_wp2
        go_roundw
        case rel =>
          refine ⟨k + 1, by omega, by go_num, by assumption, ?_⟩
          show (l.take (k + 1)).contains x = false
          rw [HTK.out, List.contains_append, hno.out]
          have h1 : (y == x) = false := HB.out
          have h3 : ¬ x = y := fun e => by rw [e] at h1; simp at h1
          simpa using h3
        case measure => simp [intOf]; omega
      | true =>
        go_wp2
        refine wp_region_held_drew (S := fun w' => Grew V w') (by kernel_rfl) (by first | assumption | exact Below.drew (by assumption)) (fun hHeld => ?_)
        first
          | (refine wpAnyH_take (i := 0) (v := ?_) rfl (by kernel_rfl) (by kernel_rfl) (by kernel_rfl) (fun _ _ _ h => h) (Or.inl ⟨by rfl, ?_⟩) (by assumption) ?_; rotate_left 1; focus (intro w hSw; (try dsimp only at hSw); go_simp; (try with_reducible rfl)))
          | fail
        try simp only [Act.put, List.getElem_toArray, List.getElem_cons_succ, List.getElem_cons_zero, List.setIfInBounds_toArray, List.set_cons_zero, List.set_cons_succ]
        first
          | (refine wpAnyH_take (i := 1) (v := ?_) rfl (by kernel_rfl) (by kernel_rfl) (by kernel_rfl) (fun _ _ _ h => h) (Or.inl ⟨by rfl, ?_⟩) (by assumption) ?_; rotate_left 1; focus (intro w hSw; (try dsimp only at hSw); go_simp; (try with_reducible rfl)))
          | fail
        try simp only [Act.put, List.getElem_toArray, List.getElem_cons_succ, List.getElem_cons_zero, List.setIfInBounds_toArray, List.set_cons_zero, List.set_cons_succ]
        first
          | (refine wpAnyH_take (i := 2) (v := ?_) rfl (by kernel_rfl) (by kernel_rfl) (by kernel_rfl) (fun _ _ _ h => h) (Or.inl ⟨by rfl, ?_⟩) (by assumption) ?_; rotate_left 1; focus (intro w hSw; (try dsimp only at hSw); go_simp; (try with_reducible rfl)))
          | fail
        try simp only [Act.put, List.getElem_toArray, List.getElem_cons_succ, List.getElem_cons_zero, List.setIfInBounds_toArray, List.set_cons_zero, List.set_cons_succ]
        first
          | (refine' wpAnyH_take (i := 3) (v := _) rfl (by kernel_rfl) (by kernel_rfl) (by kernel_rfl) (fun _ _ _ h => h) (yieldsIf_load_mid (by rfl) _ _ rfl _ _ rfl _ _ (fun w hSw => (by (first | exact rV _ hSw | exact ry _ hSw))) Tryz.underlying23 rfl (by first | assumption | kernel_rfl)) (by assumption) ?_)
          | fail
        try simp only [Act.put, List.getElem_toArray, List.getElem_cons_succ, List.getElem_cons_zero, List.setIfInBounds_toArray, List.set_cons_zero, List.set_cons_succ]
        first
          | (refine' wpAnyH_take (i := 4) (v := _) rfl (by kernel_rfl) (by kernel_rfl) (by kernel_rfl) (fun _ _ _ h => h) (yieldsIf_load_mid (by rfl) _ _ rfl _ _ rfl _ _ (fun w hSw => (by (first | exact rV _ hSw | exact ry _ hSw))) Tryz.underlying23 rfl (by first | assumption | kernel_rfl)) (by assumption) ?_)
          | fail
        try simp only [Act.put, List.getElem_toArray, List.getElem_cons_succ, List.getElem_cons_zero, List.setIfInBounds_toArray, List.set_cons_zero, List.set_cons_succ]
        first
          | (refine wpAnyH_take (i := 5) (v := ?_) rfl (by kernel_rfl) (by kernel_rfl) (by kernel_rfl) (fun _ _ _ h => h) (Or.inl ⟨by rfl, ?_⟩) (by assumption) ?_; rotate_left 1; focus (intro w hSw; (try dsimp only at hSw); go_simp; (try with_reducible rfl)))
          | fail
        try simp only [Act.put, List.getElem_toArray, List.getElem_cons_succ, List.getElem_cons_zero, List.setIfInBounds_toArray, List.set_cons_zero, List.set_cons_succ]
        refine wpAnyH_done (by kernel_rfl) ?_ _
        go_wp2
        go_ret
        refine ⟨?_, gV.trans' (by assumption)⟩
        have h1 : y = x := by simpa using HB.out
        rw [h1] at HMEM
        rw [List.contains_iff_mem.2 HMEM.out]; rfl
    · obtain rfl : k = l.length := by omega
      have hno2 := hno.out
      rw [List.take_length] at hno2
      have HN := Lib.hid hno2
      clear hno2
      go_wp2
      go_ret
      exact ⟨by rw [HN.out]; rfl, gV.trans' hb⟩

theorem contains_index (l t : List UInt8) : decide (0 ≤ Lib.index l t) = Lib.contains l t := by
  unfold Lib.contains
  rfl

set_option maxRecDepth 100000 in
set_option maxHeartbeats 8000000 in
theorem ref_RightR (p : Option Addr) (cap : Nat) (r : Rec) (w : World) (hf : FineR r) (hc : r.par.length ≤ cap) (hr : RdG kId w p r.par) (hu : U8Ok w) (hm : MaxOk w) :
    Calls Tryz.prog 13 #[.agg (r.cells (.slice p r.par.length cap)).toArray] w fun e w' => e = .returned (.bool (rightR r)) ∧ Grew w w' := by
  obtain ⟨V, hV, gV, gVV, rV⟩ := boxedR w (.slice p r.par.length cap) r
  obtain ⟨h20, hp20, hpl, ha1, ha2, hc1, hc2, htx⟩ := hf
  have rT := fun W g => (rec_range (rV W g) h20).1
  have rP : ∀ W, Grew V W → W.cell? ⟨w.heap.size, 20, none⟩ = some (.slice p r.par.length cap) := fun W g => by have := (rec_range (rV W g) h20).2.1; rwa [Nat.zero_add] at this
  have rA : ∀ W, Grew V W → W.rangeAt w.heap.size 21 r.au.cells := fun W g => by have := (rec_range (rV W g) h20).2.2.1; rwa [Nat.zero_add] at this
  have rC : ∀ W, Grew V W → W.rangeAt w.heap.size 25 r.co.cells := fun W g => by have := (rec_range (rV W g) h20).2.2.2.1; rwa [Nat.zero_add] at this
  have rX : ∀ W, Grew V W → W.cell? ⟨w.heap.size, 29, none⟩ = some (.string r.text) := fun W g => by have := (rec_range (rV W g) h20).2.2.2.2; rwa [Nat.zero_add] at this
  have hstep := fun k x (h : r.par[k]? = some x) => parOk_step h
  have hcon : ∀ (k : Nat) (x : List UInt8) W, x.length = 20 → RdG kId W p r.par → Calls Tryz.prog 37 #[.slice p (r.par.take k).length cap, .agg (Lib.byteCells x).toArray] W fun e w' => e = .returned (.bool ((r.par.take k).contains x)) ∧ Grew W w' := fun k x W hx h => help_In_Id p (r.par.take k) cap x W hx (by have := List.length_take_le' k r.par; omega) (fun y hy => hp20 y (List.mem_of_mem_take hy)) (h.take k)
  have HST := Lib.hid hstep
  have HP20 := Lib.hid hp20
  have HR := Lib.hid hr
  have HCON := Lib.hid hcon
  have hrest : rightR r = (parOk [] r.par && rightRest r) := rfl
  have HREST := Lib.hid hrest
  have hst0 : parOk [] r.par = parOk (r.par.take 0) (r.par.drop 0) := rfl
  have HS0 := Lib.hid hst0
  obtain ⟨n, hn⟩ : ∃ n, r.par.length = n := ⟨_, rfl⟩
  have HN := Lib.hid hn
  rw [hn] at rP hpl hc hV rV ⊢
  have HRV := Lib.hid rV
  have gVr : Grew V V := gVV
  have cA : ∀ W, Grew V W → Calls Tryz.prog 35 #[.agg #[.string r.au.name, .string r.au.email, .int .i64 r.au.when, .int .i64 r.au.zone]] W fun e w' => e = .returned (.bool (rightN r.au)) ∧ Grew W w' := fun W g => ref_RightNW r.au W ha1 ha2 (u8_grew hu (gV.trans' g))
  have cC : ∀ W, Grew V W → Calls Tryz.prog 35 #[.agg #[.string r.co.name, .string r.co.email, .int .i64 r.co.when, .int .i64 r.co.zone]] W fun e w' => e = .returned (.bool (rightN r.co)) ∧ Grew W w' := fun W g => ref_RightNW r.co W hc1 hc2 (u8_grew hu (gV.trans' g))
  have cX := fun W => help_Find r.text ⟨#[0]⟩ W (by omega) (by decide) (by decide)
  have rT2 := rT V gVV
  have a0 : ∀ W, Grew V W → W.cell? ⟨w.heap.size, 21, none⟩ = some (.string r.au.name) := fun W g => rA W g 0 _ rfl
  have a1 : ∀ W, Grew V W → W.cell? ⟨w.heap.size, 22, none⟩ = some (.string r.au.email) := fun W g => rA W g 1 _ rfl
  have a2 : ∀ W, Grew V W → W.cell? ⟨w.heap.size, 23, none⟩ = some (.int .i64 r.au.when) := fun W g => rA W g 2 _ rfl
  have a3 : ∀ W, Grew V W → W.cell? ⟨w.heap.size, 24, none⟩ = some (.int .i64 r.au.zone) := fun W g => rA W g 3 _ rfl
  have b0 : ∀ W, Grew V W → W.cell? ⟨w.heap.size, 25, none⟩ = some (.string r.co.name) := fun W g => rC W g 0 _ rfl
  have b1 : ∀ W, Grew V W → W.cell? ⟨w.heap.size, 26, none⟩ = some (.string r.co.email) := fun W g => rC W g 1 _ rfl
  have b2 : ∀ W, Grew V W → W.cell? ⟨w.heap.size, 27, none⟩ = some (.int .i64 r.co.when) := fun W g => rC W g 2 _ rfl
  have b3 : ∀ W, Grew V W → W.cell? ⟨w.heap.size, 28, none⟩ = some (.int .i64 r.co.zone) := fun W g => rC W g 3 _ rfl
  have ez := fun W => eql_idz' r.tree h20 W
  have gz := fun W op a b => guard_idz' op a b r.tree W
  have nfT := infoId' h20
  have hrs : rightRest r = (!(r.tree == zeros20) && decide (n ≤ 16) && rightN r.au && rightN r.co && !(Lib.contains r.text.data.toList [0]) && decide (r.text.size ≤ 32768)) := by unfold rightRest; rw [hn]
  have hXI : decide (0 ≤ Lib.index r.text.data.toList [0]) = Lib.contains r.text.data.toList [0] := contains_index _ _
  obtain ⟨Z, hZ⟩ : ∃ Z, (r.tree == zeros20) = Z := ⟨_, rfl⟩
  obtain ⟨A, hA⟩ : ∃ A, rightN r.au = A := ⟨_, rfl⟩
  obtain ⟨C, hC⟩ : ∃ C, rightN r.co = C := ⟨_, rfl⟩
  obtain ⟨X, hX⟩ : ∃ X, Lib.contains r.text.data.toList [0] = X := ⟨_, rfl⟩
  obtain ⟨L, hL⟩ : ∃ L, decide (n ≤ 16) = L := ⟨_, rfl⟩
  obtain ⟨B, hB⟩ : ∃ B, decide (r.text.size ≤ 32768) = B := ⟨_, rfl⟩
  rw [hZ, hA, hC, hX, hL, hB] at hrs
  simp only [hZ] at ez
  simp only [hA] at cA
  simp only [hC] at cC
  rw [hX] at hXI
  have hL' : decide (16 < (n : Int)) = !L := by rw [← hL]; by_cases h : n ≤ 16 <;> simp [h] <;> omega
  have hB' : decide (32768 < (r.text.size : Int)) = !B := by rw [← hB]; by_cases h : r.text.size ≤ 32768 <;> simp [h] <;> omega
  obtain ⟨FI, hFI⟩ : ∃ FI, Lib.index r.text.data.toList [0] = FI := ⟨_, rfl⟩
  simp only [show (⟨#[0]⟩ : ByteArray).data.toList = [0] from rfl, hFI] at cX
  rw [hFI] at hXI
  have HRS := Lib.hid hrs
  have ways : Z = true ∨ (Z = false ∧ L = false) ∨ (Z = false ∧ L = true ∧ A = false) ∨ (Z = false ∧ L = true ∧ A = true ∧ C = false) ∨ (Z = false ∧ L = true ∧ A = true ∧ C = true ∧ B = false) ∨ (Z = false ∧ L = true ∧ A = true ∧ C = true ∧ B = true ∧ X = true) ∨ (Z = false ∧ L = true ∧ A = true ∧ C = true ∧ B = true ∧ X = false) := by
    cases Z <;> cases L <;> cases A <;> cases C <;> cases X <;> cases B <;> simp
  have HPAR : Hid (rightR r = (parOk [] r.par && rightRest r)) := HREST
  clear hr hp20 hstep hcon hrest hst0 hn rV hZ hA hC hX hL hB hrs rA rC rT hFI
  generalize hRCe : (r.cells (.slice p n cap)).toArray = RC at *
  clear hRCe
  rcases ways with rfl | ⟨rfl, rfl⟩ | ⟨rfl, rfl, rfl⟩ | ⟨rfl, rfl, rfl, rfl⟩ | ⟨rfl, rfl, rfl, rfl, rfl⟩ | ⟨rfl, rfl, rfl, rfl, rfl, rfl⟩ | ⟨rfl, rfl, rfl, rfl, rfl, rfl⟩
  iterate 6
    · go_enter Tryz.func13, Tryz.ntmps13
      go_wp2_with (first | (refine wpList_load_mid rfl 23 (.tmp 4) rfl w.heap.size 0 rfl (Lib.byteCells r.tree) _ rT2 Tryz.underlying23 rfl nfT ?_) | (go_at_call 35; with_reducible refine (cA _ (by assumption)).mono ?_; rintro e1 W1 ⟨rfl, g1⟩; replace g1 := Grew.trans' (a := V) (by assumption) g1) | (go_at_call 35; with_reducible refine (cC _ (by assumption)).mono ?_; rintro e1 W1 ⟨rfl, g1⟩; replace g1 := Grew.trans' (a := V) (by assumption) g1) | (go_at_call 36; with_reducible refine (cX _).mono ?_; rintro e1 W1 ⟨rfl, h1⟩; subst W1))
      go_ret
      exact ⟨by rw [HREST.out, HRS.out]; simp, gV.trans' (by assumption)⟩
  · go_enter Tryz.func13, Tryz.ntmps13
    go_wp2_with (first | (refine wpList_load_mid rfl 23 (.tmp 4) rfl w.heap.size 0 rfl (Lib.byteCells r.tree) _ rT2 Tryz.underlying23 rfl nfT ?_) | (go_at_call 35; with_reducible refine (cA _ (by assumption)).mono ?_; rintro e1 W1 ⟨rfl, g1⟩; replace g1 := Grew.trans' (a := V) (by assumption) g1) | (go_at_call 35; with_reducible refine (cC _ (by assumption)).mono ?_; rintro e1 W1 ⟨rfl, g1⟩; replace g1 := Grew.trans' (a := V) (by assumption) g1) | (go_at_call 36; with_reducible refine (cX _).mono ?_; rintro e1 W1 ⟨rfl, h1⟩; subst W1))
    have hfin : rightR r = parOk [] r.par := by rw [HREST.out, HRS.out]; simp
    have HFIN := Lib.hid hfin
    clear hfin cA cC cX a0 a1 a2 a3 b0 b1 b2 b3 ez gz rT2 rX hXI hL' hB'
    go_loopw [3] (fun i wr => ∃ k : Nat, k ≤ n ∧ i = .int .i64 k ∧ Grew V wr ∧ Hid (parOk [] r.par = parOk (r.par.take k) (r.par.drop k))) (fun i _ => n - (intOf i).toNat)
    case atStart => exact ⟨0, Nat.zero_le _, rfl, by assumption, HS0.out⟩
    case round =>
      obtain ⟨k, hk, rfl, hb, hgd⟩ := hrel
      by_cases hlt : k < n
      · obtain ⟨x, hx⟩ : ∃ x, r.par[k]? = some x := ⟨_, List.getElem?_eq_getElem (by rw [HN.out]; exact hlt)⟩
        have hxi := HP20.out x (List.mem_of_getElem? hx)
        obtain ⟨b, o, rfl, hcx⟩ := HR.out.at (by rw [HN.out]; omega)
        have rx : ∀ W, Grew V W → W.rangeAt b (o + k * 20) (Lib.byteCells x) := fun W g => range_grew (range_grew (hcx k x hx) gV) g
        have nfx := infoId' hxi
        have hs1 := HST.out k x hx
        have hgd2 := hgd.out
        rw [hs1] at hgd2
        have hsl := slice_to (some ⟨b, o, none⟩) n cap k (by omega)
        have hkn : decide ((k : Int) < (n : Int)) = true := decide_eq_true (by omega)
        have hk0 : (0 : Int) ≤ (k : Int) := by omega
        have hkc : (k : Int) ≤ (cap : Int) := by omega
        have hl2 : (r.par.take k).length = k := by rw [List.length_take, HN.out]; omega
        have HX := Lib.hid hx
        have ez := fun W => eql_idz' x hxi W
        have gz := fun W op a b => guard_idz' op a b x W
        have cK := fun W (g : Grew V W) => HCON.out k x W hxi (HR.out.grew (gV.trans' g))
        rw [hl2] at cK
        have rP2 := fun W (g : Grew V W) => rP W g
        obtain ⟨Z, hZ⟩ : ∃ Z, (x == zeros20) = Z := ⟨_, rfl⟩
        obtain ⟨S, hS⟩ : ∃ S, (r.par.take k).contains x = S := ⟨_, rfl⟩
        simp only [hZ] at ez
        simp only [hS] at cK
        rw [hZ, hS] at hgd2
        have HGD := Lib.hid hgd2
        clear hcx hs1 hgd hx hZ hS hgd2 hl2
        have ways : Z = true ∨ (Z = false ∧ S = true) ∨ (Z = false ∧ S = false) := by cases Z <;> cases S <;> simp
        rcases ways with rfl | ⟨rfl, rfl⟩ | ⟨rfl, rfl⟩
        all_goals
          go_wp2
          refine wp_region_held_drew (S := fun w' => Grew V w') (by kernel_rfl) (by first | assumption | exact Below.drew (by assumption)) (fun hHeld => ?_)
          first
            | (refine wpAnyH_take (i := 0) (v := ?_) rfl (by kernel_rfl) (by kernel_rfl) (by kernel_rfl) (fun _ _ _ h => h) (Or.inl ⟨by rfl, ?_⟩) (by assumption) ?_; rotate_left 1; focus (intro w hSw; (try dsimp only at hSw); go_simp; (try with_reducible rfl)))
            | fail
          try simp only [Act.put, List.getElem_toArray, List.getElem_cons_succ, List.getElem_cons_zero, List.setIfInBounds_toArray, List.set_cons_zero, List.set_cons_succ]
          first
            | (refine wpAnyH_take (i := 1) (v := ?_) rfl (by kernel_rfl) (by kernel_rfl) (by kernel_rfl) (fun _ _ _ h => h) (Or.inl ⟨by rfl, ?_⟩) (by assumption) ?_; rotate_left 1; focus (intro w hSw; (try dsimp only at hSw); go_simp; (try with_reducible rfl)))
            | fail
          try simp only [Act.put, List.getElem_toArray, List.getElem_cons_succ, List.getElem_cons_zero, List.setIfInBounds_toArray, List.set_cons_zero, List.set_cons_succ]
          first
            | (refine wpAnyH_take (i := 2) (v := ?_) rfl (by kernel_rfl) (by kernel_rfl) (by kernel_rfl) (fun _ _ _ h => h) (Or.inl ⟨by rfl, ?_⟩) (by assumption) ?_; rotate_left 1; focus (intro w hSw; (try dsimp only at hSw); go_simp; (try with_reducible rfl)))
            | fail
          try simp only [Act.put, List.getElem_toArray, List.getElem_cons_succ, List.getElem_cons_zero, List.setIfInBounds_toArray, List.set_cons_zero, List.set_cons_succ]
          first
            | (refine wpAnyH_take (i := 3) (v := ?_) rfl (by kernel_rfl) (by kernel_rfl) (by kernel_rfl) (fun _ _ _ h => h) (Or.inl ⟨by rfl, ?_⟩) (by assumption) ?_; rotate_left 1; focus (intro w hSw; (try dsimp only at hSw); go_simp; (try with_reducible rfl)))
            | fail
          try simp only [Act.put, List.getElem_toArray, List.getElem_cons_succ, List.getElem_cons_zero, List.setIfInBounds_toArray, List.set_cons_zero, List.set_cons_succ]
          first
            | (refine' wpAnyH_take (i := 4) (v := _) rfl (by kernel_rfl) (by kernel_rfl) (by kernel_rfl) (fun _ _ _ h => h) (yieldsIf_load_mid (by rfl) _ _ rfl _ _ rfl _ _ (fun w hSw => (by (exact rx _ hSw))) Tryz.underlying23 rfl (by first | assumption | kernel_rfl)) (by assumption) ?_)
            | fail
          try simp only [Act.put, List.getElem_toArray, List.getElem_cons_succ, List.getElem_cons_zero, List.setIfInBounds_toArray, List.set_cons_zero, List.set_cons_succ]
          first
            | (refine wpAnyH_take (i := 5) (v := ?_) rfl (by kernel_rfl) (by kernel_rfl) (by kernel_rfl) (fun _ _ _ h => h) (Or.inl ⟨by rfl, ?_⟩) (by assumption) ?_; rotate_left 1; focus (intro w hSw; (try dsimp only at hSw); go_simp; (try with_reducible rfl)))
            | fail
          try simp only [Act.put, List.getElem_toArray, List.getElem_cons_succ, List.getElem_cons_zero, List.setIfInBounds_toArray, List.set_cons_zero, List.set_cons_succ]
          first
            | (refine wpAnyH_take (i := 6) (v := ?_) rfl (by kernel_rfl) (by kernel_rfl) (by kernel_rfl) (fun _ _ _ h => h) (Or.inl ⟨by rfl, ?_⟩) (by assumption) ?_; rotate_left 1; focus (intro w hSw; (try dsimp only at hSw); go_simp; (try with_reducible rfl)))
            | fail
          try simp only [Act.put, List.getElem_toArray, List.getElem_cons_succ, List.getElem_cons_zero, List.setIfInBounds_toArray, List.set_cons_zero, List.set_cons_succ]
          first
            | (refine wpAnyH_take (i := 7) (v := ?_) rfl (by kernel_rfl) (by kernel_rfl) (by kernel_rfl) (fun _ _ _ h => h) (Or.inl ⟨by rfl, ?_⟩) (by assumption) ?_; rotate_left 1; focus (intro w hSw; (try dsimp only at hSw); go_simp; (try with_reducible rfl)))
            | fail
          try simp only [Act.put, List.getElem_toArray, List.getElem_cons_succ, List.getElem_cons_zero, List.setIfInBounds_toArray, List.set_cons_zero, List.set_cons_succ]
          first
            | (refine wpAnyH_take (i := 8) (v := ?_) rfl (by kernel_rfl) (by kernel_rfl) (by kernel_rfl) (fun _ _ _ h => h) (Or.inl ⟨by rfl, ?_⟩) (by assumption) ?_; rotate_left 1; focus (intro w hSw; (try dsimp only at hSw); go_simp; (try with_reducible rfl)))
            | (refine wpAnyH_take (i := 8) (v := undef) rfl (by kernel_rfl) (by kernel_rfl) (by kernel_rfl) (fun _ _ _ h => h) (Or.inr ⟨by rfl, rfl⟩) (by assumption) ?_)
            | fail
          try simp only [Act.put, List.getElem_toArray, List.getElem_cons_succ, List.getElem_cons_zero, List.setIfInBounds_toArray, List.set_cons_zero, List.set_cons_succ]
          first
            | (refine wpAnyH_take (i := 9) (v := ?_) rfl (by kernel_rfl) (by kernel_rfl) (by kernel_rfl) (fun _ _ _ h => h) (Or.inl ⟨by rfl, ?_⟩) (by assumption) ?_; rotate_left 1; focus (intro w hSw; (try dsimp only at hSw); go_simp; (try with_reducible rfl)))
            | (refine wpAnyH_take (i := 9) (v := undef) rfl (by kernel_rfl) (by kernel_rfl) (by kernel_rfl) (fun _ _ _ h => h) (Or.inr ⟨by rfl, rfl⟩) (by assumption) ?_)
            | fail
          try simp only [Act.put, List.getElem_toArray, List.getElem_cons_succ, List.getElem_cons_zero, List.setIfInBounds_toArray, List.set_cons_zero, List.set_cons_succ]
          first
            | (refine wpAnyH_take (i := 10) (v := ?_) rfl (by kernel_rfl) (by kernel_rfl) (by kernel_rfl) (fun _ _ _ h => h) (Or.inl ⟨by rfl, ?_⟩) (by assumption) ?_; rotate_left 1; focus (intro w hSw; (try dsimp only at hSw); go_simp; (try with_reducible rfl)))
            | (refine wpAnyH_take (i := 10) (v := undef) rfl (by kernel_rfl) (by kernel_rfl) (by kernel_rfl) (fun _ _ _ h => h) (Or.inr ⟨by rfl, rfl⟩) (by assumption) ?_)
            | fail
          try simp only [Act.put, List.getElem_toArray, List.getElem_cons_succ, List.getElem_cons_zero, List.setIfInBounds_toArray, List.set_cons_zero, List.set_cons_succ]
          first
            | (refine wpAnyH_take (i := 11) (v := ?_) rfl (by kernel_rfl) (by kernel_rfl) (by kernel_rfl) (fun _ _ _ h => h) (Or.inl ⟨by rfl, ?_⟩) (by assumption) ?_; rotate_left 1; focus (intro w hSw; (try dsimp only at hSw); go_simp; (try with_reducible rfl)))
            | (refine wpAnyH_take (i := 11) (v := undef) rfl (by kernel_rfl) (by kernel_rfl) (by kernel_rfl) (fun _ _ _ h => h) (Or.inr ⟨by rfl, rfl⟩) (by assumption) ?_)
            | fail
          try simp only [Act.put, List.getElem_toArray, List.getElem_cons_succ, List.getElem_cons_zero, List.setIfInBounds_toArray, List.set_cons_zero, List.set_cons_succ]
          first
            | (refine wpAnyH_take (i := 12) (v := ?_) rfl (by kernel_rfl) (by kernel_rfl) (by kernel_rfl) (fun _ _ _ h => h) (Or.inl ⟨by rfl, ?_⟩) (by assumption) ?_; rotate_left 1; focus (intro w hSw; (try dsimp only at hSw); go_simp; (try with_reducible rfl)))
            | (refine wpAnyH_take (i := 12) (v := undef) rfl (by kernel_rfl) (by kernel_rfl) (by kernel_rfl) (fun _ _ _ h => h) (Or.inr ⟨by rfl, rfl⟩) (by assumption) ?_)
            | fail
          try simp only [Act.put, List.getElem_toArray, List.getElem_cons_succ, List.getElem_cons_zero, List.setIfInBounds_toArray, List.set_cons_zero, List.set_cons_succ]
          first
            | (refine wpAnyH_take (i := 13) (v := ?_) rfl (by kernel_rfl) (by kernel_rfl) (by kernel_rfl) (fun _ _ _ h => h) (Or.inl ⟨by rfl, ?_⟩) (by assumption) ?_; rotate_left 1; focus (intro w hSw; (try dsimp only at hSw); go_simp; (try with_reducible rfl)))
            | (refine wpAnyH_take (i := 13) (v := undef) rfl (by kernel_rfl) (by kernel_rfl) (by kernel_rfl) (fun _ _ _ h => h) (Or.inr ⟨by rfl, rfl⟩) (by assumption) ?_)
            | fail
          try simp only [Act.put, List.getElem_toArray, List.getElem_cons_succ, List.getElem_cons_zero, List.setIfInBounds_toArray, List.set_cons_zero, List.set_cons_succ]
          first
            | (refine wpAnyH_take (i := 14) (v := ?_) rfl (by kernel_rfl) (by kernel_rfl) (by kernel_rfl) (fun _ _ _ h => h) (Or.inl ⟨by rfl, ?_⟩) (by assumption) ?_; rotate_left 1; focus (intro w hSw; (try dsimp only at hSw); go_simp; (try with_reducible rfl)))
            | (refine wpAnyH_take (i := 14) (v := undef) rfl (by kernel_rfl) (by kernel_rfl) (by kernel_rfl) (fun _ _ _ h => h) (Or.inr ⟨by rfl, rfl⟩) (by assumption) ?_)
            | fail
          try simp only [Act.put, List.getElem_toArray, List.getElem_cons_succ, List.getElem_cons_zero, List.setIfInBounds_toArray, List.set_cons_zero, List.set_cons_succ]
          first
            | (refine wpAnyH_take (i := 15) (v := ?_) rfl (by kernel_rfl) (by kernel_rfl) (by kernel_rfl) (fun _ _ _ h => h) (Or.inl ⟨by rfl, ?_⟩) (by assumption) ?_; rotate_left 1; focus (intro w hSw; (try dsimp only at hSw); go_simp; (try with_reducible rfl)))
            | (refine wpAnyH_take (i := 15) (v := undef) rfl (by kernel_rfl) (by kernel_rfl) (by kernel_rfl) (fun _ _ _ h => h) (Or.inr ⟨by rfl, rfl⟩) (by assumption) ?_)
            | fail
          try simp only [Act.put, List.getElem_toArray, List.getElem_cons_succ, List.getElem_cons_zero, List.setIfInBounds_toArray, List.set_cons_zero, List.set_cons_succ]
          first
            | (refine' wpAnyH_take (i := 16) (v := _) rfl (by kernel_rfl) (by kernel_rfl) (by kernel_rfl) (fun _ _ _ h => h) (yieldsIf_load_mid (by rfl) _ _ rfl _ _ rfl _ _ (fun w hSw => (by (exact rx _ hSw))) Tryz.underlying23 rfl (by first | assumption | kernel_rfl)) (by assumption) ?_)
            | (refine wpAnyH_take (i := 16) (v := undef) rfl (by kernel_rfl) (by kernel_rfl) (by kernel_rfl) (fun _ _ _ h => h) (Or.inr ⟨by rfl, rfl⟩) (by assumption) ?_)
            | fail
          try simp only [Act.put, List.getElem_toArray, List.getElem_cons_succ, List.getElem_cons_zero, List.setIfInBounds_toArray, List.set_cons_zero, List.set_cons_succ]
          first
            | (refine wpAnyH_take (i := 17) (v := undef) rfl (by kernel_rfl) (by kernel_rfl) (by kernel_rfl) (fun _ _ _ h => h) (Or.inr ⟨by rfl, rfl⟩) (by assumption) ?_; try simp only [Act.put, List.getElem_toArray, List.getElem_cons_succ, List.getElem_cons_zero, List.setIfInBounds_toArray, List.set_cons_zero, List.set_cons_succ])
            | (refine wpAnyH_ready (rs := [17]) (by kernel_rfl) (by simp) ?_; refine AllReadyH.cons rfl (fun K hK => ?_) AllReadyH.nil; go_simp; ((go_at_call 37; with_reducible refine (cK _ (by first | assumption | exact Below.drew (by assumption))).mono ?_; rintro e1 W1 ⟨rfl, g1⟩; replace g1 := Grew.trans' (a := V) (by first | assumption | exact Below.drew (by assumption)) g1)); go_wp2_with fail; refine hK.out _ _ (by first | assumption | exact Below.drew (by assumption)) (fun hHeld => ?_); clear hK K; (try simp only [Act.put, List.getElem_toArray, List.getElem_cons_succ, List.getElem_cons_zero, List.setIfInBounds_toArray, List.set_cons_zero, List.set_cons_succ]))
            | fail
          first
            | (refine wpAnyH_take (i := 18) (v := ?_) rfl (by kernel_rfl) (by kernel_rfl) (by kernel_rfl) (fun _ _ _ h => h) (Or.inl ⟨by rfl, ?_⟩) (by assumption) ?_; rotate_left 1; focus (intro w hSw; (try dsimp only at hSw); go_simp; (try with_reducible rfl)))
            | fail
          try simp only [Act.put, List.getElem_toArray, List.getElem_cons_succ, List.getElem_cons_zero, List.setIfInBounds_toArray, List.set_cons_zero, List.set_cons_succ]
          refine wpAnyH_done (by kernel_rfl) ?_ _
          go_wp2
        · go_ret
          refine ⟨?_, gV.trans' (by assumption)⟩
          rw [HFIN.out, HGD.out]; rfl
        · go_ret
          refine ⟨?_, gV.trans' (by assumption)⟩
          rw [HFIN.out, HGD.out]; rfl
        · go_roundw
          case rel => exact ⟨k + 1, by omega, by go_num, by assumption, by show parOk [] r.par = _; rw [HGD.out]; simp⟩
          case measure => simp [intOf]; omega
      · obtain rfl : k = n := by omega
        have hgd2 := hgd.out
        rw [List.drop_of_length_le (by rw [HN.out]; exact Nat.le_refl _)] at hgd2
        have hf2 : rightR r = true := by rw [HFIN.out, hgd2]; cases (r.par.take k) <;> simp [parOk]
        have HF2 := Lib.hid hf2
        clear hf2 hgd2
        go_wp2
        go_ret
        exact ⟨by rw [HF2.out]; rfl, gV.trans' (by assumption)⟩

end Go.Proofs.YtemojhcbhljemaaGreatDoor

/- commit.Right: which records may be. Conditions: the library's tables are laid; at most 2^30 parents, names and text of at most 2^40 bytes. -/
import Derived.Test.YtemojhcbhljemaaGreatDoorCom1
import Derived.Test.YtemojhcbhljemaaGreatDoorIdent7
import Derived.Test.YtemojhcbhljemaaGreatDoorShelf
namespace Go.Proofs.YtemojhcbhljemaaGreatDoor
set_option linter.unusedVariables false
set_option linter.unusedSimpArgs false
open Go.RowKit

/-- A record, but for where its parents lie. -/
structure Rec where
  tree : List UInt8
  par : List (List UInt8)
  au : Idn
  co : Idn
  text : ByteArray
def Rec.cells (v : Value) (r : Rec) : List Value := Lib.byteCells r.tree ++ (v :: (r.au.cells ++ (r.co.cells ++ [.string r.text])))
/-- A record in memory: its parents lie at p. -/
def Rec.vcells (p : Option Addr) (cap : Nat) (r : Rec) : List Value := r.cells (.slice p r.par.length cap)
theorem Rec.len (v : Value) (r : Rec) (h : r.tree.length = 20) : (r.cells v).length = 30 := by
  unfold Rec.cells
  simp [Lib.byteCells_length, h, Idn.cells]
/-- A record's parts that any may have. -/
def FineR (r : Rec) : Prop := r.tree.length = 20 ∧ (∀ x ∈ r.par, x.length = 20) ∧ r.par.length ≤ 1073741824 ∧ r.au.name.size ≤ 9223372036854775807 ∧ r.au.email.size ≤ 9223372036854775807 ∧ r.co.name.size ≤ 9223372036854775807 ∧ r.co.email.size ≤ 9223372036854775807 ∧ r.text.size ≤ 1073741824
/-- Which parents may be. -/
def parOk : List (List UInt8) → List (List UInt8) → Bool
  | _, [] => true
  | seen, x :: r => !(x == zeros20) && !(seen.contains x) && parOk (seen ++ [x]) r
def rightRest (r : Rec) : Bool := !(r.tree == zeros20) && decide (r.par.length ≤ 16) && rightN r.au && rightN r.co && !(Lib.contains r.text.data.toList [0]) && decide (r.text.size ≤ 32768)
/-- Which records may be. -/
def rightR (r : Rec) : Bool := parOk [] r.par && rightRest r
theorem parOk_step {l : List (List UInt8)} {k : Nat} {x : List UInt8} (h : l[k]? = some x) : parOk (l.take k) (l.drop k) = (!(x == zeros20) && !((l.take k).contains x) && parOk (l.take (k + 1)) (l.drop (k + 1))) := by
  have hk := (List.getElem?_eq_some_iff.1 h).1
  rw [List.drop_eq_getElem_cons hk, (List.getElem?_eq_some_iff.1 h).2, parOk, List.take_add_one, h]
  rfl

theorem rec_range {w : World} {b o : Nat} {v : Value} {r : Rec} (h : w.rangeAt b o (r.cells v)) (ht : r.tree.length = 20) : w.rangeAt b o (Lib.byteCells r.tree) ∧ w.cell? ⟨b, o + 20, none⟩ = some v ∧ w.rangeAt b (o + 21) r.au.cells ∧ w.rangeAt b (o + 25) r.co.cells ∧ w.cell? ⟨b, o + 29, none⟩ = some (.string r.text) := by
  unfold Rec.cells at h
  have h1 := range_suf h
  rw [Lib.byteCells_length, ht] at h1
  have h2 := range_drop h1 1
  rw [List.drop_succ_cons, List.drop_zero] at h2
  have h3 := range_suf h2
  have e : r.au.cells.length = 4 := rfl
  have e2 : r.co.cells.length = 4 := rfl
  rw [e] at h3
  have h4 := range_suf h3
  rw [e2] at h4
  exact ⟨range_pre h, by have := h1 0 v rfl; rwa [Nat.add_zero] at this, range_pre h2, range_pre h3, by have := h4 0 _ rfl; rwa [Nat.add_zero] at this⟩
theorem boxedR (w : World) (v : Value) (r : Rec) : ∃ W0, w.alloc (.cells (r.cells v).toArray 28) = W0 ∧ Grew w W0 ∧ Grew W0 W0 ∧ (∀ W, Grew W0 W → W.rangeAt w.heap.size 0 (r.cells v)) := by
  obtain ⟨W0, hW0, g0, g00, hq⟩ := boxed w (r.cells v).toArray 28
  refine ⟨W0, hW0, g0, g00, fun W g j u hu => ?_⟩
  rw [Nat.zero_add]
  exact hq W g j u (by simpa using hu)

set_option maxRecDepth 100000 in
/-- c[:k] of a slice of ids. -/
theorem slice_to (p : Option Addr) (n c k : Nat) (h : k ≤ c) (W : World) : (Instr.slice 24 (.slice p n c) none (some (.int .i64 (k : Int))) none).run Tryz.prog W = .ok (.slice p k c) W := by
  rw [run_slice_h W 24 _ n c Tryz.underlying24 .i64 _ (by omega) (by omega)]
  have hs : (sizeOf (Tryz.prog.elem 24)).run Tryz.prog W = .ok 20 W := by kernel_rfl
  rw [hs]
  simp only [Result.andThen_ok, sliced, Int.toNat_natCast, Nat.sub_zero]
  split
  · rfl
  · cases p with
    | none => rfl
    | some a => obtain ⟨b, o, s⟩ := a; cases s <;> simp [Addr.add]

set_option maxRecDepth 100000 in
set_option maxHeartbeats 4000000 in
theorem commit_Right (p : Option Addr) (cap : Nat) (r : Rec) (w : World) (hf : FineR r) (hc : r.par.length ≤ cap) (hr : RdG kId w p r.par) (hu : U8Ok w) (hm : MaxOk w) :
    Calls Tryz.prog 12 #[.agg (r.vcells p cap).toArray] w fun e w' => e = .returned (.bool (rightR r)) ∧ Grew w w' := by
  obtain ⟨V, hV, gV, gVV, rV⟩ := boxedR w (.slice p r.par.length cap) r
  obtain ⟨h20, hp20, hpl, ha1, ha2, hc1, hc2, htx⟩ := hf
  have rT := fun W g => (rec_range (rV W g) h20).1
  have rP : ∀ W, Grew V W → W.cell? ⟨w.heap.size, 20, none⟩ = some (.slice p r.par.length cap) := fun W g => by have := (rec_range (rV W g) h20).2.1; rwa [Nat.zero_add] at this
  have rA : ∀ W, Grew V W → W.rangeAt w.heap.size 21 r.au.cells := fun W g => by have := (rec_range (rV W g) h20).2.2.1; rwa [Nat.zero_add] at this
  have rC : ∀ W, Grew V W → W.rangeAt w.heap.size 25 r.co.cells := fun W g => by have := (rec_range (rV W g) h20).2.2.2.1; rwa [Nat.zero_add] at this
  have rX : ∀ W, Grew V W → W.cell? ⟨w.heap.size, 29, none⟩ = some (.string r.text) := fun W g => by have := (rec_range (rV W g) h20).2.2.2.2; rwa [Nat.zero_add] at this
  have hstep := fun k x (h : r.par[k]? = some x) => parOk_step h
  have hcon := fun (k : Nat) (x : List UInt8) (W : World) (hx : x.length = 20) (g : Grew w W) => slices_Contains_id p (r.par.take k) cap x W hx (by rw [List.length_take]; omega) (fun y hy => hp20 y (List.mem_of_mem_take hy)) ((hr.grew g).take k)
  have HR := Lib.hid hr
  have HP20 := Lib.hid hp20
  have HST := Lib.hid hstep
  have HCON := Lib.hid hcon
  have hrest : rightR r = (parOk [] r.par && rightRest r) := rfl
  have HREST := Lib.hid hrest
  have hst0 : parOk [] r.par = parOk (r.par.take 0) (r.par.drop 0) := rfl
  have HS0 := Lib.hid hst0
  obtain ⟨n, hn⟩ : ∃ n, r.par.length = n := ⟨_, rfl⟩
  have HN := Lib.hid hn
  unfold Rec.vcells
  rw [hn] at rP hpl hc hV rV ⊢
  have HRV := Lib.hid rV
  clear hr hp20 hstep hcon hrest hst0 hn rV
  generalize (r.cells (.slice p n cap)).toArray = RC at *
  go_enter Tryz.func12, Tryz.ntmps12
  go_wp2
  go_loopw [8] (fun i wr => ∃ k : Nat, k ≤ n ∧ i = .int .i64 k ∧ Grew V wr ∧ Hid (parOk [] r.par = parOk (r.par.take k) (r.par.drop k))) (fun i _ => n - (intOf i).toNat)
  case atStart => exact ⟨0, Nat.zero_le _, rfl, gVV, HS0.out⟩
  case round =>
    obtain ⟨k, hk, rfl, hb, hgd⟩ := hrel
    by_cases hlt : k < n
    · obtain ⟨x, hx⟩ : ∃ x, r.par[k]? = some x := ⟨_, List.getElem?_eq_getElem (by rw [HN.out]; exact hlt)⟩
      have hxi := HP20.out x (List.mem_of_getElem? hx)
      obtain ⟨b, o, rfl, hcx⟩ := HR.out.at (by rw [HN.out]; omega)
      have rx : wr.rangeAt b (o + k * 20) (Lib.byteCells x) := range_grew (range_grew (hcx k x hx) gV) hb
      have nfx := infoId' hxi
      have hs1 := HST.out k x hx
      have hgd2 := hgd.out
      rw [hs1] at hgd2
      have hsl := slice_to (some ⟨b, o, none⟩) n cap k (by omega)
      have hkn : decide ((k : Int) < (n : Int)) = true := decide_eq_true (by omega)
      have hk0 : (0 : Int) ≤ (k : Int) := by omega
      have hkc : (k : Int) ≤ (cap : Int) := by omega
      have hl2 : (r.par.take k).length = k := by rw [List.length_take, HN.out]; omega
      have one1 := one_bytes' x
      have h22 : (Lib.byteCells x).length = 20 := by rw [Lib.byteCells_length]; exact hxi
      have HX := Lib.hid hx
      clear hcx hs1 hgd hx
      go_wp2_with (first | (refine wpList_load_mid rfl 23 _ rfl b _ rfl (Lib.byteCells x) _ rx Tryz.underlying23 rfl nfx ?_) | (refine wpList_store_new rfl 23 _ _ rfl wr _ rfl (Lib.byteCells x) rfl rfl h22.symm nfx one1 ?_))
      intro U gU gUU rU fU sU
      have gVU := hb.trans' gU
      have ez := fun W => eql_idz' x hxi W
      have gz := fun W op a b => guard_idz' op a b x W
      have cK := fun W (g : Grew U W) => HCON.out k x W hxi ((gV.trans' gVU).trans' g)
      rw [hl2] at cK
      have rP2 := fun W (g : Grew U W) => rP W (gVU.trans' g)
      obtain ⟨Z, hZ⟩ : ∃ Z, (x == zeros20) = Z := ⟨_, rfl⟩
      obtain ⟨S, hS⟩ : ∃ S, (r.par.take k).contains x = S := ⟨_, rfl⟩
      simp only [hZ] at ez
      simp only [hS] at cK
      rw [hZ, hS] at hgd2
      have HGD := Lib.hid hgd2
      clear hZ hS hgd2 rx hl2 one1 h22
      have ways : Z = true ∨ (Z = false ∧ S = true) ∨ (Z = false ∧ S = false) := by cases Z <;> cases S <;> simp
      rcases ways with rfl | ⟨rfl, rfl⟩ | ⟨rfl, rfl⟩
      all_goals
        go_wp2
        refine wp_region_held_drew (S := fun w' => Grew U w') (by kernel_rfl) (by first | assumption | exact Below.drew (by assumption)) (fun hHeld => ?_)
        first
          | (refine' wpAnyH_take (i := 0) (v := _) rfl (by kernel_rfl) (by kernel_rfl) (by kernel_rfl) (fun _ _ _ h => h) (yieldsIf_load_mid (by rfl) _ _ rfl _ _ rfl _ _ (fun w hSw => (by (first | exact rU _ hSw))) Tryz.underlying23 rfl (by first | assumption | kernel_rfl)) (by assumption) ?_)
          | fail
        try simp only [Act.put, List.getElem_toArray, List.getElem_cons_succ, List.getElem_cons_zero, List.setIfInBounds_toArray, List.set_cons_zero, List.set_cons_succ]
        first
          | (refine wpAnyH_take (i := 1) (v := ?_) rfl (by kernel_rfl) (by kernel_rfl) (by kernel_rfl) (fun _ _ _ h => h) (Or.inl ⟨by rfl, ?_⟩) (by assumption) ?_; rotate_left 1; focus (intro w hSw; (try dsimp only at hSw); go_simp; (try with_reducible rfl)))
          | fail
        try simp only [Act.put, List.getElem_toArray, List.getElem_cons_succ, List.getElem_cons_zero, List.setIfInBounds_toArray, List.set_cons_zero, List.set_cons_succ]
        first
          | (refine wpAnyH_take (i := 2) (v := ?_) rfl (by kernel_rfl) (by kernel_rfl) (by kernel_rfl) (fun _ _ _ h => h) (Or.inl ⟨by rfl, ?_⟩) (by assumption) ?_; rotate_left 1; focus (intro w hSw; (try dsimp only at hSw); go_simp; (try with_reducible rfl)))
          | fail
        try simp only [Act.put, List.getElem_toArray, List.getElem_cons_succ, List.getElem_cons_zero, List.setIfInBounds_toArray, List.set_cons_zero, List.set_cons_succ]
        first
          | (refine wpAnyH_take (i := 3) (v := ?_) rfl (by kernel_rfl) (by kernel_rfl) (by kernel_rfl) (fun _ _ _ h => h) (Or.inl ⟨by rfl, ?_⟩) (by assumption) ?_; rotate_left 1; focus (intro w hSw; (try dsimp only at hSw); go_simp; (try with_reducible rfl)))
          | fail
        try simp only [Act.put, List.getElem_toArray, List.getElem_cons_succ, List.getElem_cons_zero, List.setIfInBounds_toArray, List.set_cons_zero, List.set_cons_succ]
        first
          | (refine wpAnyH_take (i := 4) (v := ?_) rfl (by kernel_rfl) (by kernel_rfl) (by kernel_rfl) (fun _ _ _ h => h) (Or.inl ⟨by rfl, ?_⟩) (by assumption) ?_; rotate_left 1; focus (intro w hSw; (try dsimp only at hSw); go_simp; (try with_reducible rfl)))
          | (refine wpAnyH_take (i := 4) (v := undef) rfl (by kernel_rfl) (by kernel_rfl) (by kernel_rfl) (fun _ _ _ h => h) (Or.inr ⟨by rfl, rfl⟩) (by assumption) ?_)
          | fail
        try simp only [Act.put, List.getElem_toArray, List.getElem_cons_succ, List.getElem_cons_zero, List.setIfInBounds_toArray, List.set_cons_zero, List.set_cons_succ]
        first
          | (refine wpAnyH_take (i := 5) (v := ?_) rfl (by kernel_rfl) (by kernel_rfl) (by kernel_rfl) (fun _ _ _ h => h) (Or.inl ⟨by rfl, ?_⟩) (by assumption) ?_; rotate_left 1; focus (intro w hSw; (try dsimp only at hSw); go_simp; (try with_reducible rfl)))
          | (refine wpAnyH_take (i := 5) (v := undef) rfl (by kernel_rfl) (by kernel_rfl) (by kernel_rfl) (fun _ _ _ h => h) (Or.inr ⟨by rfl, rfl⟩) (by assumption) ?_)
          | fail
        try simp only [Act.put, List.getElem_toArray, List.getElem_cons_succ, List.getElem_cons_zero, List.setIfInBounds_toArray, List.set_cons_zero, List.set_cons_succ]
        first
          | (refine wpAnyH_take (i := 6) (v := ?_) rfl (by kernel_rfl) (by kernel_rfl) (by kernel_rfl) (fun _ _ _ h => h) (Or.inl ⟨by rfl, ?_⟩) (by assumption) ?_; rotate_left 1; focus (intro w hSw; (try dsimp only at hSw); go_simp; (try with_reducible rfl)))
          | (refine wpAnyH_take (i := 6) (v := undef) rfl (by kernel_rfl) (by kernel_rfl) (by kernel_rfl) (fun _ _ _ h => h) (Or.inr ⟨by rfl, rfl⟩) (by assumption) ?_)
          | fail
        try simp only [Act.put, List.getElem_toArray, List.getElem_cons_succ, List.getElem_cons_zero, List.setIfInBounds_toArray, List.set_cons_zero, List.set_cons_succ]
        first
          | (refine wpAnyH_take (i := 7) (v := ?_) rfl (by kernel_rfl) (by kernel_rfl) (by kernel_rfl) (fun _ _ _ h => h) (Or.inl ⟨by rfl, ?_⟩) (by assumption) ?_; rotate_left 1; focus (intro w hSw; (try dsimp only at hSw); go_simp; (try with_reducible rfl)))
          | (refine wpAnyH_take (i := 7) (v := undef) rfl (by kernel_rfl) (by kernel_rfl) (by kernel_rfl) (fun _ _ _ h => h) (Or.inr ⟨by rfl, rfl⟩) (by assumption) ?_)
          | fail
        try simp only [Act.put, List.getElem_toArray, List.getElem_cons_succ, List.getElem_cons_zero, List.setIfInBounds_toArray, List.set_cons_zero, List.set_cons_succ]
        first
          | (refine' wpAnyH_take (i := 8) (v := _) rfl (by kernel_rfl) (by kernel_rfl) (by kernel_rfl) (fun _ _ _ h => h) (yieldsIf_load_mid (by rfl) _ _ rfl _ _ rfl _ _ (fun w hSw => (by (first | exact rU _ hSw))) Tryz.underlying23 rfl (by first | assumption | kernel_rfl)) (by assumption) ?_)
          | (refine wpAnyH_take (i := 8) (v := undef) rfl (by kernel_rfl) (by kernel_rfl) (by kernel_rfl) (fun _ _ _ h => h) (Or.inr ⟨by rfl, rfl⟩) (by assumption) ?_)
          | fail
        try simp only [Act.put, List.getElem_toArray, List.getElem_cons_succ, List.getElem_cons_zero, List.setIfInBounds_toArray, List.set_cons_zero, List.set_cons_succ]
        first
          | (refine wpAnyH_take (i := 9) (v := undef) rfl (by kernel_rfl) (by kernel_rfl) (by kernel_rfl) (fun _ _ _ h => h) (Or.inr ⟨by rfl, rfl⟩) (by assumption) ?_; try simp only [Act.put, List.getElem_toArray, List.getElem_cons_succ, List.getElem_cons_zero, List.setIfInBounds_toArray, List.set_cons_zero, List.set_cons_succ])
          | (refine wpAnyH_ready (rs := [9]) (by kernel_rfl) (by simp) ?_; refine AllReadyH.cons rfl (fun K hK => ?_) AllReadyH.nil; go_simp; ((go_at_call 32; with_reducible refine (cK _ (by first | assumption | exact Below.drew (by assumption))).mono ?_; rintro e1 W1 ⟨rfl, g1⟩; replace g1 := Grew.trans' (a := U) (by first | assumption | exact Below.drew (by assumption)) g1)); go_wp2_with fail; refine hK.out _ _ (by first | assumption | exact Below.drew (by assumption)) (fun hHeld => ?_); clear hK K; (try simp only [Act.put, List.getElem_toArray, List.getElem_cons_succ, List.getElem_cons_zero, List.setIfInBounds_toArray, List.set_cons_zero, List.set_cons_succ]))
          | fail
        first
          | (refine wpAnyH_take (i := 10) (v := ?_) rfl (by kernel_rfl) (by kernel_rfl) (by kernel_rfl) (fun _ _ _ h => h) (Or.inl ⟨by rfl, ?_⟩) (by assumption) ?_; rotate_left 1; focus (intro w hSw; (try dsimp only at hSw); go_simp; (try with_reducible rfl)))
          | fail
        try simp only [Act.put, List.getElem_toArray, List.getElem_cons_succ, List.getElem_cons_zero, List.setIfInBounds_toArray, List.set_cons_zero, List.set_cons_succ]
        refine wpAnyH_done (by kernel_rfl) ?_ _
        go_wp2
      · go_ret
        refine ⟨?_, gV.trans' (gVU.trans' (by assumption))⟩
        rw [HREST.out, HGD.out]; rfl
      · go_ret
        refine ⟨?_, gV.trans' (gVU.trans' (by assumption))⟩
        rw [HREST.out, HGD.out]; rfl
      · go_roundw
        case rel => exact ⟨k + 1, by omega, by go_num, gVU.trans' (by assumption), by show parOk [] r.par = _; rw [HGD.out]; simp⟩
        case measure => simp [intOf]; omega
    · obtain rfl : k = n := by omega
      have hgd2 := hgd.out
      rw [List.drop_of_length_le (by rw [HN.out]; exact Nat.le_refl _)] at hgd2
      have hfin : rightR r = rightRest r := by rw [HREST.out, hgd2]; cases (r.par.take k) <;> simp [parOk]
      have HFIN := Lib.hid hfin
      have hgw := gV.trans' hb
      obtain ⟨m, hm0⟩ := hm
      have hmm : ∀ W, Grew wr W → W.cell? ⟨2, 0, none⟩ = some (.int .i64 m) := fun W g => cell_grew hm0 (hgw.trans' g)
      have cA : ∀ W, Grew wr W → Calls Tryz.prog 33 #[.agg #[.string r.au.name, .string r.au.email, .int .i64 r.au.when, .int .i64 r.au.zone]] W fun e w' => e = .returned (.bool (rightN r.au)) ∧ Grew W w' := fun W g => ident_RightW r.au W ha1 ha2 (u8_grew hu (hgw.trans' g))
      have cC : ∀ W, Grew wr W → Calls Tryz.prog 33 #[.agg #[.string r.co.name, .string r.co.email, .int .i64 r.co.when, .int .i64 r.co.zone]] W fun e w' => e = .returned (.bool (rightN r.co)) ∧ Grew W w' := fun W g => ident_RightW r.co W hc1 hc2 (u8_grew hu (hgw.trans' g))
      have cX := fun W (g : Grew wr W) => Tryz.strings_Contains r.text ⟨#[0]⟩ m W (by omega) (hmm W g)
      have rT2 := rT wr hb
      have a0 : ∀ W, Grew wr W → W.cell? ⟨w.heap.size, 21, none⟩ = some (.string r.au.name) := fun W g => rA W (hb.trans' g) 0 _ rfl
      have a1 : ∀ W, Grew wr W → W.cell? ⟨w.heap.size, 22, none⟩ = some (.string r.au.email) := fun W g => rA W (hb.trans' g) 1 _ rfl
      have a2 : ∀ W, Grew wr W → W.cell? ⟨w.heap.size, 23, none⟩ = some (.int .i64 r.au.when) := fun W g => rA W (hb.trans' g) 2 _ rfl
      have a3 : ∀ W, Grew wr W → W.cell? ⟨w.heap.size, 24, none⟩ = some (.int .i64 r.au.zone) := fun W g => rA W (hb.trans' g) 3 _ rfl
      have b0 : ∀ W, Grew wr W → W.cell? ⟨w.heap.size, 25, none⟩ = some (.string r.co.name) := fun W g => rC W (hb.trans' g) 0 _ rfl
      have b1 : ∀ W, Grew wr W → W.cell? ⟨w.heap.size, 26, none⟩ = some (.string r.co.email) := fun W g => rC W (hb.trans' g) 1 _ rfl
      have b2 : ∀ W, Grew wr W → W.cell? ⟨w.heap.size, 27, none⟩ = some (.int .i64 r.co.when) := fun W g => rC W (hb.trans' g) 2 _ rfl
      have b3 : ∀ W, Grew wr W → W.cell? ⟨w.heap.size, 28, none⟩ = some (.int .i64 r.co.zone) := fun W g => rC W (hb.trans' g) 3 _ rfl
      have rP3 := fun W (g : Grew wr W) => rP W (hb.trans' g)
      have rX3 := fun W (g : Grew wr W) => rX W (hb.trans' g)
      have ez := fun W => neq_idz' r.tree h20 W
      have gz := fun W op a b => guard_idz' op a b r.tree W
      have nfT := infoId' h20
      have hrs : rightRest r = (!(r.tree == zeros20) && decide (k ≤ 16) && rightN r.au && rightN r.co && !(Lib.contains r.text.data.toList [0]) && decide (r.text.size ≤ 32768)) := by unfold rightRest; rw [HN.out]
      obtain ⟨Z, hZ⟩ : ∃ Z, (r.tree == zeros20) = Z := ⟨_, rfl⟩
      obtain ⟨A, hA⟩ : ∃ A, rightN r.au = A := ⟨_, rfl⟩
      obtain ⟨C, hC⟩ : ∃ C, rightN r.co = C := ⟨_, rfl⟩
      obtain ⟨X, hX⟩ : ∃ X, Lib.contains r.text.data.toList [0] = X := ⟨_, rfl⟩
      obtain ⟨L, hL⟩ : ∃ L, decide (k ≤ 16) = L := ⟨_, rfl⟩
      obtain ⟨B, hB⟩ : ∃ B, decide (r.text.size ≤ 32768) = B := ⟨_, rfl⟩
      rw [hZ, hA, hC, hX, hL, hB] at hrs
      simp only [hZ] at ez
      simp only [hA] at cA
      simp only [hC] at cC
      simp only [hX] at cX
      have hL' : decide ((k : Int) ≤ 16) = L := by rw [← hL]; exact decide_eq_decide.2 (by omega)
      have hB' : decide ((r.text.size : Int) ≤ 32768) = B := by rw [← hB]; exact decide_eq_decide.2 (by omega)
      have HRS := Lib.hid hrs
      have gwr : Grew wr wr := Below.refl _ _
      have ways : Z = true ∨ (Z = false ∧ L = false) ∨ (Z = false ∧ L = true ∧ A = false) ∨ (Z = false ∧ L = true ∧ A = true ∧ C = false) ∨ (Z = false ∧ L = true ∧ A = true ∧ C = true ∧ X = true) ∨ (Z = false ∧ L = true ∧ A = true ∧ C = true ∧ X = false) := by
        cases Z <;> cases L <;> cases A <;> cases C <;> cases X <;> simp
      clear hZ hA hC hX hL hB hrs rA rC rT rP rX hu hm0
      rcases ways with rfl | ⟨rfl, rfl⟩ | ⟨rfl, rfl, rfl⟩ | ⟨rfl, rfl, rfl, rfl⟩ | ⟨rfl, rfl, rfl, rfl, rfl⟩ | ⟨rfl, rfl, rfl, rfl, rfl⟩
      all_goals
        go_wp2_with (first | (refine wpList_load_mid rfl 23 (.tmp 25) rfl w.heap.size 0 rfl (Lib.byteCells r.tree) _ rT2 Tryz.underlying23 rfl nfT ?_) | (go_at_call 33; with_reducible refine (cA _ (by assumption)).mono ?_; rintro e1 W1 ⟨rfl, g1⟩; replace g1 := Grew.trans' (a := wr) (by assumption) g1) | (go_at_call 33; with_reducible refine (cC _ (by assumption)).mono ?_; rintro e1 W1 ⟨rfl, g1⟩; replace g1 := Grew.trans' (a := wr) (by assumption) g1) | (go_at_call 34; with_reducible refine (cX _ (by assumption)).mono ?_; rintro e1 W1 ⟨rfl, h1⟩; subst W1))
        go_ret
        exact ⟨by rw [HFIN.out, HRS.out]; simp, hgw.trans' (by assumption)⟩

end Go.Proofs.YtemojhcbhljemaaGreatDoor

/- flat.Right: which files may be a tree's. Conditions: the library's tables are laid, paths of at most 2^30 bytes. -/
import Derived.Test.YtgjnnoamhmmcnaaDoorFlat1
import Derived.Test.YtgjnnoamhmmcnaaDoorQ2
import Derived.Test.YtgjnnoamhmmcnaaDoorSet
import Derived.Test.YtgjnnoamhmmcnaaDoorM1
namespace Go.Proofs.YtgjnnoamhmmcnaaDoor
set_option linter.unusedVariables false
set_option linter.unusedSimpArgs false
open Go.RowKit

/-- A file's parts that any may have. -/
def FineF (x : Fil) : Prop := x.id.length = 20 ∧ x.path.size ≤ 1073741824
def seenF (l : List Fil) (k : Nat) : List (List UInt8) := ((l.take k).map Fil.p).reverse
theorem seenF_next {l : List Fil} {k : Nat} {x : Fil} (h : l[k]? = some x) : seenF l (k + 1) = x.p :: seenF l k := by
  unfold seenF
  rw [List.take_add_one, h]
  simp
theorem seenF_all (l : List Fil) (d : List UInt8) : (seenF l l.length).contains d = (l.map Fil.p).contains d := by
  unfold seenF
  rw [List.take_length, Bool.eq_iff_iff]
  simp
theorem cmp_less (a b : Fil) : decide (0 ≤ Lib.compareBytes a.p b.p) = !lessF a b := by
  unfold lessF
  rw [Pure.compare_less]
  cases Op.bytesLess a.p b.p with
  | true => rfl
  | false => simp only [Bool.false_eq_true, if_false]; split <;> rfl
theorem right_bad {l : List Fil} (h : goodF none l = false) : rightF l = false := by unfold rightF; rw [h]; rfl

set_option maxRecDepth 100000 in
set_option maxHeartbeats 4000000 in
theorem flat_Right (p : Option Addr) (l : List Fil) (cap : Nat) (w : World) (hl : l.length ≤ 1073741824) (hr : RdG kFile w p l) (hf : ∀ x ∈ l, FineF x) (hm : MaxOk w) (hu : U8Ok w) (hF : FoldOk w) :
    Calls Tryd.prog 32 #[.slice p l.length cap] w fun e w' => e = .returned (.bool (rightF l)) ∧ Grew w w' := by
  have HFI := Lib.hid hf
  have HR := Lib.hid hr
  have HM := Lib.hid hm
  have HU := Lib.hid hu
  have HFO := Lib.hid hF
  clear hf hr hm hu hF
  go_enter Tryd.func32, Tryd.ntmps32
  have hmm := @run_makeMap Tryd.prog
  go_wp2
  have hset := NameSet.made w
  have hg0 : Grew w (w.alloc (.map #[] 0)) := (Below.refl _ _).alloc (Nat.le_refl _) _
  go_loopw [15] (fun i wr => ∃ k : Nat, i = .int .i64 (k : Int) ∧ k ≤ l.length ∧ Grew w wr ∧ NameSet wr w.heap.size k (seenF l k) ∧ Hid (goodF none l = goodF (prevF l k) (l.drop k))) (fun i _ => l.length - (intOf i).toNat)
  case atStart => exact ⟨0, rfl, Nat.zero_le _, hg0, hset, rfl⟩
  case round =>
    obtain ⟨k, rfl, hk, hb, hs, hgd⟩ := hrel
    clear hset hg0
    by_cases hlt : k < l.length
    · obtain ⟨x, hx⟩ : ∃ x, l[k]? = some x := ⟨_, List.getElem?_eq_getElem hlt⟩
      obtain ⟨hxi, hxn⟩ := HFI.out x (List.mem_of_getElem? hx)
      rcases HR.out with h | ⟨b, o, rfl, hc⟩
      · subst h; simp at hlt
      have rx : wr.rangeAt b (o + k * 22) x.cells := range_grew (hc k x hx) hb
      have nfx := infoFile x hxi
      have HC := Lib.hid hc
      clear hc
      go_wp2_with (first | (refine wpList_load_mid rfl 28 _ rfl b _ rfl x.cells _ rx Tryd.underlying28 rfl nfx ?_) | (refine wpList_store_new rfl 28 _ _ rfl wr _ rfl x.cells rfl rfl (x.len hxi).symm nfx x.one ?_))
      intro V gV gVV rV fV sV
      have q0 : ∀ W, Grew V W → W.cell? ⟨wr.heap.size, 0, none⟩ = some (.string x.path) := fun W g => (fil_range (rV W g)).1
      have q1 : ∀ W, Grew V W → W.cell? ⟨wr.heap.size, 1, none⟩ = some (.int .i64 x.mode) := fun W g => by have := (fil_range (rV W g)).2.1; simpa using this
      have ri : ∀ W, Grew V W → W.rangeAt wr.heap.size 2 (Lib.byteCells x.id) := fun W g => by have := (fil_range (rV W g)).2.2; simpa using this
      have nfi := infoId' hxi
      have gwV : Grew w V := hb.trans' gV
      have hsV := hs.grew gV
      have cN := (fun W (g : Grew V W) => quote_Path x.path W hxn (HM.out.grew (gwV.trans' g)) (u8_grew HU.out (gwV.trans' g)) (HFO.out.grew (gwV.trans' g)))
      have ez := fun W => eql_idz' x.id hxi W
      have gz := fun W op a b => guard_idz' op a b x.id W
      have hgs := hgd.out
      rw [goodF_step hx] at hgs
      unfold oneF at hgs
      have hmd : decide (1 ≤ x.mode ∧ x.mode ≤ 3) = (!(decide (x.mode < 1)) && !(decide (3 < x.mode))) := by
        rw [Bool.eq_iff_iff]; simp
      rw [hmd] at hgs
      obtain ⟨M1, hM1⟩ : ∃ M, decide (x.mode < 1) = M := ⟨_, rfl⟩
      obtain ⟨M2, hM2⟩ : ∃ M, decide (3 < x.mode) = M := ⟨_, rfl⟩
      rw [hM1, hM2] at hgs
      generalize Pure.pathP x.p = N at cN hgs
      generalize (x.id == zeros20) = Z at ez hgs
      have ways : N = false ∨ (N = true ∧ M1 = true) ∨ (N = true ∧ M1 = false ∧ M2 = true) ∨ (N = true ∧ M1 = false ∧ M2 = false ∧ Z = true) ∨ (N = true ∧ M1 = false ∧ M2 = false ∧ Z = false) := by
        cases M1 <;> cases N <;> cases Z <;> cases M2 <;> simp
      have HSV := Lib.hid hsV
      clear hsV hs hgd gV rx nfx hmd
      rcases ways with rfl | ⟨rfl, rfl⟩ | ⟨rfl, rfl, rfl⟩ | ⟨rfl, rfl, rfl, rfl⟩ | ⟨rfl, rfl, rfl, rfl⟩
      rotate_right
      · by_cases hk0 : k = 0
        · subst hk0
          have hgs2 : goodF none l = goodF (prevF l 1) (l.drop 1) := by rw [hgs]; simp [prevF]
          have HGS := Lib.hid hgs2
          clear hgs hgs2
          go_wp2
          refine wp_region_held_drew (S := fun w' => Grew V w') (by kernel_rfl) (by first | assumption | exact Below.drew (by assumption)) (fun hHeld => ?_)
          first
            | (refine wpAnyH_take (i := 0) (v := ?_) rfl (by kernel_rfl) (by kernel_rfl) (by kernel_rfl) (fun _ _ _ h => h) (Or.inl ⟨by rfl, ?_⟩) (by assumption) ?_; rotate_left 1; focus (intro w hSw; (try dsimp only at hSw); go_simp; (try with_reducible rfl)))
            | fail
          try simp only [Act.put, List.getElem_toArray, List.getElem_cons_succ, List.getElem_cons_zero, List.setIfInBounds_toArray, List.set_cons_zero, List.set_cons_succ]
          first
            | (refine wpAnyH_take (i := 1) (v := ?_) rfl (by kernel_rfl) (by kernel_rfl) (by kernel_rfl) (fun _ _ _ h => h) (Or.inl ⟨by rfl, ?_⟩) (by assumption) ?_; rotate_left 1; focus (intro w hSw; (try dsimp only at hSw); go_simp; (try with_reducible rfl)))
            | fail
          try simp only [Act.put, List.getElem_toArray, List.getElem_cons_succ, List.getElem_cons_zero, List.setIfInBounds_toArray, List.set_cons_zero, List.set_cons_succ]
          refine wpAnyH_ready (rs := [2]) (by kernel_rfl) (by simp) ?_
          refine AllReadyH.cons rfl (fun K hK => ?_) AllReadyH.nil
          go_simp
          (go_at_call 43; with_reducible refine (cN _ (by first | assumption | exact Below.drew (by assumption))).mono ?_; rintro e1 W1 ⟨rfl, g1⟩; replace g1 := Grew.trans' (a := V) (by first | assumption | exact Below.drew (by assumption)) g1)
          go_wp2_with fail
          refine hK.out _ _ (by first | assumption | exact Below.drew (by assumption)) (fun hHeld => ?_)
          clear hK K
          try simp only [Act.put, List.getElem_toArray, List.getElem_cons_succ, List.getElem_cons_zero, List.setIfInBounds_toArray, List.set_cons_zero, List.set_cons_succ]
          first
            | (refine wpAnyH_take (i := 3) (v := ?_) rfl (by kernel_rfl) (by kernel_rfl) (by kernel_rfl) (fun _ _ _ h => h) (Or.inl ⟨by rfl, ?_⟩) (by assumption) ?_; rotate_left 1; focus (intro w hSw; (try dsimp only at hSw); go_simp; (try with_reducible rfl)))
            | fail
          try simp only [Act.put, List.getElem_toArray, List.getElem_cons_succ, List.getElem_cons_zero, List.setIfInBounds_toArray, List.set_cons_zero, List.set_cons_succ]
          first
            | (refine wpAnyH_take (i := 4) (v := ?_) rfl (by kernel_rfl) (by kernel_rfl) (by kernel_rfl) (fun _ _ _ h => h) (Or.inl ⟨by rfl, ?_⟩) (by assumption) ?_; rotate_left 1; focus (intro w hSw; (try dsimp only at hSw); go_simp; (try with_reducible rfl)))
            | fail
          try simp only [Act.put, List.getElem_toArray, List.getElem_cons_succ, List.getElem_cons_zero, List.setIfInBounds_toArray, List.set_cons_zero, List.set_cons_succ]
          first
            | (refine wpAnyH_take (i := 5) (v := ?_) rfl (by kernel_rfl) (by kernel_rfl) (by kernel_rfl) (fun _ _ _ h => h) (Or.inl ⟨by rfl, ?_⟩) (by assumption) ?_; rotate_left 1; focus (intro w hSw; (try dsimp only at hSw); go_simp; (try with_reducible rfl)))
            | (refine wpAnyH_take (i := 5) (v := undef) rfl (by kernel_rfl) (by kernel_rfl) (by kernel_rfl) (fun _ _ _ h => h) (Or.inr ⟨by rfl, rfl⟩) (by assumption) ?_)
            | fail
          try simp only [Act.put, List.getElem_toArray, List.getElem_cons_succ, List.getElem_cons_zero, List.setIfInBounds_toArray, List.set_cons_zero, List.set_cons_succ]
          first
            | (refine wpAnyH_take (i := 6) (v := ?_) rfl (by kernel_rfl) (by kernel_rfl) (by kernel_rfl) (fun _ _ _ h => h) (Or.inl ⟨by rfl, ?_⟩) (by assumption) ?_; rotate_left 1; focus (intro w hSw; (try dsimp only at hSw); go_simp; (try with_reducible rfl)))
            | (refine wpAnyH_take (i := 6) (v := undef) rfl (by kernel_rfl) (by kernel_rfl) (by kernel_rfl) (fun _ _ _ h => h) (Or.inr ⟨by rfl, rfl⟩) (by assumption) ?_)
            | fail
          try simp only [Act.put, List.getElem_toArray, List.getElem_cons_succ, List.getElem_cons_zero, List.setIfInBounds_toArray, List.set_cons_zero, List.set_cons_succ]
          first
            | (refine wpAnyH_take (i := 7) (v := ?_) rfl (by kernel_rfl) (by kernel_rfl) (by kernel_rfl) (fun _ _ _ h => h) (Or.inl ⟨by rfl, ?_⟩) (by assumption) ?_; rotate_left 1; focus (intro w hSw; (try dsimp only at hSw); go_simp; (try with_reducible rfl)))
            | (refine wpAnyH_take (i := 7) (v := undef) rfl (by kernel_rfl) (by kernel_rfl) (by kernel_rfl) (fun _ _ _ h => h) (Or.inr ⟨by rfl, rfl⟩) (by assumption) ?_)
            | fail
          try simp only [Act.put, List.getElem_toArray, List.getElem_cons_succ, List.getElem_cons_zero, List.setIfInBounds_toArray, List.set_cons_zero, List.set_cons_succ]
          first
            | (refine wpAnyH_take (i := 8) (v := ?_) rfl (by kernel_rfl) (by kernel_rfl) (by kernel_rfl) (fun _ _ _ h => h) (Or.inl ⟨by rfl, ?_⟩) (by assumption) ?_; rotate_left 1; focus (intro w hSw; (try dsimp only at hSw); go_simp; (try with_reducible rfl)))
            | fail
          try simp only [Act.put, List.getElem_toArray, List.getElem_cons_succ, List.getElem_cons_zero, List.setIfInBounds_toArray, List.set_cons_zero, List.set_cons_succ]
          first
            | (refine wpAnyH_take (i := 9) (v := ?_) rfl (by kernel_rfl) (by kernel_rfl) (by kernel_rfl) (fun _ _ _ h => h) (Or.inl ⟨by rfl, ?_⟩) (by assumption) ?_; rotate_left 1; focus (intro w hSw; (try dsimp only at hSw); go_simp; (try with_reducible rfl)))
            | fail
          try simp only [Act.put, List.getElem_toArray, List.getElem_cons_succ, List.getElem_cons_zero, List.setIfInBounds_toArray, List.set_cons_zero, List.set_cons_succ]
          first
            | (refine wpAnyH_take (i := 10) (v := ?_) rfl (by kernel_rfl) (by kernel_rfl) (by kernel_rfl) (fun _ _ _ h => h) (Or.inl ⟨by rfl, ?_⟩) (by assumption) ?_; rotate_left 1; focus (intro w hSw; (try dsimp only at hSw); go_simp; (try with_reducible rfl)))
            | (refine wpAnyH_take (i := 10) (v := undef) rfl (by kernel_rfl) (by kernel_rfl) (by kernel_rfl) (fun _ _ _ h => h) (Or.inr ⟨by rfl, rfl⟩) (by assumption) ?_)
            | fail
          try simp only [Act.put, List.getElem_toArray, List.getElem_cons_succ, List.getElem_cons_zero, List.setIfInBounds_toArray, List.set_cons_zero, List.set_cons_succ]
          first
            | (refine wpAnyH_take (i := 11) (v := ?_) rfl (by kernel_rfl) (by kernel_rfl) (by kernel_rfl) (fun _ _ _ h => h) (Or.inl ⟨by rfl, ?_⟩) (by assumption) ?_; rotate_left 1; focus (intro w hSw; (try dsimp only at hSw); go_simp; (try with_reducible rfl)))
            | (refine wpAnyH_take (i := 11) (v := undef) rfl (by kernel_rfl) (by kernel_rfl) (by kernel_rfl) (fun _ _ _ h => h) (Or.inr ⟨by rfl, rfl⟩) (by assumption) ?_)
            | fail
          try simp only [Act.put, List.getElem_toArray, List.getElem_cons_succ, List.getElem_cons_zero, List.setIfInBounds_toArray, List.set_cons_zero, List.set_cons_succ]
          first
            | (refine wpAnyH_take (i := 12) (v := ?_) rfl (by kernel_rfl) (by kernel_rfl) (by kernel_rfl) (fun _ _ _ h => h) (Or.inl ⟨by rfl, ?_⟩) (by assumption) ?_; rotate_left 1; focus (intro w hSw; (try dsimp only at hSw); go_simp; (try with_reducible rfl)))
            | (refine wpAnyH_take (i := 12) (v := undef) rfl (by kernel_rfl) (by kernel_rfl) (by kernel_rfl) (fun _ _ _ h => h) (Or.inr ⟨by rfl, rfl⟩) (by assumption) ?_)
            | fail
          try simp only [Act.put, List.getElem_toArray, List.getElem_cons_succ, List.getElem_cons_zero, List.setIfInBounds_toArray, List.set_cons_zero, List.set_cons_succ]
          first
            | (refine wpAnyH_take (i := 13) (v := ?_) rfl (by kernel_rfl) (by kernel_rfl) (by kernel_rfl) (fun _ _ _ h => h) (Or.inl ⟨by rfl, ?_⟩) (by assumption) ?_; rotate_left 1; focus (intro w hSw; (try dsimp only at hSw); go_simp; (try with_reducible rfl)))
            | fail
          try simp only [Act.put, List.getElem_toArray, List.getElem_cons_succ, List.getElem_cons_zero, List.setIfInBounds_toArray, List.set_cons_zero, List.set_cons_succ]
          first
            | (refine wpAnyH_take (i := 14) (v := ?_) rfl (by kernel_rfl) (by kernel_rfl) (by kernel_rfl) (fun _ _ _ h => h) (Or.inl ⟨by rfl, ?_⟩) (by assumption) ?_; rotate_left 1; focus (intro w hSw; (try dsimp only at hSw); go_simp; (try with_reducible rfl)))
            | fail
          try simp only [Act.put, List.getElem_toArray, List.getElem_cons_succ, List.getElem_cons_zero, List.setIfInBounds_toArray, List.set_cons_zero, List.set_cons_succ]
          first
            | (refine wpAnyH_take (i := 15) (v := ?_) rfl (by kernel_rfl) (by kernel_rfl) (by kernel_rfl) (fun _ _ _ h => h) (Or.inl ⟨by rfl, ?_⟩) (by assumption) ?_; rotate_left 1; focus (intro w hSw; (try dsimp only at hSw); go_simp; (try with_reducible rfl)))
            | (refine wpAnyH_take (i := 15) (v := undef) rfl (by kernel_rfl) (by kernel_rfl) (by kernel_rfl) (fun _ _ _ h => h) (Or.inr ⟨by rfl, rfl⟩) (by assumption) ?_)
            | fail
          try simp only [Act.put, List.getElem_toArray, List.getElem_cons_succ, List.getElem_cons_zero, List.setIfInBounds_toArray, List.set_cons_zero, List.set_cons_succ]
          first
            | (refine' wpAnyH_take (i := 16) (v := _) rfl (by kernel_rfl) (by kernel_rfl) (by kernel_rfl) (fun _ _ _ h => h) (yieldsIf_load_mid (by rfl) _ _ rfl _ _ rfl _ _ (fun w hSw => (by (first | exact ri _ hSw | exact rV _ hSw))) Tryd.underlying26 rfl (by first | assumption | kernel_rfl)) (by assumption) ?_)
            | (refine wpAnyH_take (i := 16) (v := undef) rfl (by kernel_rfl) (by kernel_rfl) (by kernel_rfl) (fun _ _ _ h => h) (Or.inr ⟨by rfl, rfl⟩) (by assumption) ?_)
            | fail
          try simp only [Act.put, List.getElem_toArray, List.getElem_cons_succ, List.getElem_cons_zero, List.setIfInBounds_toArray, List.set_cons_zero, List.set_cons_succ]
          first
            | (refine wpAnyH_take (i := 17) (v := ?_) rfl (by kernel_rfl) (by kernel_rfl) (by kernel_rfl) (fun _ _ _ h => h) (Or.inl ⟨by rfl, ?_⟩) (by assumption) ?_; rotate_left 1; focus (intro w hSw; (try dsimp only at hSw); go_simp; (try with_reducible rfl)))
            | (refine wpAnyH_take (i := 17) (v := undef) rfl (by kernel_rfl) (by kernel_rfl) (by kernel_rfl) (fun _ _ _ h => h) (Or.inr ⟨by rfl, rfl⟩) (by assumption) ?_)
            | fail
          try simp only [Act.put, List.getElem_toArray, List.getElem_cons_succ, List.getElem_cons_zero, List.setIfInBounds_toArray, List.set_cons_zero, List.set_cons_succ]
          first
            | (refine wpAnyH_take (i := 18) (v := ?_) rfl (by kernel_rfl) (by kernel_rfl) (by kernel_rfl) (fun _ _ _ h => h) (Or.inl ⟨by rfl, ?_⟩) (by assumption) ?_; rotate_left 1; focus (intro w hSw; (try dsimp only at hSw); go_simp; (try with_reducible rfl)))
            | (refine wpAnyH_take (i := 18) (v := undef) rfl (by kernel_rfl) (by kernel_rfl) (by kernel_rfl) (fun _ _ _ h => h) (Or.inr ⟨by rfl, rfl⟩) (by assumption) ?_)
            | fail
          try simp only [Act.put, List.getElem_toArray, List.getElem_cons_succ, List.getElem_cons_zero, List.setIfInBounds_toArray, List.set_cons_zero, List.set_cons_succ]
          first
            | (refine wpAnyH_take (i := 19) (v := ?_) rfl (by kernel_rfl) (by kernel_rfl) (by kernel_rfl) (fun _ _ _ h => h) (Or.inl ⟨by rfl, ?_⟩) (by assumption) ?_; rotate_left 1; focus (intro w hSw; (try dsimp only at hSw); go_simp; (try with_reducible rfl)))
            | fail
          try simp only [Act.put, List.getElem_toArray, List.getElem_cons_succ, List.getElem_cons_zero, List.setIfInBounds_toArray, List.set_cons_zero, List.set_cons_succ]
          first
            | (refine wpAnyH_take (i := 20) (v := ?_) rfl (by kernel_rfl) (by kernel_rfl) (by kernel_rfl) (fun _ _ _ h => h) (Or.inl ⟨by rfl, ?_⟩) (by assumption) ?_; rotate_left 1; focus (intro w hSw; (try dsimp only at hSw); go_simp; (try with_reducible rfl)))
            | fail
          try simp only [Act.put, List.getElem_toArray, List.getElem_cons_succ, List.getElem_cons_zero, List.setIfInBounds_toArray, List.set_cons_zero, List.set_cons_succ]
          first
            | (refine wpAnyH_take (i := 21) (v := ?_) rfl (by kernel_rfl) (by kernel_rfl) (by kernel_rfl) (fun _ _ _ h => h) (Or.inl ⟨by rfl, ?_⟩) (by assumption) ?_; rotate_left 1; focus (intro w hSw; (try dsimp only at hSw); go_simp; (try with_reducible rfl)))
            | (refine wpAnyH_take (i := 21) (v := undef) rfl (by kernel_rfl) (by kernel_rfl) (by kernel_rfl) (fun _ _ _ h => h) (Or.inr ⟨by rfl, rfl⟩) (by assumption) ?_)
            | fail
          try simp only [Act.put, List.getElem_toArray, List.getElem_cons_succ, List.getElem_cons_zero, List.setIfInBounds_toArray, List.set_cons_zero, List.set_cons_succ]
          first
            | (refine wpAnyH_take (i := 22) (v := ?_) rfl (by kernel_rfl) (by kernel_rfl) (by kernel_rfl) (fun _ _ _ h => h) (Or.inl ⟨by rfl, ?_⟩) (by assumption) ?_; rotate_left 1; focus (intro w hSw; (try dsimp only at hSw); go_simp; (try with_reducible rfl)))
            | (refine wpAnyH_take (i := 22) (v := undef) rfl (by kernel_rfl) (by kernel_rfl) (by kernel_rfl) (fun _ _ _ h => h) (Or.inr ⟨by rfl, rfl⟩) (by assumption) ?_)
            | fail
          try simp only [Act.put, List.getElem_toArray, List.getElem_cons_succ, List.getElem_cons_zero, List.setIfInBounds_toArray, List.set_cons_zero, List.set_cons_succ]
          first
            | (refine wpAnyH_take (i := 23) (v := ?_) rfl (by kernel_rfl) (by kernel_rfl) (by kernel_rfl) (fun _ _ _ h => h) (Or.inl ⟨by rfl, ?_⟩) (by assumption) ?_; rotate_left 1; focus (intro w hSw; (try dsimp only at hSw); go_simp; (try with_reducible rfl)))
            | (refine wpAnyH_take (i := 23) (v := undef) rfl (by kernel_rfl) (by kernel_rfl) (by kernel_rfl) (fun _ _ _ h => h) (Or.inr ⟨by rfl, rfl⟩) (by assumption) ?_)
            | fail
          try simp only [Act.put, List.getElem_toArray, List.getElem_cons_succ, List.getElem_cons_zero, List.setIfInBounds_toArray, List.set_cons_zero, List.set_cons_succ]
          first
            | (refine wpAnyH_take (i := 24) (v := ?_) rfl (by kernel_rfl) (by kernel_rfl) (by kernel_rfl) (fun _ _ _ h => h) (Or.inl ⟨by rfl, ?_⟩) (by assumption) ?_; rotate_left 1; focus (intro w hSw; (try dsimp only at hSw); go_simp; (try with_reducible rfl)))
            | (refine wpAnyH_take (i := 24) (v := undef) rfl (by kernel_rfl) (by kernel_rfl) (by kernel_rfl) (fun _ _ _ h => h) (Or.inr ⟨by rfl, rfl⟩) (by assumption) ?_)
            | fail
          try simp only [Act.put, List.getElem_toArray, List.getElem_cons_succ, List.getElem_cons_zero, List.setIfInBounds_toArray, List.set_cons_zero, List.set_cons_succ]
          first
            | (refine wpAnyH_take (i := 25) (v := ?_) rfl (by kernel_rfl) (by kernel_rfl) (by kernel_rfl) (fun _ _ _ h => h) (Or.inl ⟨by rfl, ?_⟩) (by assumption) ?_; rotate_left 1; focus (intro w hSw; (try dsimp only at hSw); go_simp; (try with_reducible rfl)))
            | (refine wpAnyH_take (i := 25) (v := undef) rfl (by kernel_rfl) (by kernel_rfl) (by kernel_rfl) (fun _ _ _ h => h) (Or.inr ⟨by rfl, rfl⟩) (by assumption) ?_)
            | fail
          try simp only [Act.put, List.getElem_toArray, List.getElem_cons_succ, List.getElem_cons_zero, List.setIfInBounds_toArray, List.set_cons_zero, List.set_cons_succ]
          first
            | (refine wpAnyH_take (i := 26) (v := ?_) rfl (by kernel_rfl) (by kernel_rfl) (by kernel_rfl) (fun _ _ _ h => h) (Or.inl ⟨by rfl, ?_⟩) (by assumption) ?_; rotate_left 1; focus (intro w hSw; (try dsimp only at hSw); go_simp; (try with_reducible rfl)))
            | (refine wpAnyH_take (i := 26) (v := undef) rfl (by kernel_rfl) (by kernel_rfl) (by kernel_rfl) (fun _ _ _ h => h) (Or.inr ⟨by rfl, rfl⟩) (by assumption) ?_)
            | fail
          try simp only [Act.put, List.getElem_toArray, List.getElem_cons_succ, List.getElem_cons_zero, List.setIfInBounds_toArray, List.set_cons_zero, List.set_cons_succ]
          first
            | (refine wpAnyH_take (i := 27) (v := ?_) rfl (by kernel_rfl) (by kernel_rfl) (by kernel_rfl) (fun _ _ _ h => h) (Or.inl ⟨by rfl, ?_⟩) (by assumption) ?_; rotate_left 1; focus (intro w hSw; (try dsimp only at hSw); go_simp; (try with_reducible rfl)))
            | (refine wpAnyH_take (i := 27) (v := undef) rfl (by kernel_rfl) (by kernel_rfl) (by kernel_rfl) (fun _ _ _ h => h) (Or.inr ⟨by rfl, rfl⟩) (by assumption) ?_)
            | fail
          try simp only [Act.put, List.getElem_toArray, List.getElem_cons_succ, List.getElem_cons_zero, List.setIfInBounds_toArray, List.set_cons_zero, List.set_cons_succ]
          first
            | (refine' wpAnyH_take (i := 28) (v := _) rfl (by kernel_rfl) (by kernel_rfl) (by kernel_rfl) (fun _ _ _ h => h) (yieldsIf_load_mid (by rfl) _ _ rfl _ _ rfl _ _ (fun w hSw => (by (first | exact ri _ hSw | exact rV _ hSw))) Tryd.underlying28 rfl (by first | assumption | kernel_rfl)) (by assumption) ?_)
            | (refine wpAnyH_take (i := 28) (v := undef) rfl (by kernel_rfl) (by kernel_rfl) (by kernel_rfl) (fun _ _ _ h => h) (Or.inr ⟨by rfl, rfl⟩) (by assumption) ?_)
            | fail
          try simp only [Act.put, List.getElem_toArray, List.getElem_cons_succ, List.getElem_cons_zero, List.setIfInBounds_toArray, List.set_cons_zero, List.set_cons_succ]
          first
            | (refine' wpAnyH_take (i := 29) (v := _) rfl (by kernel_rfl) (by kernel_rfl) (by kernel_rfl) (fun _ _ _ h => h) (yieldsIf_load_mid (by rfl) _ _ rfl _ _ rfl _ _ (fun w hSw => (by (first | exact ri _ hSw | exact rV _ hSw))) Tryd.underlying28 rfl (by first | assumption | kernel_rfl)) (by assumption) ?_)
            | (refine wpAnyH_take (i := 29) (v := undef) rfl (by kernel_rfl) (by kernel_rfl) (by kernel_rfl) (fun _ _ _ h => h) (Or.inr ⟨by rfl, rfl⟩) (by assumption) ?_)
            | fail
          try simp only [Act.put, List.getElem_toArray, List.getElem_cons_succ, List.getElem_cons_zero, List.setIfInBounds_toArray, List.set_cons_zero, List.set_cons_succ]
          first
            | (refine wpAnyH_take (i := 30) (v := undef) rfl (by kernel_rfl) (by kernel_rfl) (by kernel_rfl) (fun _ _ _ h => h) (Or.inr ⟨by rfl, rfl⟩) (by assumption) ?_; try simp only [Act.put, List.getElem_toArray, List.getElem_cons_succ, List.getElem_cons_zero, List.setIfInBounds_toArray, List.set_cons_zero, List.set_cons_succ])
            | (refine wpAnyH_ready (rs := [30]) (by kernel_rfl) (by simp) ?_; refine AllReadyH.cons rfl (fun K hK => ?_) AllReadyH.nil; go_simp; fail; go_wp2_with fail; refine hK.out _ _ (by first | assumption | exact Below.drew (by assumption)) (fun hHeld => ?_); clear hK K; (try simp only [Act.put, List.getElem_toArray, List.getElem_cons_succ, List.getElem_cons_zero, List.setIfInBounds_toArray, List.set_cons_zero, List.set_cons_succ]))
            | fail
          first
            | (refine wpAnyH_take (i := 31) (v := ?_) rfl (by kernel_rfl) (by kernel_rfl) (by kernel_rfl) (fun _ _ _ h => h) (Or.inl ⟨by rfl, ?_⟩) (by assumption) ?_; rotate_left 1; focus (intro w hSw; (try dsimp only at hSw); go_simp; (try with_reducible rfl)))
            | (refine wpAnyH_take (i := 31) (v := undef) rfl (by kernel_rfl) (by kernel_rfl) (by kernel_rfl) (fun _ _ _ h => h) (Or.inr ⟨by rfl, rfl⟩) (by assumption) ?_)
            | fail
          try simp only [Act.put, List.getElem_toArray, List.getElem_cons_succ, List.getElem_cons_zero, List.setIfInBounds_toArray, List.set_cons_zero, List.set_cons_succ]
          first
            | (refine wpAnyH_take (i := 32) (v := ?_) rfl (by kernel_rfl) (by kernel_rfl) (by kernel_rfl) (fun _ _ _ h => h) (Or.inl ⟨by rfl, ?_⟩) (by assumption) ?_; rotate_left 1; focus (intro w hSw; (try dsimp only at hSw); go_simp; (try with_reducible rfl)))
            | (refine wpAnyH_take (i := 32) (v := undef) rfl (by kernel_rfl) (by kernel_rfl) (by kernel_rfl) (fun _ _ _ h => h) (Or.inr ⟨by rfl, rfl⟩) (by assumption) ?_)
            | fail
          try simp only [Act.put, List.getElem_toArray, List.getElem_cons_succ, List.getElem_cons_zero, List.setIfInBounds_toArray, List.set_cons_zero, List.set_cons_succ]
          first
            | (refine wpAnyH_take (i := 33) (v := ?_) rfl (by kernel_rfl) (by kernel_rfl) (by kernel_rfl) (fun _ _ _ h => h) (Or.inl ⟨by rfl, ?_⟩) (by assumption) ?_; rotate_left 1; focus (intro w hSw; (try dsimp only at hSw); go_simp; (try with_reducible rfl)))
            | fail
          try simp only [Act.put, List.getElem_toArray, List.getElem_cons_succ, List.getElem_cons_zero, List.setIfInBounds_toArray, List.set_cons_zero, List.set_cons_succ]
          refine wpAnyH_done (by kernel_rfl) ?_ _
          have gE : Grew V W1 := by assumption
          have hE := HSV.out.grew gE
          have gwE := gwV.trans' gE
          go_wp2_with (at_mapUpdate; refine wpList_put_set rfl _ _ _ rfl w.heap.size 0 _ hE (by omega) x.path _ rfl rfl rfl (by omega) (WalkArith.wf_i64 (by omega)) ?_)
          intro U hU gU
          have gwU : Grew w U := gwE.grown gU gwE.size (fun q hq => by cases hq; exact Nat.le_refl _)
          go_wp2
          go_roundw
          case rel => exact ⟨0 + 1, by go_num, by omega, gwU, by rw [seenF_next hx]; exact hU, by have := HGS.out; unfold Hid; first | exact this | (rw [this]; simp)⟩
          case measure => simp [intOf]; omega
        · obtain ⟨j, rfl⟩ : ∃ j, k = j + 1 := ⟨k - 1, by omega⟩
          have hjl : j < l.length := by omega
          obtain ⟨y, hy⟩ : ∃ y, l[j]? = some y := ⟨_, List.getElem?_eq_getElem hjl⟩
          obtain ⟨hyi, hyn⟩ := HFI.out y (List.mem_of_getElem? hy)
          have ry : ∀ W, Grew V W → W.rangeAt b (o + j * 22) y.cells := fun W g => range_grew (HC.out j y hy) (gwV.trans' g)
          have nfy := infoFile y hyi
          have nfx := infoFile x hxi
          have cB := (fun W (g : Grew V W) => flat_byPath y x W)
          have hpv : prevF l (j + 1) = some y := by unfold prevF; rw [if_neg (by omega), Nat.add_sub_cancel, hy]
          have hgs2 : goodF none l = (lessF y x && goodF (prevF l (j + 1 + 1)) (l.drop (j + 1 + 1))) := by rw [hgs, hpv]; simp
          have hcl := cmp_less y x
          generalize Lib.compareBytes y.p x.p = C at cB hcl
          generalize lessF y x = B at hcl hgs2
          have HGS := Lib.hid hgs2
          clear hgs hgs2 hpv
          have hw2 : (0 : Int) < (j : Int) + 1 := by omega
          have hw3 : IntKind.i64.wrap (j : Int) = (j : Int) := IntWalk.i64_in _ (by omega)
          have hw4 : (j : Int) < (l.length : Int) := by omega
          cases B
          all_goals
            simp only [Bool.not_false, Bool.not_true] at hcl
            go_wp2
            refine wp_region_held_drew (S := fun w' => Grew V w') (by kernel_rfl) (by first | assumption | exact Below.drew (by assumption)) (fun hHeld => ?_)
            first
              | (refine wpAnyH_take (i := 0) (v := ?_) rfl (by kernel_rfl) (by kernel_rfl) (by kernel_rfl) (fun _ _ _ h => h) (Or.inl ⟨by rfl, ?_⟩) (by assumption) ?_; rotate_left 1; focus (intro w hSw; (try dsimp only at hSw); go_simp; (try with_reducible rfl)))
              | fail
            try simp only [Act.put, List.getElem_toArray, List.getElem_cons_succ, List.getElem_cons_zero, List.setIfInBounds_toArray, List.set_cons_zero, List.set_cons_succ]
            first
              | (refine wpAnyH_take (i := 1) (v := ?_) rfl (by kernel_rfl) (by kernel_rfl) (by kernel_rfl) (fun _ _ _ h => h) (Or.inl ⟨by rfl, ?_⟩) (by assumption) ?_; rotate_left 1; focus (intro w hSw; (try dsimp only at hSw); go_simp; (try with_reducible rfl)))
              | fail
            try simp only [Act.put, List.getElem_toArray, List.getElem_cons_succ, List.getElem_cons_zero, List.setIfInBounds_toArray, List.set_cons_zero, List.set_cons_succ]
            refine wpAnyH_ready (rs := [2]) (by kernel_rfl) (by simp) ?_
            refine AllReadyH.cons rfl (fun K hK => ?_) AllReadyH.nil
            go_simp
            (go_at_call 43; with_reducible refine (cN _ (by first | assumption | exact Below.drew (by assumption))).mono ?_; rintro e1 W1 ⟨rfl, g1⟩; replace g1 := Grew.trans' (a := V) (by first | assumption | exact Below.drew (by assumption)) g1)
            go_wp2_with fail
            refine hK.out _ _ (by first | assumption | exact Below.drew (by assumption)) (fun hHeld => ?_)
            clear hK K
            try simp only [Act.put, List.getElem_toArray, List.getElem_cons_succ, List.getElem_cons_zero, List.setIfInBounds_toArray, List.set_cons_zero, List.set_cons_succ]
            first
              | (refine wpAnyH_take (i := 3) (v := ?_) rfl (by kernel_rfl) (by kernel_rfl) (by kernel_rfl) (fun _ _ _ h => h) (Or.inl ⟨by rfl, ?_⟩) (by assumption) ?_; rotate_left 1; focus (intro w hSw; (try dsimp only at hSw); go_simp; (try with_reducible rfl)))
              | fail
            try simp only [Act.put, List.getElem_toArray, List.getElem_cons_succ, List.getElem_cons_zero, List.setIfInBounds_toArray, List.set_cons_zero, List.set_cons_succ]
            first
              | (refine wpAnyH_take (i := 4) (v := ?_) rfl (by kernel_rfl) (by kernel_rfl) (by kernel_rfl) (fun _ _ _ h => h) (Or.inl ⟨by rfl, ?_⟩) (by assumption) ?_; rotate_left 1; focus (intro w hSw; (try dsimp only at hSw); go_simp; (try with_reducible rfl)))
              | fail
            try simp only [Act.put, List.getElem_toArray, List.getElem_cons_succ, List.getElem_cons_zero, List.setIfInBounds_toArray, List.set_cons_zero, List.set_cons_succ]
            first
              | (refine wpAnyH_take (i := 5) (v := ?_) rfl (by kernel_rfl) (by kernel_rfl) (by kernel_rfl) (fun _ _ _ h => h) (Or.inl ⟨by rfl, ?_⟩) (by assumption) ?_; rotate_left 1; focus (intro w hSw; (try dsimp only at hSw); go_simp; (try with_reducible rfl)))
              | (refine wpAnyH_take (i := 5) (v := undef) rfl (by kernel_rfl) (by kernel_rfl) (by kernel_rfl) (fun _ _ _ h => h) (Or.inr ⟨by rfl, rfl⟩) (by assumption) ?_)
              | fail
            try simp only [Act.put, List.getElem_toArray, List.getElem_cons_succ, List.getElem_cons_zero, List.setIfInBounds_toArray, List.set_cons_zero, List.set_cons_succ]
            first
              | (refine wpAnyH_take (i := 6) (v := ?_) rfl (by kernel_rfl) (by kernel_rfl) (by kernel_rfl) (fun _ _ _ h => h) (Or.inl ⟨by rfl, ?_⟩) (by assumption) ?_; rotate_left 1; focus (intro w hSw; (try dsimp only at hSw); go_simp; (try with_reducible rfl)))
              | (refine wpAnyH_take (i := 6) (v := undef) rfl (by kernel_rfl) (by kernel_rfl) (by kernel_rfl) (fun _ _ _ h => h) (Or.inr ⟨by rfl, rfl⟩) (by assumption) ?_)
              | fail
            try simp only [Act.put, List.getElem_toArray, List.getElem_cons_succ, List.getElem_cons_zero, List.setIfInBounds_toArray, List.set_cons_zero, List.set_cons_succ]
            first
              | (refine wpAnyH_take (i := 7) (v := ?_) rfl (by kernel_rfl) (by kernel_rfl) (by kernel_rfl) (fun _ _ _ h => h) (Or.inl ⟨by rfl, ?_⟩) (by assumption) ?_; rotate_left 1; focus (intro w hSw; (try dsimp only at hSw); go_simp; (try with_reducible rfl)))
              | (refine wpAnyH_take (i := 7) (v := undef) rfl (by kernel_rfl) (by kernel_rfl) (by kernel_rfl) (fun _ _ _ h => h) (Or.inr ⟨by rfl, rfl⟩) (by assumption) ?_)
              | fail
            try simp only [Act.put, List.getElem_toArray, List.getElem_cons_succ, List.getElem_cons_zero, List.setIfInBounds_toArray, List.set_cons_zero, List.set_cons_succ]
            first
              | (refine wpAnyH_take (i := 8) (v := ?_) rfl (by kernel_rfl) (by kernel_rfl) (by kernel_rfl) (fun _ _ _ h => h) (Or.inl ⟨by rfl, ?_⟩) (by assumption) ?_; rotate_left 1; focus (intro w hSw; (try dsimp only at hSw); go_simp; (try with_reducible rfl)))
              | fail
            try simp only [Act.put, List.getElem_toArray, List.getElem_cons_succ, List.getElem_cons_zero, List.setIfInBounds_toArray, List.set_cons_zero, List.set_cons_succ]
            first
              | (refine wpAnyH_take (i := 9) (v := ?_) rfl (by kernel_rfl) (by kernel_rfl) (by kernel_rfl) (fun _ _ _ h => h) (Or.inl ⟨by rfl, ?_⟩) (by assumption) ?_; rotate_left 1; focus (intro w hSw; (try dsimp only at hSw); go_simp; (try with_reducible rfl)))
              | fail
            try simp only [Act.put, List.getElem_toArray, List.getElem_cons_succ, List.getElem_cons_zero, List.setIfInBounds_toArray, List.set_cons_zero, List.set_cons_succ]
            first
              | (refine wpAnyH_take (i := 10) (v := ?_) rfl (by kernel_rfl) (by kernel_rfl) (by kernel_rfl) (fun _ _ _ h => h) (Or.inl ⟨by rfl, ?_⟩) (by assumption) ?_; rotate_left 1; focus (intro w hSw; (try dsimp only at hSw); go_simp; (try with_reducible rfl)))
              | (refine wpAnyH_take (i := 10) (v := undef) rfl (by kernel_rfl) (by kernel_rfl) (by kernel_rfl) (fun _ _ _ h => h) (Or.inr ⟨by rfl, rfl⟩) (by assumption) ?_)
              | fail
            try simp only [Act.put, List.getElem_toArray, List.getElem_cons_succ, List.getElem_cons_zero, List.setIfInBounds_toArray, List.set_cons_zero, List.set_cons_succ]
            first
              | (refine wpAnyH_take (i := 11) (v := ?_) rfl (by kernel_rfl) (by kernel_rfl) (by kernel_rfl) (fun _ _ _ h => h) (Or.inl ⟨by rfl, ?_⟩) (by assumption) ?_; rotate_left 1; focus (intro w hSw; (try dsimp only at hSw); go_simp; (try with_reducible rfl)))
              | (refine wpAnyH_take (i := 11) (v := undef) rfl (by kernel_rfl) (by kernel_rfl) (by kernel_rfl) (fun _ _ _ h => h) (Or.inr ⟨by rfl, rfl⟩) (by assumption) ?_)
              | fail
            try simp only [Act.put, List.getElem_toArray, List.getElem_cons_succ, List.getElem_cons_zero, List.setIfInBounds_toArray, List.set_cons_zero, List.set_cons_succ]
            first
              | (refine wpAnyH_take (i := 12) (v := ?_) rfl (by kernel_rfl) (by kernel_rfl) (by kernel_rfl) (fun _ _ _ h => h) (Or.inl ⟨by rfl, ?_⟩) (by assumption) ?_; rotate_left 1; focus (intro w hSw; (try dsimp only at hSw); go_simp; (try with_reducible rfl)))
              | (refine wpAnyH_take (i := 12) (v := undef) rfl (by kernel_rfl) (by kernel_rfl) (by kernel_rfl) (fun _ _ _ h => h) (Or.inr ⟨by rfl, rfl⟩) (by assumption) ?_)
              | fail
            try simp only [Act.put, List.getElem_toArray, List.getElem_cons_succ, List.getElem_cons_zero, List.setIfInBounds_toArray, List.set_cons_zero, List.set_cons_succ]
            first
              | (refine wpAnyH_take (i := 13) (v := ?_) rfl (by kernel_rfl) (by kernel_rfl) (by kernel_rfl) (fun _ _ _ h => h) (Or.inl ⟨by rfl, ?_⟩) (by assumption) ?_; rotate_left 1; focus (intro w hSw; (try dsimp only at hSw); go_simp; (try with_reducible rfl)))
              | fail
            try simp only [Act.put, List.getElem_toArray, List.getElem_cons_succ, List.getElem_cons_zero, List.setIfInBounds_toArray, List.set_cons_zero, List.set_cons_succ]
            first
              | (refine wpAnyH_take (i := 14) (v := ?_) rfl (by kernel_rfl) (by kernel_rfl) (by kernel_rfl) (fun _ _ _ h => h) (Or.inl ⟨by rfl, ?_⟩) (by assumption) ?_; rotate_left 1; focus (intro w hSw; (try dsimp only at hSw); go_simp; (try with_reducible rfl)))
              | fail
            try simp only [Act.put, List.getElem_toArray, List.getElem_cons_succ, List.getElem_cons_zero, List.setIfInBounds_toArray, List.set_cons_zero, List.set_cons_succ]
            first
              | (refine wpAnyH_take (i := 15) (v := ?_) rfl (by kernel_rfl) (by kernel_rfl) (by kernel_rfl) (fun _ _ _ h => h) (Or.inl ⟨by rfl, ?_⟩) (by assumption) ?_; rotate_left 1; focus (intro w hSw; (try dsimp only at hSw); go_simp; (try with_reducible rfl)))
              | (refine wpAnyH_take (i := 15) (v := undef) rfl (by kernel_rfl) (by kernel_rfl) (by kernel_rfl) (fun _ _ _ h => h) (Or.inr ⟨by rfl, rfl⟩) (by assumption) ?_)
              | fail
            try simp only [Act.put, List.getElem_toArray, List.getElem_cons_succ, List.getElem_cons_zero, List.setIfInBounds_toArray, List.set_cons_zero, List.set_cons_succ]
            first
              | (refine' wpAnyH_take (i := 16) (v := _) rfl (by kernel_rfl) (by kernel_rfl) (by kernel_rfl) (fun _ _ _ h => h) (yieldsIf_load_mid (by rfl) _ _ rfl _ _ rfl _ _ (fun w hSw => (by (first | exact ri _ hSw | exact rV _ hSw | exact ry _ hSw))) Tryd.underlying26 rfl (by first | assumption | kernel_rfl)) (by assumption) ?_)
              | (refine wpAnyH_take (i := 16) (v := undef) rfl (by kernel_rfl) (by kernel_rfl) (by kernel_rfl) (fun _ _ _ h => h) (Or.inr ⟨by rfl, rfl⟩) (by assumption) ?_)
              | fail
            try simp only [Act.put, List.getElem_toArray, List.getElem_cons_succ, List.getElem_cons_zero, List.setIfInBounds_toArray, List.set_cons_zero, List.set_cons_succ]
            first
              | (refine wpAnyH_take (i := 17) (v := ?_) rfl (by kernel_rfl) (by kernel_rfl) (by kernel_rfl) (fun _ _ _ h => h) (Or.inl ⟨by rfl, ?_⟩) (by assumption) ?_; rotate_left 1; focus (intro w hSw; (try dsimp only at hSw); go_simp; (try with_reducible rfl)))
              | (refine wpAnyH_take (i := 17) (v := undef) rfl (by kernel_rfl) (by kernel_rfl) (by kernel_rfl) (fun _ _ _ h => h) (Or.inr ⟨by rfl, rfl⟩) (by assumption) ?_)
              | fail
            try simp only [Act.put, List.getElem_toArray, List.getElem_cons_succ, List.getElem_cons_zero, List.setIfInBounds_toArray, List.set_cons_zero, List.set_cons_succ]
            first
              | (refine wpAnyH_take (i := 18) (v := ?_) rfl (by kernel_rfl) (by kernel_rfl) (by kernel_rfl) (fun _ _ _ h => h) (Or.inl ⟨by rfl, ?_⟩) (by assumption) ?_; rotate_left 1; focus (intro w hSw; (try dsimp only at hSw); go_simp; (try with_reducible rfl)))
              | (refine wpAnyH_take (i := 18) (v := undef) rfl (by kernel_rfl) (by kernel_rfl) (by kernel_rfl) (fun _ _ _ h => h) (Or.inr ⟨by rfl, rfl⟩) (by assumption) ?_)
              | fail
            try simp only [Act.put, List.getElem_toArray, List.getElem_cons_succ, List.getElem_cons_zero, List.setIfInBounds_toArray, List.set_cons_zero, List.set_cons_succ]
            first
              | (refine wpAnyH_take (i := 19) (v := ?_) rfl (by kernel_rfl) (by kernel_rfl) (by kernel_rfl) (fun _ _ _ h => h) (Or.inl ⟨by rfl, ?_⟩) (by assumption) ?_; rotate_left 1; focus (intro w hSw; (try dsimp only at hSw); go_simp; (try with_reducible rfl)))
              | fail
            try simp only [Act.put, List.getElem_toArray, List.getElem_cons_succ, List.getElem_cons_zero, List.setIfInBounds_toArray, List.set_cons_zero, List.set_cons_succ]
            first
              | (refine wpAnyH_take (i := 20) (v := ?_) rfl (by kernel_rfl) (by kernel_rfl) (by kernel_rfl) (fun _ _ _ h => h) (Or.inl ⟨by rfl, ?_⟩) (by assumption) ?_; rotate_left 1; focus (intro w hSw; (try dsimp only at hSw); go_simp; (try with_reducible rfl)))
              | fail
            try simp only [Act.put, List.getElem_toArray, List.getElem_cons_succ, List.getElem_cons_zero, List.setIfInBounds_toArray, List.set_cons_zero, List.set_cons_succ]
            first
              | (refine wpAnyH_take (i := 21) (v := ?_) rfl (by kernel_rfl) (by kernel_rfl) (by kernel_rfl) (fun _ _ _ h => h) (Or.inl ⟨by rfl, ?_⟩) (by assumption) ?_; rotate_left 1; focus (intro w hSw; (try dsimp only at hSw); go_simp; (try with_reducible rfl)))
              | (refine wpAnyH_take (i := 21) (v := undef) rfl (by kernel_rfl) (by kernel_rfl) (by kernel_rfl) (fun _ _ _ h => h) (Or.inr ⟨by rfl, rfl⟩) (by assumption) ?_)
              | fail
            try simp only [Act.put, List.getElem_toArray, List.getElem_cons_succ, List.getElem_cons_zero, List.setIfInBounds_toArray, List.set_cons_zero, List.set_cons_succ]
            first
              | (refine wpAnyH_take (i := 22) (v := ?_) rfl (by kernel_rfl) (by kernel_rfl) (by kernel_rfl) (fun _ _ _ h => h) (Or.inl ⟨by rfl, ?_⟩) (by assumption) ?_; rotate_left 1; focus (intro w hSw; (try dsimp only at hSw); go_simp; (try with_reducible rfl)))
              | (refine wpAnyH_take (i := 22) (v := undef) rfl (by kernel_rfl) (by kernel_rfl) (by kernel_rfl) (fun _ _ _ h => h) (Or.inr ⟨by rfl, rfl⟩) (by assumption) ?_)
              | fail
            try simp only [Act.put, List.getElem_toArray, List.getElem_cons_succ, List.getElem_cons_zero, List.setIfInBounds_toArray, List.set_cons_zero, List.set_cons_succ]
            first
              | (refine wpAnyH_take (i := 23) (v := ?_) rfl (by kernel_rfl) (by kernel_rfl) (by kernel_rfl) (fun _ _ _ h => h) (Or.inl ⟨by rfl, ?_⟩) (by assumption) ?_; rotate_left 1; focus (intro w hSw; (try dsimp only at hSw); go_simp; (try with_reducible rfl)))
              | (refine wpAnyH_take (i := 23) (v := undef) rfl (by kernel_rfl) (by kernel_rfl) (by kernel_rfl) (fun _ _ _ h => h) (Or.inr ⟨by rfl, rfl⟩) (by assumption) ?_)
              | fail
            try simp only [Act.put, List.getElem_toArray, List.getElem_cons_succ, List.getElem_cons_zero, List.setIfInBounds_toArray, List.set_cons_zero, List.set_cons_succ]
            first
              | (refine wpAnyH_take (i := 24) (v := ?_) rfl (by kernel_rfl) (by kernel_rfl) (by kernel_rfl) (fun _ _ _ h => h) (Or.inl ⟨by rfl, ?_⟩) (by assumption) ?_; rotate_left 1; focus (intro w hSw; (try dsimp only at hSw); go_simp; (try with_reducible rfl)))
              | (refine wpAnyH_take (i := 24) (v := undef) rfl (by kernel_rfl) (by kernel_rfl) (by kernel_rfl) (fun _ _ _ h => h) (Or.inr ⟨by rfl, rfl⟩) (by assumption) ?_)
              | fail
            try simp only [Act.put, List.getElem_toArray, List.getElem_cons_succ, List.getElem_cons_zero, List.setIfInBounds_toArray, List.set_cons_zero, List.set_cons_succ]
            first
              | (refine wpAnyH_take (i := 25) (v := ?_) rfl (by kernel_rfl) (by kernel_rfl) (by kernel_rfl) (fun _ _ _ h => h) (Or.inl ⟨by rfl, ?_⟩) (by assumption) ?_; rotate_left 1; focus (intro w hSw; (try dsimp only at hSw); go_simp; (try with_reducible rfl)))
              | (refine wpAnyH_take (i := 25) (v := undef) rfl (by kernel_rfl) (by kernel_rfl) (by kernel_rfl) (fun _ _ _ h => h) (Or.inr ⟨by rfl, rfl⟩) (by assumption) ?_)
              | fail
            try simp only [Act.put, List.getElem_toArray, List.getElem_cons_succ, List.getElem_cons_zero, List.setIfInBounds_toArray, List.set_cons_zero, List.set_cons_succ]
            first
              | (refine wpAnyH_take (i := 26) (v := ?_) rfl (by kernel_rfl) (by kernel_rfl) (by kernel_rfl) (fun _ _ _ h => h) (Or.inl ⟨by rfl, ?_⟩) (by assumption) ?_; rotate_left 1; focus (intro w hSw; (try dsimp only at hSw); go_simp; (try with_reducible rfl)))
              | (refine wpAnyH_take (i := 26) (v := undef) rfl (by kernel_rfl) (by kernel_rfl) (by kernel_rfl) (fun _ _ _ h => h) (Or.inr ⟨by rfl, rfl⟩) (by assumption) ?_)
              | fail
            try simp only [Act.put, List.getElem_toArray, List.getElem_cons_succ, List.getElem_cons_zero, List.setIfInBounds_toArray, List.set_cons_zero, List.set_cons_succ]
            first
              | (refine wpAnyH_take (i := 27) (v := ?_) rfl (by kernel_rfl) (by kernel_rfl) (by kernel_rfl) (fun _ _ _ h => h) (Or.inl ⟨by rfl, ?_⟩) (by assumption) ?_; rotate_left 1; focus (intro w hSw; (try dsimp only at hSw); go_simp; (try with_reducible rfl)))
              | (refine wpAnyH_take (i := 27) (v := undef) rfl (by kernel_rfl) (by kernel_rfl) (by kernel_rfl) (fun _ _ _ h => h) (Or.inr ⟨by rfl, rfl⟩) (by assumption) ?_)
              | fail
            try simp only [Act.put, List.getElem_toArray, List.getElem_cons_succ, List.getElem_cons_zero, List.setIfInBounds_toArray, List.set_cons_zero, List.set_cons_succ]
            first
              | (refine' wpAnyH_take (i := 28) (v := _) rfl (by kernel_rfl) (by kernel_rfl) (by kernel_rfl) (fun _ _ _ h => h) (yieldsIf_load_mid (by rfl) _ _ rfl _ _ rfl _ _ (fun w hSw => (by (first | exact ri _ hSw | exact rV _ hSw | exact ry _ hSw))) Tryd.underlying28 rfl (by first | assumption | kernel_rfl)) (by assumption) ?_)
              | (refine wpAnyH_take (i := 28) (v := undef) rfl (by kernel_rfl) (by kernel_rfl) (by kernel_rfl) (fun _ _ _ h => h) (Or.inr ⟨by rfl, rfl⟩) (by assumption) ?_)
              | fail
            try simp only [Act.put, List.getElem_toArray, List.getElem_cons_succ, List.getElem_cons_zero, List.setIfInBounds_toArray, List.set_cons_zero, List.set_cons_succ]
            first
              | (refine' wpAnyH_take (i := 29) (v := _) rfl (by kernel_rfl) (by kernel_rfl) (by kernel_rfl) (fun _ _ _ h => h) (yieldsIf_load_mid (by rfl) _ _ rfl _ _ rfl _ _ (fun w hSw => (by (first | exact ri _ hSw | exact rV _ hSw | exact ry _ hSw))) Tryd.underlying28 rfl (by first | assumption | kernel_rfl)) (by assumption) ?_)
              | (refine wpAnyH_take (i := 29) (v := undef) rfl (by kernel_rfl) (by kernel_rfl) (by kernel_rfl) (fun _ _ _ h => h) (Or.inr ⟨by rfl, rfl⟩) (by assumption) ?_)
              | fail
            try simp only [Act.put, List.getElem_toArray, List.getElem_cons_succ, List.getElem_cons_zero, List.setIfInBounds_toArray, List.set_cons_zero, List.set_cons_succ]
            first
              | (refine wpAnyH_take (i := 30) (v := undef) rfl (by kernel_rfl) (by kernel_rfl) (by kernel_rfl) (fun _ _ _ h => h) (Or.inr ⟨by rfl, rfl⟩) (by assumption) ?_; try simp only [Act.put, List.getElem_toArray, List.getElem_cons_succ, List.getElem_cons_zero, List.setIfInBounds_toArray, List.set_cons_zero, List.set_cons_succ])
              | (refine wpAnyH_ready (rs := [30]) (by kernel_rfl) (by simp) ?_; refine AllReadyH.cons rfl (fun K hK => ?_) AllReadyH.nil; go_simp; ((go_at_call 44; with_reducible refine (cB _ (by first | assumption | exact Below.drew (by assumption))).mono ?_; rintro e1 W1 ⟨rfl, g1⟩; replace g1 := Grew.trans' (a := V) (by first | assumption | exact Below.drew (by assumption)) g1)); go_wp2_with fail; refine hK.out _ _ (by first | assumption | exact Below.drew (by assumption)) (fun hHeld => ?_); clear hK K; (try simp only [Act.put, List.getElem_toArray, List.getElem_cons_succ, List.getElem_cons_zero, List.setIfInBounds_toArray, List.set_cons_zero, List.set_cons_succ]))
              | fail
            first
              | (refine wpAnyH_take (i := 31) (v := ?_) rfl (by kernel_rfl) (by kernel_rfl) (by kernel_rfl) (fun _ _ _ h => h) (Or.inl ⟨by rfl, ?_⟩) (by assumption) ?_; rotate_left 1; focus (intro w hSw; (try dsimp only at hSw); go_simp; (try with_reducible rfl)))
              | (refine wpAnyH_take (i := 31) (v := undef) rfl (by kernel_rfl) (by kernel_rfl) (by kernel_rfl) (fun _ _ _ h => h) (Or.inr ⟨by rfl, rfl⟩) (by assumption) ?_)
              | fail
            try simp only [Act.put, List.getElem_toArray, List.getElem_cons_succ, List.getElem_cons_zero, List.setIfInBounds_toArray, List.set_cons_zero, List.set_cons_succ]
            first
              | (refine wpAnyH_take (i := 32) (v := ?_) rfl (by kernel_rfl) (by kernel_rfl) (by kernel_rfl) (fun _ _ _ h => h) (Or.inl ⟨by rfl, ?_⟩) (by assumption) ?_; rotate_left 1; focus (intro w hSw; (try dsimp only at hSw); go_simp; (try with_reducible rfl)))
              | (refine wpAnyH_take (i := 32) (v := undef) rfl (by kernel_rfl) (by kernel_rfl) (by kernel_rfl) (fun _ _ _ h => h) (Or.inr ⟨by rfl, rfl⟩) (by assumption) ?_)
              | fail
            try simp only [Act.put, List.getElem_toArray, List.getElem_cons_succ, List.getElem_cons_zero, List.setIfInBounds_toArray, List.set_cons_zero, List.set_cons_succ]
            first
              | (refine wpAnyH_take (i := 33) (v := ?_) rfl (by kernel_rfl) (by kernel_rfl) (by kernel_rfl) (fun _ _ _ h => h) (Or.inl ⟨by rfl, ?_⟩) (by assumption) ?_; rotate_left 1; focus (intro w hSw; (try dsimp only at hSw); go_simp; (try with_reducible rfl)))
              | fail
            try simp only [Act.put, List.getElem_toArray, List.getElem_cons_succ, List.getElem_cons_zero, List.setIfInBounds_toArray, List.set_cons_zero, List.set_cons_succ]
            refine wpAnyH_done (by kernel_rfl) ?_ _
          · go_wp2
            go_ret
            exact ⟨by rw [right_bad (by rw [HGS.out]; rfl)]; rfl, gwV.trans' (by assumption)⟩
          · have gE : Grew V W1 := by assumption
            have hE := HSV.out.grew gE
            have gwE := gwV.trans' gE
            go_wp2_with (at_mapUpdate; refine wpList_put_set rfl _ _ _ rfl w.heap.size (j + 1) _ hE (by omega) x.path _ rfl rfl rfl (by omega) (WalkArith.wf_i64 (by omega)) ?_)
            intro U hU gU
            have gwU : Grew w U := gwE.grown gU gwE.size (fun q hq => by cases hq; exact Nat.le_refl _)
            go_wp2
            go_roundw
            case rel => exact ⟨j + 1 + 1, by go_num, by omega, gwU, by rw [seenF_next hx]; exact hU, by have := HGS.out; unfold Hid; first | exact this | (rw [this]; simp)⟩
            case measure => simp [intOf]; omega
      all_goals
        have HGS := Lib.hid hgs
        clear hgs
        go_wp2
        refine wp_region_held_drew (S := fun w' => Grew V w') (by kernel_rfl) (by first | assumption | exact Below.drew (by assumption)) (fun hHeld => ?_)
        first
          | (refine wpAnyH_take (i := 0) (v := ?_) rfl (by kernel_rfl) (by kernel_rfl) (by kernel_rfl) (fun _ _ _ h => h) (Or.inl ⟨by rfl, ?_⟩) (by assumption) ?_; rotate_left 1; focus (intro w hSw; (try dsimp only at hSw); go_simp; (try with_reducible rfl)))
          | fail
        try simp only [Act.put, List.getElem_toArray, List.getElem_cons_succ, List.getElem_cons_zero, List.setIfInBounds_toArray, List.set_cons_zero, List.set_cons_succ]
        first
          | (refine wpAnyH_take (i := 1) (v := ?_) rfl (by kernel_rfl) (by kernel_rfl) (by kernel_rfl) (fun _ _ _ h => h) (Or.inl ⟨by rfl, ?_⟩) (by assumption) ?_; rotate_left 1; focus (intro w hSw; (try dsimp only at hSw); go_simp; (try with_reducible rfl)))
          | fail
        try simp only [Act.put, List.getElem_toArray, List.getElem_cons_succ, List.getElem_cons_zero, List.setIfInBounds_toArray, List.set_cons_zero, List.set_cons_succ]
        refine wpAnyH_ready (rs := [2]) (by kernel_rfl) (by simp) ?_
        refine AllReadyH.cons rfl (fun K hK => ?_) AllReadyH.nil
        go_simp
        (go_at_call 43; with_reducible refine (cN _ (by first | assumption | exact Below.drew (by assumption))).mono ?_; rintro e1 W1 ⟨rfl, g1⟩; replace g1 := Grew.trans' (a := V) (by first | assumption | exact Below.drew (by assumption)) g1)
        go_wp2_with fail
        refine hK.out _ _ (by first | assumption | exact Below.drew (by assumption)) (fun hHeld => ?_)
        clear hK K
        try simp only [Act.put, List.getElem_toArray, List.getElem_cons_succ, List.getElem_cons_zero, List.setIfInBounds_toArray, List.set_cons_zero, List.set_cons_succ]
        first
          | (refine wpAnyH_take (i := 3) (v := ?_) rfl (by kernel_rfl) (by kernel_rfl) (by kernel_rfl) (fun _ _ _ h => h) (Or.inl ⟨by rfl, ?_⟩) (by assumption) ?_; rotate_left 1; focus (intro w hSw; (try dsimp only at hSw); go_simp; (try with_reducible rfl)))
          | fail
        try simp only [Act.put, List.getElem_toArray, List.getElem_cons_succ, List.getElem_cons_zero, List.setIfInBounds_toArray, List.set_cons_zero, List.set_cons_succ]
        first
          | (refine wpAnyH_take (i := 4) (v := ?_) rfl (by kernel_rfl) (by kernel_rfl) (by kernel_rfl) (fun _ _ _ h => h) (Or.inl ⟨by rfl, ?_⟩) (by assumption) ?_; rotate_left 1; focus (intro w hSw; (try dsimp only at hSw); go_simp; (try with_reducible rfl)))
          | fail
        try simp only [Act.put, List.getElem_toArray, List.getElem_cons_succ, List.getElem_cons_zero, List.setIfInBounds_toArray, List.set_cons_zero, List.set_cons_succ]
        first
          | (refine wpAnyH_take (i := 5) (v := ?_) rfl (by kernel_rfl) (by kernel_rfl) (by kernel_rfl) (fun _ _ _ h => h) (Or.inl ⟨by rfl, ?_⟩) (by assumption) ?_; rotate_left 1; focus (intro w hSw; (try dsimp only at hSw); go_simp; (try with_reducible rfl)))
          | (refine wpAnyH_take (i := 5) (v := undef) rfl (by kernel_rfl) (by kernel_rfl) (by kernel_rfl) (fun _ _ _ h => h) (Or.inr ⟨by rfl, rfl⟩) (by assumption) ?_)
          | fail
        try simp only [Act.put, List.getElem_toArray, List.getElem_cons_succ, List.getElem_cons_zero, List.setIfInBounds_toArray, List.set_cons_zero, List.set_cons_succ]
        first
          | (refine wpAnyH_take (i := 6) (v := ?_) rfl (by kernel_rfl) (by kernel_rfl) (by kernel_rfl) (fun _ _ _ h => h) (Or.inl ⟨by rfl, ?_⟩) (by assumption) ?_; rotate_left 1; focus (intro w hSw; (try dsimp only at hSw); go_simp; (try with_reducible rfl)))
          | (refine wpAnyH_take (i := 6) (v := undef) rfl (by kernel_rfl) (by kernel_rfl) (by kernel_rfl) (fun _ _ _ h => h) (Or.inr ⟨by rfl, rfl⟩) (by assumption) ?_)
          | fail
        try simp only [Act.put, List.getElem_toArray, List.getElem_cons_succ, List.getElem_cons_zero, List.setIfInBounds_toArray, List.set_cons_zero, List.set_cons_succ]
        first
          | (refine wpAnyH_take (i := 7) (v := ?_) rfl (by kernel_rfl) (by kernel_rfl) (by kernel_rfl) (fun _ _ _ h => h) (Or.inl ⟨by rfl, ?_⟩) (by assumption) ?_; rotate_left 1; focus (intro w hSw; (try dsimp only at hSw); go_simp; (try with_reducible rfl)))
          | (refine wpAnyH_take (i := 7) (v := undef) rfl (by kernel_rfl) (by kernel_rfl) (by kernel_rfl) (fun _ _ _ h => h) (Or.inr ⟨by rfl, rfl⟩) (by assumption) ?_)
          | fail
        try simp only [Act.put, List.getElem_toArray, List.getElem_cons_succ, List.getElem_cons_zero, List.setIfInBounds_toArray, List.set_cons_zero, List.set_cons_succ]
        first
          | (refine wpAnyH_take (i := 8) (v := ?_) rfl (by kernel_rfl) (by kernel_rfl) (by kernel_rfl) (fun _ _ _ h => h) (Or.inl ⟨by rfl, ?_⟩) (by assumption) ?_; rotate_left 1; focus (intro w hSw; (try dsimp only at hSw); go_simp; (try with_reducible rfl)))
          | fail
        try simp only [Act.put, List.getElem_toArray, List.getElem_cons_succ, List.getElem_cons_zero, List.setIfInBounds_toArray, List.set_cons_zero, List.set_cons_succ]
        first
          | (refine wpAnyH_take (i := 9) (v := ?_) rfl (by kernel_rfl) (by kernel_rfl) (by kernel_rfl) (fun _ _ _ h => h) (Or.inl ⟨by rfl, ?_⟩) (by assumption) ?_; rotate_left 1; focus (intro w hSw; (try dsimp only at hSw); go_simp; (try with_reducible rfl)))
          | fail
        try simp only [Act.put, List.getElem_toArray, List.getElem_cons_succ, List.getElem_cons_zero, List.setIfInBounds_toArray, List.set_cons_zero, List.set_cons_succ]
        first
          | (refine wpAnyH_take (i := 10) (v := ?_) rfl (by kernel_rfl) (by kernel_rfl) (by kernel_rfl) (fun _ _ _ h => h) (Or.inl ⟨by rfl, ?_⟩) (by assumption) ?_; rotate_left 1; focus (intro w hSw; (try dsimp only at hSw); go_simp; (try with_reducible rfl)))
          | (refine wpAnyH_take (i := 10) (v := undef) rfl (by kernel_rfl) (by kernel_rfl) (by kernel_rfl) (fun _ _ _ h => h) (Or.inr ⟨by rfl, rfl⟩) (by assumption) ?_)
          | fail
        try simp only [Act.put, List.getElem_toArray, List.getElem_cons_succ, List.getElem_cons_zero, List.setIfInBounds_toArray, List.set_cons_zero, List.set_cons_succ]
        first
          | (refine wpAnyH_take (i := 11) (v := ?_) rfl (by kernel_rfl) (by kernel_rfl) (by kernel_rfl) (fun _ _ _ h => h) (Or.inl ⟨by rfl, ?_⟩) (by assumption) ?_; rotate_left 1; focus (intro w hSw; (try dsimp only at hSw); go_simp; (try with_reducible rfl)))
          | (refine wpAnyH_take (i := 11) (v := undef) rfl (by kernel_rfl) (by kernel_rfl) (by kernel_rfl) (fun _ _ _ h => h) (Or.inr ⟨by rfl, rfl⟩) (by assumption) ?_)
          | fail
        try simp only [Act.put, List.getElem_toArray, List.getElem_cons_succ, List.getElem_cons_zero, List.setIfInBounds_toArray, List.set_cons_zero, List.set_cons_succ]
        first
          | (refine wpAnyH_take (i := 12) (v := ?_) rfl (by kernel_rfl) (by kernel_rfl) (by kernel_rfl) (fun _ _ _ h => h) (Or.inl ⟨by rfl, ?_⟩) (by assumption) ?_; rotate_left 1; focus (intro w hSw; (try dsimp only at hSw); go_simp; (try with_reducible rfl)))
          | (refine wpAnyH_take (i := 12) (v := undef) rfl (by kernel_rfl) (by kernel_rfl) (by kernel_rfl) (fun _ _ _ h => h) (Or.inr ⟨by rfl, rfl⟩) (by assumption) ?_)
          | fail
        try simp only [Act.put, List.getElem_toArray, List.getElem_cons_succ, List.getElem_cons_zero, List.setIfInBounds_toArray, List.set_cons_zero, List.set_cons_succ]
        first
          | (refine wpAnyH_take (i := 13) (v := ?_) rfl (by kernel_rfl) (by kernel_rfl) (by kernel_rfl) (fun _ _ _ h => h) (Or.inl ⟨by rfl, ?_⟩) (by assumption) ?_; rotate_left 1; focus (intro w hSw; (try dsimp only at hSw); go_simp; (try with_reducible rfl)))
          | fail
        try simp only [Act.put, List.getElem_toArray, List.getElem_cons_succ, List.getElem_cons_zero, List.setIfInBounds_toArray, List.set_cons_zero, List.set_cons_succ]
        first
          | (refine wpAnyH_take (i := 14) (v := ?_) rfl (by kernel_rfl) (by kernel_rfl) (by kernel_rfl) (fun _ _ _ h => h) (Or.inl ⟨by rfl, ?_⟩) (by assumption) ?_; rotate_left 1; focus (intro w hSw; (try dsimp only at hSw); go_simp; (try with_reducible rfl)))
          | fail
        try simp only [Act.put, List.getElem_toArray, List.getElem_cons_succ, List.getElem_cons_zero, List.setIfInBounds_toArray, List.set_cons_zero, List.set_cons_succ]
        first
          | (refine wpAnyH_take (i := 15) (v := ?_) rfl (by kernel_rfl) (by kernel_rfl) (by kernel_rfl) (fun _ _ _ h => h) (Or.inl ⟨by rfl, ?_⟩) (by assumption) ?_; rotate_left 1; focus (intro w hSw; (try dsimp only at hSw); go_simp; (try with_reducible rfl)))
          | (refine wpAnyH_take (i := 15) (v := undef) rfl (by kernel_rfl) (by kernel_rfl) (by kernel_rfl) (fun _ _ _ h => h) (Or.inr ⟨by rfl, rfl⟩) (by assumption) ?_)
          | fail
        try simp only [Act.put, List.getElem_toArray, List.getElem_cons_succ, List.getElem_cons_zero, List.setIfInBounds_toArray, List.set_cons_zero, List.set_cons_succ]
        first
          | (refine' wpAnyH_take (i := 16) (v := _) rfl (by kernel_rfl) (by kernel_rfl) (by kernel_rfl) (fun _ _ _ h => h) (yieldsIf_load_mid (by rfl) _ _ rfl _ _ rfl _ _ (fun w hSw => (by (first | exact ri _ hSw | exact rV _ hSw))) Tryd.underlying26 rfl (by first | assumption | kernel_rfl)) (by assumption) ?_)
          | (refine wpAnyH_take (i := 16) (v := undef) rfl (by kernel_rfl) (by kernel_rfl) (by kernel_rfl) (fun _ _ _ h => h) (Or.inr ⟨by rfl, rfl⟩) (by assumption) ?_)
          | fail
        try simp only [Act.put, List.getElem_toArray, List.getElem_cons_succ, List.getElem_cons_zero, List.setIfInBounds_toArray, List.set_cons_zero, List.set_cons_succ]
        first
          | (refine wpAnyH_take (i := 17) (v := ?_) rfl (by kernel_rfl) (by kernel_rfl) (by kernel_rfl) (fun _ _ _ h => h) (Or.inl ⟨by rfl, ?_⟩) (by assumption) ?_; rotate_left 1; focus (intro w hSw; (try dsimp only at hSw); go_simp; (try with_reducible rfl)))
          | (refine wpAnyH_take (i := 17) (v := undef) rfl (by kernel_rfl) (by kernel_rfl) (by kernel_rfl) (fun _ _ _ h => h) (Or.inr ⟨by rfl, rfl⟩) (by assumption) ?_)
          | fail
        try simp only [Act.put, List.getElem_toArray, List.getElem_cons_succ, List.getElem_cons_zero, List.setIfInBounds_toArray, List.set_cons_zero, List.set_cons_succ]
        first
          | (refine wpAnyH_take (i := 18) (v := ?_) rfl (by kernel_rfl) (by kernel_rfl) (by kernel_rfl) (fun _ _ _ h => h) (Or.inl ⟨by rfl, ?_⟩) (by assumption) ?_; rotate_left 1; focus (intro w hSw; (try dsimp only at hSw); go_simp; (try with_reducible rfl)))
          | (refine wpAnyH_take (i := 18) (v := undef) rfl (by kernel_rfl) (by kernel_rfl) (by kernel_rfl) (fun _ _ _ h => h) (Or.inr ⟨by rfl, rfl⟩) (by assumption) ?_)
          | fail
        try simp only [Act.put, List.getElem_toArray, List.getElem_cons_succ, List.getElem_cons_zero, List.setIfInBounds_toArray, List.set_cons_zero, List.set_cons_succ]
        first
          | (refine wpAnyH_take (i := 19) (v := ?_) rfl (by kernel_rfl) (by kernel_rfl) (by kernel_rfl) (fun _ _ _ h => h) (Or.inl ⟨by rfl, ?_⟩) (by assumption) ?_; rotate_left 1; focus (intro w hSw; (try dsimp only at hSw); go_simp; (try with_reducible rfl)))
          | fail
        try simp only [Act.put, List.getElem_toArray, List.getElem_cons_succ, List.getElem_cons_zero, List.setIfInBounds_toArray, List.set_cons_zero, List.set_cons_succ]
        first
          | (refine wpAnyH_take (i := 20) (v := ?_) rfl (by kernel_rfl) (by kernel_rfl) (by kernel_rfl) (fun _ _ _ h => h) (Or.inl ⟨by rfl, ?_⟩) (by assumption) ?_; rotate_left 1; focus (intro w hSw; (try dsimp only at hSw); go_simp; (try with_reducible rfl)))
          | fail
        try simp only [Act.put, List.getElem_toArray, List.getElem_cons_succ, List.getElem_cons_zero, List.setIfInBounds_toArray, List.set_cons_zero, List.set_cons_succ]
        first
          | (refine wpAnyH_take (i := 21) (v := ?_) rfl (by kernel_rfl) (by kernel_rfl) (by kernel_rfl) (fun _ _ _ h => h) (Or.inl ⟨by rfl, ?_⟩) (by assumption) ?_; rotate_left 1; focus (intro w hSw; (try dsimp only at hSw); go_simp; (try with_reducible rfl)))
          | (refine wpAnyH_take (i := 21) (v := undef) rfl (by kernel_rfl) (by kernel_rfl) (by kernel_rfl) (fun _ _ _ h => h) (Or.inr ⟨by rfl, rfl⟩) (by assumption) ?_)
          | fail
        try simp only [Act.put, List.getElem_toArray, List.getElem_cons_succ, List.getElem_cons_zero, List.setIfInBounds_toArray, List.set_cons_zero, List.set_cons_succ]
        first
          | (refine wpAnyH_take (i := 22) (v := ?_) rfl (by kernel_rfl) (by kernel_rfl) (by kernel_rfl) (fun _ _ _ h => h) (Or.inl ⟨by rfl, ?_⟩) (by assumption) ?_; rotate_left 1; focus (intro w hSw; (try dsimp only at hSw); go_simp; (try with_reducible rfl)))
          | (refine wpAnyH_take (i := 22) (v := undef) rfl (by kernel_rfl) (by kernel_rfl) (by kernel_rfl) (fun _ _ _ h => h) (Or.inr ⟨by rfl, rfl⟩) (by assumption) ?_)
          | fail
        try simp only [Act.put, List.getElem_toArray, List.getElem_cons_succ, List.getElem_cons_zero, List.setIfInBounds_toArray, List.set_cons_zero, List.set_cons_succ]
        first
          | (refine wpAnyH_take (i := 23) (v := ?_) rfl (by kernel_rfl) (by kernel_rfl) (by kernel_rfl) (fun _ _ _ h => h) (Or.inl ⟨by rfl, ?_⟩) (by assumption) ?_; rotate_left 1; focus (intro w hSw; (try dsimp only at hSw); go_simp; (try with_reducible rfl)))
          | (refine wpAnyH_take (i := 23) (v := undef) rfl (by kernel_rfl) (by kernel_rfl) (by kernel_rfl) (fun _ _ _ h => h) (Or.inr ⟨by rfl, rfl⟩) (by assumption) ?_)
          | fail
        try simp only [Act.put, List.getElem_toArray, List.getElem_cons_succ, List.getElem_cons_zero, List.setIfInBounds_toArray, List.set_cons_zero, List.set_cons_succ]
        first
          | (refine wpAnyH_take (i := 24) (v := ?_) rfl (by kernel_rfl) (by kernel_rfl) (by kernel_rfl) (fun _ _ _ h => h) (Or.inl ⟨by rfl, ?_⟩) (by assumption) ?_; rotate_left 1; focus (intro w hSw; (try dsimp only at hSw); go_simp; (try with_reducible rfl)))
          | (refine wpAnyH_take (i := 24) (v := undef) rfl (by kernel_rfl) (by kernel_rfl) (by kernel_rfl) (fun _ _ _ h => h) (Or.inr ⟨by rfl, rfl⟩) (by assumption) ?_)
          | fail
        try simp only [Act.put, List.getElem_toArray, List.getElem_cons_succ, List.getElem_cons_zero, List.setIfInBounds_toArray, List.set_cons_zero, List.set_cons_succ]
        first
          | (refine wpAnyH_take (i := 25) (v := ?_) rfl (by kernel_rfl) (by kernel_rfl) (by kernel_rfl) (fun _ _ _ h => h) (Or.inl ⟨by rfl, ?_⟩) (by assumption) ?_; rotate_left 1; focus (intro w hSw; (try dsimp only at hSw); go_simp; (try with_reducible rfl)))
          | (refine wpAnyH_take (i := 25) (v := undef) rfl (by kernel_rfl) (by kernel_rfl) (by kernel_rfl) (fun _ _ _ h => h) (Or.inr ⟨by rfl, rfl⟩) (by assumption) ?_)
          | fail
        try simp only [Act.put, List.getElem_toArray, List.getElem_cons_succ, List.getElem_cons_zero, List.setIfInBounds_toArray, List.set_cons_zero, List.set_cons_succ]
        first
          | (refine wpAnyH_take (i := 26) (v := ?_) rfl (by kernel_rfl) (by kernel_rfl) (by kernel_rfl) (fun _ _ _ h => h) (Or.inl ⟨by rfl, ?_⟩) (by assumption) ?_; rotate_left 1; focus (intro w hSw; (try dsimp only at hSw); go_simp; (try with_reducible rfl)))
          | (refine wpAnyH_take (i := 26) (v := undef) rfl (by kernel_rfl) (by kernel_rfl) (by kernel_rfl) (fun _ _ _ h => h) (Or.inr ⟨by rfl, rfl⟩) (by assumption) ?_)
          | fail
        try simp only [Act.put, List.getElem_toArray, List.getElem_cons_succ, List.getElem_cons_zero, List.setIfInBounds_toArray, List.set_cons_zero, List.set_cons_succ]
        first
          | (refine wpAnyH_take (i := 27) (v := ?_) rfl (by kernel_rfl) (by kernel_rfl) (by kernel_rfl) (fun _ _ _ h => h) (Or.inl ⟨by rfl, ?_⟩) (by assumption) ?_; rotate_left 1; focus (intro w hSw; (try dsimp only at hSw); go_simp; (try with_reducible rfl)))
          | (refine wpAnyH_take (i := 27) (v := undef) rfl (by kernel_rfl) (by kernel_rfl) (by kernel_rfl) (fun _ _ _ h => h) (Or.inr ⟨by rfl, rfl⟩) (by assumption) ?_)
          | fail
        try simp only [Act.put, List.getElem_toArray, List.getElem_cons_succ, List.getElem_cons_zero, List.setIfInBounds_toArray, List.set_cons_zero, List.set_cons_succ]
        first
          | (refine' wpAnyH_take (i := 28) (v := _) rfl (by kernel_rfl) (by kernel_rfl) (by kernel_rfl) (fun _ _ _ h => h) (yieldsIf_load_mid (by rfl) _ _ rfl _ _ rfl _ _ (fun w hSw => (by (first | exact ri _ hSw | exact rV _ hSw))) Tryd.underlying28 rfl (by first | assumption | kernel_rfl)) (by assumption) ?_)
          | (refine wpAnyH_take (i := 28) (v := undef) rfl (by kernel_rfl) (by kernel_rfl) (by kernel_rfl) (fun _ _ _ h => h) (Or.inr ⟨by rfl, rfl⟩) (by assumption) ?_)
          | fail
        try simp only [Act.put, List.getElem_toArray, List.getElem_cons_succ, List.getElem_cons_zero, List.setIfInBounds_toArray, List.set_cons_zero, List.set_cons_succ]
        first
          | (refine' wpAnyH_take (i := 29) (v := _) rfl (by kernel_rfl) (by kernel_rfl) (by kernel_rfl) (fun _ _ _ h => h) (yieldsIf_load_mid (by rfl) _ _ rfl _ _ rfl _ _ (fun w hSw => (by (first | exact ri _ hSw | exact rV _ hSw))) Tryd.underlying28 rfl (by first | assumption | kernel_rfl)) (by assumption) ?_)
          | (refine wpAnyH_take (i := 29) (v := undef) rfl (by kernel_rfl) (by kernel_rfl) (by kernel_rfl) (fun _ _ _ h => h) (Or.inr ⟨by rfl, rfl⟩) (by assumption) ?_)
          | fail
        try simp only [Act.put, List.getElem_toArray, List.getElem_cons_succ, List.getElem_cons_zero, List.setIfInBounds_toArray, List.set_cons_zero, List.set_cons_succ]
        first
          | (refine wpAnyH_take (i := 30) (v := undef) rfl (by kernel_rfl) (by kernel_rfl) (by kernel_rfl) (fun _ _ _ h => h) (Or.inr ⟨by rfl, rfl⟩) (by assumption) ?_; try simp only [Act.put, List.getElem_toArray, List.getElem_cons_succ, List.getElem_cons_zero, List.setIfInBounds_toArray, List.set_cons_zero, List.set_cons_succ])
          | (refine wpAnyH_ready (rs := [30]) (by kernel_rfl) (by simp) ?_; refine AllReadyH.cons rfl (fun K hK => ?_) AllReadyH.nil; go_simp; fail; go_wp2_with fail; refine hK.out _ _ (by first | assumption | exact Below.drew (by assumption)) (fun hHeld => ?_); clear hK K; (try simp only [Act.put, List.getElem_toArray, List.getElem_cons_succ, List.getElem_cons_zero, List.setIfInBounds_toArray, List.set_cons_zero, List.set_cons_succ]))
          | fail
        first
          | (refine wpAnyH_take (i := 31) (v := ?_) rfl (by kernel_rfl) (by kernel_rfl) (by kernel_rfl) (fun _ _ _ h => h) (Or.inl ⟨by rfl, ?_⟩) (by assumption) ?_; rotate_left 1; focus (intro w hSw; (try dsimp only at hSw); go_simp; (try with_reducible rfl)))
          | (refine wpAnyH_take (i := 31) (v := undef) rfl (by kernel_rfl) (by kernel_rfl) (by kernel_rfl) (fun _ _ _ h => h) (Or.inr ⟨by rfl, rfl⟩) (by assumption) ?_)
          | fail
        try simp only [Act.put, List.getElem_toArray, List.getElem_cons_succ, List.getElem_cons_zero, List.setIfInBounds_toArray, List.set_cons_zero, List.set_cons_succ]
        first
          | (refine wpAnyH_take (i := 32) (v := ?_) rfl (by kernel_rfl) (by kernel_rfl) (by kernel_rfl) (fun _ _ _ h => h) (Or.inl ⟨by rfl, ?_⟩) (by assumption) ?_; rotate_left 1; focus (intro w hSw; (try dsimp only at hSw); go_simp; (try with_reducible rfl)))
          | (refine wpAnyH_take (i := 32) (v := undef) rfl (by kernel_rfl) (by kernel_rfl) (by kernel_rfl) (fun _ _ _ h => h) (Or.inr ⟨by rfl, rfl⟩) (by assumption) ?_)
          | fail
        try simp only [Act.put, List.getElem_toArray, List.getElem_cons_succ, List.getElem_cons_zero, List.setIfInBounds_toArray, List.set_cons_zero, List.set_cons_succ]
        first
          | (refine wpAnyH_take (i := 33) (v := ?_) rfl (by kernel_rfl) (by kernel_rfl) (by kernel_rfl) (fun _ _ _ h => h) (Or.inl ⟨by rfl, ?_⟩) (by assumption) ?_; rotate_left 1; focus (intro w hSw; (try dsimp only at hSw); go_simp; (try with_reducible rfl)))
          | fail
        try simp only [Act.put, List.getElem_toArray, List.getElem_cons_succ, List.getElem_cons_zero, List.setIfInBounds_toArray, List.set_cons_zero, List.set_cons_succ]
        refine wpAnyH_done (by kernel_rfl) ?_ _
        go_wp2
        go_ret
        exact ⟨by rw [right_bad (by rw [HGS.out]; simp)]; rfl, gwV.trans' (by assumption)⟩
    · obtain rfl : k = l.length := by omega
      have hgs := hgd.out
      rw [List.drop_length] at hgs
      have hg1 : goodF none l = true := by rw [hgs]; cases prevF l l.length <;> rfl
      have hR : rightF l = (!(l.any (foundF l)) && decide (l.length ≤ 500)) := by
        unfold rightF
        rw [hg1, clash_found hg1]
        simp
      have HRR := Lib.hid hR
      clear hgs hgd hlt hR hg1 hk
      obtain ⟨w1, rfl⟩ : ∃ w1 : World, w1 = wr := ⟨_, rfl⟩
      have HS := Lib.hid hs
      clear hs
      go_wp2
      go_loopw [61] (fun i wr => ∃ k : Nat, i = .int .i64 (k : Int) ∧ k ≤ l.length ∧ Grew w1 wr ∧ Hid (∀ j x, j < k → l[j]? = some x → foundF l x = false)) (fun i _ => l.length - (intOf i).toNat)
      case atStart => exact ⟨0, rfl, Nat.zero_le _, Below.refl _ _, fun j x h => by omega⟩
      case round =>
        obtain ⟨k, rfl, hk, hb2, hno⟩ := hrel
        by_cases hlt : k < l.length
        · obtain ⟨x, hx⟩ : ∃ x, l[k]? = some x := ⟨_, List.getElem?_eq_getElem hlt⟩
          obtain ⟨hxi, hxn⟩ := HFI.out x (List.mem_of_getElem? hx)
          rcases HR.out with h | ⟨b, o, rfl, hc⟩
          · subst h; simp at hlt
          have rx : wr.rangeAt b (o + k * 22) x.cells := range_grew (hc k x hx) (hb.trans' hb2)
          have nfx := infoFile x hxi
          clear hc
          obtain ⟨w2, rfl⟩ : ∃ w2 : World, w2 = wr := ⟨_, rfl⟩
          go_wp2_with (first | (refine wpList_load_mid rfl 28 _ rfl b _ rfl x.cells _ rx Tryd.underlying28 rfl nfx ?_) | (refine wpList_store_new rfl 28 _ _ rfl w2 _ rfl x.cells rfl rfl (x.len hxi).symm nfx x.one ?_))
          intro V gV gVV rV fV sV
          have q0 : ∀ W, Grew V W → W.cell? ⟨w2.heap.size, 0, none⟩ = some (.string x.path) := fun W g => (fil_range (rV W g)).1
          have gwV : Grew w1 V := hb2.trans' gV
          have cF := flat_folders x.path V hxn
          go_wp2_with (go_at_call 45; with_reducible refine cF.mono ?_)
          rintro e2 W2 ⟨v, ds, rfl, hds, hown, g2⟩
          obtain ⟨pv, cv, rfl, hrd, hcv, hpn, hat⟩ := hown.val
          have hdl : ds.length ≤ x.path.size := by
            have h1 : (ds.map (fun x => x.data.toList)).length = ds.length := List.length_map ..
            have h2 : (foldA [] x.path.data.toList).length ≤ x.path.data.toList.length := foldA_len _ _
            have h3 : x.path.data.toList.length = x.path.size := Array.length_toList
            rw [hds] at h1
            omega
          have gw2 := gwV.trans' g2
          have HDS := Lib.hid hds
          have HRD := Lib.hid hrd
          clear hds hrd hown cF q0 fV rV gVV rx nfx
          go_wp2
          go_loopw [69] (fun i wr => ∃ j : Nat, i = .int .i64 (j : Int) ∧ j ≤ ds.length ∧ Grew W2 wr ∧ Hid (∀ m d, m < j → ds[m]? = some d → (l.map Fil.p).contains d.data.toList = false)) (fun i _ => ds.length - (intOf i).toNat)
          case atStart => exact ⟨0, rfl, Nat.zero_le _, Below.refl _ _, fun j x h => by omega⟩
          case round =>
            obtain ⟨j, rfl, hj, hb3, hnd⟩ := hrel
            by_cases hjl : j < ds.length
            · obtain ⟨d, hd⟩ : ∃ d, ds[j]? = some d := ⟨_, List.getElem?_eq_getElem hjl⟩
              rcases HRD.out with h | ⟨b', o', rfl, hc'⟩
              · subst h; simp at hjl
              have qd : wr.cell? ⟨b', o' + j, none⟩ = some (.string d) := by
                have := str_at (range_grew (hc' j d hd) hb3)
                rwa [show o' + j * kStr.n = o' + j from by show o' + j * 1 = _; omega] at this
              have hmem : d.data.toList ∈ foldA [] x.path.data.toList := by
                rw [← HDS.out]
                exact List.mem_map_of_mem (List.mem_of_getElem? hd)
              have hdsz : d.size ≤ 1073741824 := by
                obtain ⟨a, r, e1, e2⟩ := (mem_foldA _ _ _).1 hmem
                have h1 := congrArg List.length e1
                have h2 := congrArg List.length e2
                have h3 : x.path.data.toList.length = x.path.size := Array.length_toList
                have h4 : d.data.toList.length = d.size := Array.length_toList
                simp only [List.length_append, List.length_cons, List.length_nil] at h1 h2
                omega
              obtain ⟨c, hlk⟩ := (HS.out.grew (gw2.trans' hb3)).look d (by omega)
              rw [seenF_all] at hlk
              obtain ⟨T, hT⟩ : ∃ T, (l.map Fil.p).contains d.data.toList = T := ⟨_, rfl⟩
              rw [hT] at hlk
              have HT := Lib.hid hT
              have HM2 := Lib.hid hmem
              clear hT hmem hc'
              cases T with
              | true =>
                have hfd : rightF l = false := by
                  rw [HRR.out]
                  have : l.any (foundF l) = true := by
                    rw [List.any_eq_true]
                    refine ⟨x, List.mem_of_getElem? hx, ?_⟩
                    unfold foundF
                    rw [List.any_eq_true]
                    exact ⟨_, HM2.out, HT.out⟩
                  rw [this]
                  rfl
                have HFD := Lib.hid hfd
                clear hfd
                go_wp2
                go_ret
                exact ⟨by rw [HFD.out]; rfl, hb.trans' (gw2.trans' hb3)⟩
              | false =>
                go_wp2
                go_roundw
                case rel =>
                  refine ⟨j + 1, by go_num, by omega, hb3, fun m d' hm hd' => ?_⟩
                  by_cases e : m = j
                  · subst e; rw [hd] at hd'; cases hd'; exact HT.out
                  · exact hnd.out m d' (by omega) hd'
                case measure => simp [intOf]; omega
            · obtain rfl : j = ds.length := by omega
              have hfx : foundF l x = false := by
                unfold foundF
                rw [List.any_eq_false]
                intro d hd
                rw [← HDS.out, List.mem_map] at hd
                obtain ⟨d', hd', rfl⟩ := hd
                obtain ⟨m, hm⟩ := List.mem_iff_getElem?.1 hd'
                rw [hnd.out m d' (List.getElem?_eq_some_iff.1 hm).1 hm]
                decide
              have HFX := Lib.hid hfx
              clear hfx
              go_wp2
              go_roundw
              case rel =>
                refine ⟨k + 1, by go_num, by omega, gw2.trans' hb3, fun m x' hm hx' => ?_⟩
                by_cases e : m = k
                · subst e; rw [hx] at hx'; cases hx'; exact HFX.out
                · exact hno.out m x' (by omega) hx'
              case measure => simp [intOf]; omega
        · obtain rfl : k = l.length := by omega
          have hany : l.any (foundF l) = false := by
            rw [List.any_eq_false]
            intro x hx
            obtain ⟨m, hm⟩ := List.mem_iff_getElem?.1 hx
            rw [hno.out m x (List.getElem?_eq_some_iff.1 hm).1 hm]
            decide
          have hR2 : rightF l = decide (l.length ≤ 500) := by rw [HRR.out, hany]; rfl
          have HR2 := Lib.hid hR2
          clear hany hR2 hno HRR
          by_cases h5 : l.length ≤ 500
          · have f2 : decide ((l.length : Int) ≤ 500) = true := decide_eq_true (by omega)
            have HH : Hid (decide (l.length ≤ 500) = true) := by simp [Hid, h5]
            go_wp2
            go_ret
            exact ⟨by rw [HR2.out, HH.out]; rfl, hb.trans' hb2⟩
          · have f2 : decide ((l.length : Int) ≤ 500) = false := decide_eq_false (by omega)
            have HH : Hid (decide (l.length ≤ 500) = false) := by simp [Hid, h5]
            go_wp2
            go_ret
            exact ⟨by rw [HR2.out, HH.out]; rfl, hb.trans' hb2⟩

end Go.Proofs.YtgjnnoamhmmcnaaDoor

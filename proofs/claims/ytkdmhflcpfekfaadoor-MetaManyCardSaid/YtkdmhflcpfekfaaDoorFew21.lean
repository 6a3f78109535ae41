/- few of layer 21: what it lets in is short. Conditions: each text of at most 2^20 bytes. -/
import Derived.Test.YtkdmhflcpfekfaaDoorLaw21a
namespace Go.Proofs.YtkdmhflcpfekfaaDoor
set_option linter.unusedVariables false
set_option linter.unusedSimpArgs false
open Go.RowKit

def sumW (l : List Two) : Nat := (l.map fun x => x.a.size + x.b.size).sum
theorem sum_next {l : List Two} {k : Nat} {x : Two} (h : l[k]? = some x) : sumW (l.take (k + 1)) = sumW (l.take k) + (x.a.size + x.b.size) := by
  unfold sumW
  rw [List.take_add_one, h]
  simp
theorem sum_mem : ∀ (l : List Two) (x : Two), x ∈ l → x.a.size + x.b.size ≤ sumW l
  | [], x, h => by cases h
  | y :: r, x, h => by
    have e : sumW (y :: r) = (y.a.size + y.b.size) + sumW r := by unfold sumW; simp
    rw [e]
    rcases List.mem_cons.1 h with rfl | h
    · omega
    · have := sum_mem r x h; omega

set_option maxRecDepth 100000 in
set_option maxHeartbeats 4000000 in
theorem few21 (t : ByteArray) (p q : Option Addr) (l m : List Two) (c d : Nat) (w : World) (ht : t.size ≤ 1048576) (hl : l.length ≤ 9223372036854775807) (hml : m.length ≤ 9223372036854775807) (hr : RdG kExtra w p l) (hq : RdG kCopy w q m) (hf : ∀ x ∈ l, SizesLe 1048576 x) (hg : ∀ x ∈ m, SizesLe 1048576 x) :
    Calls Tryd.prog 7 #[.string t, .slice p l.length c, .slice q m.length d] w fun e w' => (∃ B : Bool, e = .returned (.bool B) ∧ (B = true → l.length < 50 ∧ m.length < 50 ∧ t.size < 3000 ∧ (∀ x ∈ l, SizesLe 3000 x) ∧ (∀ x ∈ m, SizesLe 3000 x))) ∧ Grew w w' := by
  have g0 : Grew w w := Below.refl _ _
  have HR := Lib.hid hr
  have HQ := Lib.hid hq
  have HF := Lib.hid hf
  have HG := Lib.hid hg
  clear hr hq hf hg
  go_enter Tryd.func7, Tryd.ntmps7
  go_wp2
  go_loopw [7, 8] (fun nv i wr => ∃ k S : Nat, nv = .int .i64 (S : Int) ∧ i = .int .i64 (k : Int) ∧ k ≤ l.length ∧ k ≤ 50 ∧ S ≤ 1048576 + k * 2097152 ∧ Hid (S = t.size + sumW (l.take k)) ∧ Grew w wr) (fun _ i _ => 50 - (intOf i).toNat)
  case atStart => exact ⟨0, t.size, rfl, rfl, Nat.zero_le _, Nat.zero_le _, by omega, (show t.size = t.size + sumW ([] : List Two) from rfl), g0⟩
  case round =>
    obtain ⟨k, S, rfl, rfl, hk, hk5, hS, hSe, hb⟩ := hrel
    by_cases hlt : k < l.length ∧ k < 50
    · obtain ⟨h1, h2⟩ := hlt
      obtain ⟨x, hx⟩ : ∃ x, l[k]? = some x := ⟨_, List.getElem?_eq_getElem h1⟩
      obtain ⟨ha, hbz⟩ := HF.out x (List.mem_of_getElem? hx)
      rcases HR.out with h | ⟨b, o, rfl, hc⟩
      · subst h; simp at h1
      have bW : ∀ W, Grew w W → W.rangeAt b (o + k * 2) x.cells := fun W g => range_grew (hc k x hx) g
      have hnx := sum_next hx
      have f1 : decide (k < l.length) = true := decide_eq_true h1
      have f2 : decide (k < 50) = true := decide_eq_true h2
      have f3 : decide ((k : Int) < (l.length : Int)) = true := decide_eq_true (by omega)
      have f4 : decide ((k : Int) < 50) = true := decide_eq_true (by omega)
      have w1 : IntKind.i64.wrap ((S : Int) + (x.a.size : Int)) = (S : Int) + (x.a.size : Int) := IntWalk.i64_in _ (by omega)
      have w2 : IntKind.i64.wrap ((S : Int) + (x.a.size : Int) + (x.b.size : Int)) = (S : Int) + (x.a.size : Int) + (x.b.size : Int) := IntWalk.i64_in _ (by omega)
      have hSn : Hid (S + x.a.size + x.b.size = t.size + sumW (l.take (k + 1))) := by unfold Hid; rw [hnx, hSe.out]; omega
      clear hc hnx hx hSe
      go_wp2_with fail
      refine wp_region_held_drew (S := fun w' => Grew w w') (by kernel_rfl) (by (first | assumption | exact Below.drew (by assumption))) (fun hHeld => ?_)
      first
        | (refine wpAnyH_take (i := 0) (v := ?_) rfl (by kernel_rfl) (by kernel_rfl) (by kernel_rfl) (fun _ _ _ h => h) (Or.inl ⟨by rfl, ?_⟩) (by assumption) ?_; rotate_left 1; focus (intro w hSw; (obtain ⟨hs3, hs4⟩ := two_range (bW _ hSw)); go_simp; (try with_reducible rfl)))
        | fail
      try simp only [Act.put, List.getElem_toArray, List.getElem_cons_succ, List.getElem_cons_zero, List.setIfInBounds_toArray, List.set_cons_zero, List.set_cons_succ]
      first
        | (refine wpAnyH_take (i := 1) (v := ?_) rfl (by kernel_rfl) (by kernel_rfl) (by kernel_rfl) (fun _ _ _ h => h) (Or.inl ⟨by rfl, ?_⟩) (by assumption) ?_; rotate_left 1; focus (intro w hSw; (obtain ⟨hs3, hs4⟩ := two_range (bW _ hSw)); go_simp; (try with_reducible rfl)))
        | fail
      try simp only [Act.put, List.getElem_toArray, List.getElem_cons_succ, List.getElem_cons_zero, List.setIfInBounds_toArray, List.set_cons_zero, List.set_cons_succ]
      first
        | (refine wpAnyH_take (i := 2) (v := ?_) rfl (by kernel_rfl) (by kernel_rfl) (by kernel_rfl) (fun _ _ _ h => h) (Or.inl ⟨by rfl, ?_⟩) (by assumption) ?_; rotate_left 1; focus (intro w hSw; (obtain ⟨hs3, hs4⟩ := two_range (bW _ hSw)); go_simp; (try with_reducible rfl)))
        | fail
      try simp only [Act.put, List.getElem_toArray, List.getElem_cons_succ, List.getElem_cons_zero, List.setIfInBounds_toArray, List.set_cons_zero, List.set_cons_succ]
      first
        | (refine wpAnyH_take (i := 3) (v := ?_) rfl (by kernel_rfl) (by kernel_rfl) (by kernel_rfl) (fun _ _ _ h => h) (Or.inl ⟨by rfl, ?_⟩) (by assumption) ?_; rotate_left 1; focus (intro w hSw; (obtain ⟨hs3, hs4⟩ := two_range (bW _ hSw)); go_simp; (try with_reducible rfl)))
        | fail
      try simp only [Act.put, List.getElem_toArray, List.getElem_cons_succ, List.getElem_cons_zero, List.setIfInBounds_toArray, List.set_cons_zero, List.set_cons_succ]
      first
        | (refine wpAnyH_take (i := 4) (v := ?_) rfl (by kernel_rfl) (by kernel_rfl) (by kernel_rfl) (fun _ _ _ h => h) (Or.inl ⟨by rfl, ?_⟩) (by assumption) ?_; rotate_left 1; focus (intro w hSw; (obtain ⟨hs3, hs4⟩ := two_range (bW _ hSw)); go_simp; (try with_reducible rfl)))
        | fail
      try simp only [Act.put, List.getElem_toArray, List.getElem_cons_succ, List.getElem_cons_zero, List.setIfInBounds_toArray, List.set_cons_zero, List.set_cons_succ]
      first
        | (refine wpAnyH_take (i := 5) (v := ?_) rfl (by kernel_rfl) (by kernel_rfl) (by kernel_rfl) (fun _ _ _ h => h) (Or.inl ⟨by rfl, ?_⟩) (by assumption) ?_; rotate_left 1; focus (intro w hSw; (obtain ⟨hs3, hs4⟩ := two_range (bW _ hSw)); go_simp; (try with_reducible rfl)))
        | fail
      try simp only [Act.put, List.getElem_toArray, List.getElem_cons_succ, List.getElem_cons_zero, List.setIfInBounds_toArray, List.set_cons_zero, List.set_cons_succ]
      first
        | (refine wpAnyH_take (i := 6) (v := ?_) rfl (by kernel_rfl) (by kernel_rfl) (by kernel_rfl) (fun _ _ _ h => h) (Or.inl ⟨by rfl, ?_⟩) (by assumption) ?_; rotate_left 1; focus (intro w hSw; (obtain ⟨hs3, hs4⟩ := two_range (bW _ hSw)); go_simp; (try with_reducible rfl)))
        | fail
      try simp only [Act.put, List.getElem_toArray, List.getElem_cons_succ, List.getElem_cons_zero, List.setIfInBounds_toArray, List.set_cons_zero, List.set_cons_succ]
      first
        | (refine wpAnyH_take (i := 7) (v := ?_) rfl (by kernel_rfl) (by kernel_rfl) (by kernel_rfl) (fun _ _ _ h => h) (Or.inl ⟨by rfl, ?_⟩) (by assumption) ?_; rotate_left 1; focus (intro w hSw; (obtain ⟨hs3, hs4⟩ := two_range (bW _ hSw)); go_simp; (try with_reducible rfl)))
        | fail
      try simp only [Act.put, List.getElem_toArray, List.getElem_cons_succ, List.getElem_cons_zero, List.setIfInBounds_toArray, List.set_cons_zero, List.set_cons_succ]
      first
        | (refine wpAnyH_take (i := 8) (v := ?_) rfl (by kernel_rfl) (by kernel_rfl) (by kernel_rfl) (fun _ _ _ h => h) (Or.inl ⟨by rfl, ?_⟩) (by assumption) ?_; rotate_left 1; focus (intro w hSw; (obtain ⟨hs3, hs4⟩ := two_range (bW _ hSw)); go_simp; (try with_reducible rfl)))
        | fail
      try simp only [Act.put, List.getElem_toArray, List.getElem_cons_succ, List.getElem_cons_zero, List.setIfInBounds_toArray, List.set_cons_zero, List.set_cons_succ]
      first
        | (refine wpAnyH_take (i := 9) (v := ?_) rfl (by kernel_rfl) (by kernel_rfl) (by kernel_rfl) (fun _ _ _ h => h) (Or.inl ⟨by rfl, ?_⟩) (by assumption) ?_; rotate_left 1; focus (intro w hSw; (obtain ⟨hs3, hs4⟩ := two_range (bW _ hSw)); go_simp; (try with_reducible rfl)))
        | fail
      try simp only [Act.put, List.getElem_toArray, List.getElem_cons_succ, List.getElem_cons_zero, List.setIfInBounds_toArray, List.set_cons_zero, List.set_cons_succ]
      first
        | (refine wpAnyH_take (i := 10) (v := ?_) rfl (by kernel_rfl) (by kernel_rfl) (by kernel_rfl) (fun _ _ _ h => h) (Or.inl ⟨by rfl, ?_⟩) (by assumption) ?_; rotate_left 1; focus (intro w hSw; (obtain ⟨hs3, hs4⟩ := two_range (bW _ hSw)); go_simp; (try with_reducible rfl)))
        | fail
      try simp only [Act.put, List.getElem_toArray, List.getElem_cons_succ, List.getElem_cons_zero, List.setIfInBounds_toArray, List.set_cons_zero, List.set_cons_succ]
      first
        | (refine wpAnyH_take (i := 11) (v := ?_) rfl (by kernel_rfl) (by kernel_rfl) (by kernel_rfl) (fun _ _ _ h => h) (Or.inl ⟨by rfl, ?_⟩) (by assumption) ?_; rotate_left 1; focus (intro w hSw; (obtain ⟨hs3, hs4⟩ := two_range (bW _ hSw)); go_simp; (try with_reducible rfl)))
        | fail
      try simp only [Act.put, List.getElem_toArray, List.getElem_cons_succ, List.getElem_cons_zero, List.setIfInBounds_toArray, List.set_cons_zero, List.set_cons_succ]
      first
        | (refine wpAnyH_take (i := 12) (v := ?_) rfl (by kernel_rfl) (by kernel_rfl) (by kernel_rfl) (fun _ _ _ h => h) (Or.inl ⟨by rfl, ?_⟩) (by assumption) ?_; rotate_left 1; focus (intro w hSw; (obtain ⟨hs3, hs4⟩ := two_range (bW _ hSw)); go_simp; (try with_reducible rfl)))
        | fail
      try simp only [Act.put, List.getElem_toArray, List.getElem_cons_succ, List.getElem_cons_zero, List.setIfInBounds_toArray, List.set_cons_zero, List.set_cons_succ]
      first
        | (refine wpAnyH_take (i := 13) (v := ?_) rfl (by kernel_rfl) (by kernel_rfl) (by kernel_rfl) (fun _ _ _ h => h) (Or.inl ⟨by rfl, ?_⟩) (by assumption) ?_; rotate_left 1; focus (intro w hSw; (obtain ⟨hs3, hs4⟩ := two_range (bW _ hSw)); go_simp; (try with_reducible rfl)))
        | fail
      try simp only [Act.put, List.getElem_toArray, List.getElem_cons_succ, List.getElem_cons_zero, List.setIfInBounds_toArray, List.set_cons_zero, List.set_cons_succ]
      first
        | (refine wpAnyH_take (i := 14) (v := ?_) rfl (by kernel_rfl) (by kernel_rfl) (by kernel_rfl) (fun _ _ _ h => h) (Or.inl ⟨by rfl, ?_⟩) (by assumption) ?_; rotate_left 1; focus (intro w hSw; (obtain ⟨hs3, hs4⟩ := two_range (bW _ hSw)); go_simp; (try with_reducible rfl)))
        | fail
      try simp only [Act.put, List.getElem_toArray, List.getElem_cons_succ, List.getElem_cons_zero, List.setIfInBounds_toArray, List.set_cons_zero, List.set_cons_succ]
      first
        | (refine wpAnyH_take (i := 15) (v := ?_) rfl (by kernel_rfl) (by kernel_rfl) (by kernel_rfl) (fun _ _ _ h => h) (Or.inl ⟨by rfl, ?_⟩) (by assumption) ?_; rotate_left 1; focus (intro w hSw; (obtain ⟨hs3, hs4⟩ := two_range (bW _ hSw)); go_simp; (try with_reducible rfl)))
        | fail
      try simp only [Act.put, List.getElem_toArray, List.getElem_cons_succ, List.getElem_cons_zero, List.setIfInBounds_toArray, List.set_cons_zero, List.set_cons_succ]
      refine wpAnyH_done (by kernel_rfl) ?_ _
      go_wp2
      go_roundw
      case rel => exact ⟨k + 1, S + x.a.size + x.b.size, by push_cast; rfl, by go_num, by omega, by omega, by omega, hSn, by first | assumption | exact Below.drew (by assumption)⟩
      case measure => simp [intOf]; omega
    · have hlt' : ¬ k < l.length ∨ (k < l.length ∧ ¬ k < 50) := by omega
      have hall : Hid (l.length < 50 → t.size + sumW l = S) := fun h => by
        have : k = l.length := by omega
        rw [hSe.out, this, List.take_length]
      clear hSe hlt
      rcases hlt' with h1 | ⟨h1, h2⟩
      all_goals
        first
          | (have f1 : decide (k < l.length) = false := decide_eq_false h1
             have f3 : decide ((k : Int) < (l.length : Int)) = false := decide_eq_false (by omega))
          | (have f1 : decide (k < l.length) = true := decide_eq_true h1
             have f2 : decide (k < 50) = false := decide_eq_false h2
             have f3 : decide ((k : Int) < (l.length : Int)) = true := decide_eq_true (by omega)
             have f4 : decide ((k : Int) < 50) = false := decide_eq_false (by omega))
        go_wp2
        try clear f2 f4
        clear f1 f3 h1
        try clear h2
        go_loopw [7, 9] (fun nv i wr => ∃ j T : Nat, nv = .int .i64 (T : Int) ∧ i = .int .i64 (j : Int) ∧ j ≤ m.length ∧ j ≤ 50 ∧ T ≤ S + j * 2097152 ∧ Hid (T = S + sumW (m.take j)) ∧ Grew w wr) (fun _ i _ => 50 - (intOf i).toNat)
        case atStart => exact ⟨0, S, rfl, rfl, Nat.zero_le _, Nat.zero_le _, by omega, (show S = S + sumW ([] : List Two) from rfl), hb⟩
        case round =>
          clear hb
          obtain ⟨j, T, rfl, rfl, hj, hj5, hT, hTe, hb⟩ := hrel
          by_cases hlt : j < m.length ∧ j < 50
          · obtain ⟨h1, h2⟩ := hlt
            obtain ⟨x, hx⟩ : ∃ x, m[j]? = some x := ⟨_, List.getElem?_eq_getElem h1⟩
            obtain ⟨ha, hbz⟩ := HG.out x (List.mem_of_getElem? hx)
            rcases HQ.out with h | ⟨b, o, rfl, hc⟩
            · subst h; simp at h1
            have bW : ∀ W, Grew w W → W.rangeAt b (o + j * 2) x.cells := fun W g => range_grew (hc j x hx) g
            have hnx := sum_next hx
            have f1 : decide (j < m.length) = true := decide_eq_true h1
            have f2 : decide (j < 50) = true := decide_eq_true h2
            have f3 : decide ((j : Int) < (m.length : Int)) = true := decide_eq_true (by omega)
            have f4 : decide ((j : Int) < 50) = true := decide_eq_true (by omega)
            have w1 : IntKind.i64.wrap ((T : Int) + (x.a.size : Int)) = (T : Int) + (x.a.size : Int) := IntWalk.i64_in _ (by omega)
            have w2 : IntKind.i64.wrap ((T : Int) + (x.a.size : Int) + (x.b.size : Int)) = (T : Int) + (x.a.size : Int) + (x.b.size : Int) := IntWalk.i64_in _ (by omega)
            have hTn : Hid (T + x.a.size + x.b.size = S + sumW (m.take (j + 1))) := by unfold Hid; rw [hnx, hTe.out]; omega
            clear hc hnx hx hTe
            go_wp2_with fail
            refine wp_region_held_drew (S := fun w' => Grew w w') (by kernel_rfl) (by (first | assumption | exact Below.drew (by assumption))) (fun hHeld => ?_)
            first
              | (refine wpAnyH_take (i := 0) (v := ?_) rfl (by kernel_rfl) (by kernel_rfl) (by kernel_rfl) (fun _ _ _ h => h) (Or.inl ⟨by rfl, ?_⟩) (by assumption) ?_; rotate_left 1; focus (intro w hSw; (obtain ⟨hs3, hs4⟩ := two_range (bW _ hSw)); go_simp; (try with_reducible rfl)))
              | fail
            try simp only [Act.put, List.getElem_toArray, List.getElem_cons_succ, List.getElem_cons_zero, List.setIfInBounds_toArray, List.set_cons_zero, List.set_cons_succ]
            first
              | (refine wpAnyH_take (i := 1) (v := ?_) rfl (by kernel_rfl) (by kernel_rfl) (by kernel_rfl) (fun _ _ _ h => h) (Or.inl ⟨by rfl, ?_⟩) (by assumption) ?_; rotate_left 1; focus (intro w hSw; (obtain ⟨hs3, hs4⟩ := two_range (bW _ hSw)); go_simp; (try with_reducible rfl)))
              | fail
            try simp only [Act.put, List.getElem_toArray, List.getElem_cons_succ, List.getElem_cons_zero, List.setIfInBounds_toArray, List.set_cons_zero, List.set_cons_succ]
            first
              | (refine wpAnyH_take (i := 2) (v := ?_) rfl (by kernel_rfl) (by kernel_rfl) (by kernel_rfl) (fun _ _ _ h => h) (Or.inl ⟨by rfl, ?_⟩) (by assumption) ?_; rotate_left 1; focus (intro w hSw; (obtain ⟨hs3, hs4⟩ := two_range (bW _ hSw)); go_simp; (try with_reducible rfl)))
              | fail
            try simp only [Act.put, List.getElem_toArray, List.getElem_cons_succ, List.getElem_cons_zero, List.setIfInBounds_toArray, List.set_cons_zero, List.set_cons_succ]
            first
              | (refine wpAnyH_take (i := 3) (v := ?_) rfl (by kernel_rfl) (by kernel_rfl) (by kernel_rfl) (fun _ _ _ h => h) (Or.inl ⟨by rfl, ?_⟩) (by assumption) ?_; rotate_left 1; focus (intro w hSw; (obtain ⟨hs3, hs4⟩ := two_range (bW _ hSw)); go_simp; (try with_reducible rfl)))
              | fail
            try simp only [Act.put, List.getElem_toArray, List.getElem_cons_succ, List.getElem_cons_zero, List.setIfInBounds_toArray, List.set_cons_zero, List.set_cons_succ]
            first
              | (refine wpAnyH_take (i := 4) (v := ?_) rfl (by kernel_rfl) (by kernel_rfl) (by kernel_rfl) (fun _ _ _ h => h) (Or.inl ⟨by rfl, ?_⟩) (by assumption) ?_; rotate_left 1; focus (intro w hSw; (obtain ⟨hs3, hs4⟩ := two_range (bW _ hSw)); go_simp; (try with_reducible rfl)))
              | fail
            try simp only [Act.put, List.getElem_toArray, List.getElem_cons_succ, List.getElem_cons_zero, List.setIfInBounds_toArray, List.set_cons_zero, List.set_cons_succ]
            first
              | (refine wpAnyH_take (i := 5) (v := ?_) rfl (by kernel_rfl) (by kernel_rfl) (by kernel_rfl) (fun _ _ _ h => h) (Or.inl ⟨by rfl, ?_⟩) (by assumption) ?_; rotate_left 1; focus (intro w hSw; (obtain ⟨hs3, hs4⟩ := two_range (bW _ hSw)); go_simp; (try with_reducible rfl)))
              | fail
            try simp only [Act.put, List.getElem_toArray, List.getElem_cons_succ, List.getElem_cons_zero, List.setIfInBounds_toArray, List.set_cons_zero, List.set_cons_succ]
            first
              | (refine wpAnyH_take (i := 6) (v := ?_) rfl (by kernel_rfl) (by kernel_rfl) (by kernel_rfl) (fun _ _ _ h => h) (Or.inl ⟨by rfl, ?_⟩) (by assumption) ?_; rotate_left 1; focus (intro w hSw; (obtain ⟨hs3, hs4⟩ := two_range (bW _ hSw)); go_simp; (try with_reducible rfl)))
              | fail
            try simp only [Act.put, List.getElem_toArray, List.getElem_cons_succ, List.getElem_cons_zero, List.setIfInBounds_toArray, List.set_cons_zero, List.set_cons_succ]
            first
              | (refine wpAnyH_take (i := 7) (v := ?_) rfl (by kernel_rfl) (by kernel_rfl) (by kernel_rfl) (fun _ _ _ h => h) (Or.inl ⟨by rfl, ?_⟩) (by assumption) ?_; rotate_left 1; focus (intro w hSw; (obtain ⟨hs3, hs4⟩ := two_range (bW _ hSw)); go_simp; (try with_reducible rfl)))
              | fail
            try simp only [Act.put, List.getElem_toArray, List.getElem_cons_succ, List.getElem_cons_zero, List.setIfInBounds_toArray, List.set_cons_zero, List.set_cons_succ]
            first
              | (refine wpAnyH_take (i := 8) (v := ?_) rfl (by kernel_rfl) (by kernel_rfl) (by kernel_rfl) (fun _ _ _ h => h) (Or.inl ⟨by rfl, ?_⟩) (by assumption) ?_; rotate_left 1; focus (intro w hSw; (obtain ⟨hs3, hs4⟩ := two_range (bW _ hSw)); go_simp; (try with_reducible rfl)))
              | fail
            try simp only [Act.put, List.getElem_toArray, List.getElem_cons_succ, List.getElem_cons_zero, List.setIfInBounds_toArray, List.set_cons_zero, List.set_cons_succ]
            first
              | (refine wpAnyH_take (i := 9) (v := ?_) rfl (by kernel_rfl) (by kernel_rfl) (by kernel_rfl) (fun _ _ _ h => h) (Or.inl ⟨by rfl, ?_⟩) (by assumption) ?_; rotate_left 1; focus (intro w hSw; (obtain ⟨hs3, hs4⟩ := two_range (bW _ hSw)); go_simp; (try with_reducible rfl)))
              | fail
            try simp only [Act.put, List.getElem_toArray, List.getElem_cons_succ, List.getElem_cons_zero, List.setIfInBounds_toArray, List.set_cons_zero, List.set_cons_succ]
            first
              | (refine wpAnyH_take (i := 10) (v := ?_) rfl (by kernel_rfl) (by kernel_rfl) (by kernel_rfl) (fun _ _ _ h => h) (Or.inl ⟨by rfl, ?_⟩) (by assumption) ?_; rotate_left 1; focus (intro w hSw; (obtain ⟨hs3, hs4⟩ := two_range (bW _ hSw)); go_simp; (try with_reducible rfl)))
              | fail
            try simp only [Act.put, List.getElem_toArray, List.getElem_cons_succ, List.getElem_cons_zero, List.setIfInBounds_toArray, List.set_cons_zero, List.set_cons_succ]
            first
              | (refine wpAnyH_take (i := 11) (v := ?_) rfl (by kernel_rfl) (by kernel_rfl) (by kernel_rfl) (fun _ _ _ h => h) (Or.inl ⟨by rfl, ?_⟩) (by assumption) ?_; rotate_left 1; focus (intro w hSw; (obtain ⟨hs3, hs4⟩ := two_range (bW _ hSw)); go_simp; (try with_reducible rfl)))
              | fail
            try simp only [Act.put, List.getElem_toArray, List.getElem_cons_succ, List.getElem_cons_zero, List.setIfInBounds_toArray, List.set_cons_zero, List.set_cons_succ]
            first
              | (refine wpAnyH_take (i := 12) (v := ?_) rfl (by kernel_rfl) (by kernel_rfl) (by kernel_rfl) (fun _ _ _ h => h) (Or.inl ⟨by rfl, ?_⟩) (by assumption) ?_; rotate_left 1; focus (intro w hSw; (obtain ⟨hs3, hs4⟩ := two_range (bW _ hSw)); go_simp; (try with_reducible rfl)))
              | fail
            try simp only [Act.put, List.getElem_toArray, List.getElem_cons_succ, List.getElem_cons_zero, List.setIfInBounds_toArray, List.set_cons_zero, List.set_cons_succ]
            first
              | (refine wpAnyH_take (i := 13) (v := ?_) rfl (by kernel_rfl) (by kernel_rfl) (by kernel_rfl) (fun _ _ _ h => h) (Or.inl ⟨by rfl, ?_⟩) (by assumption) ?_; rotate_left 1; focus (intro w hSw; (obtain ⟨hs3, hs4⟩ := two_range (bW _ hSw)); go_simp; (try with_reducible rfl)))
              | fail
            try simp only [Act.put, List.getElem_toArray, List.getElem_cons_succ, List.getElem_cons_zero, List.setIfInBounds_toArray, List.set_cons_zero, List.set_cons_succ]
            first
              | (refine wpAnyH_take (i := 14) (v := ?_) rfl (by kernel_rfl) (by kernel_rfl) (by kernel_rfl) (fun _ _ _ h => h) (Or.inl ⟨by rfl, ?_⟩) (by assumption) ?_; rotate_left 1; focus (intro w hSw; (obtain ⟨hs3, hs4⟩ := two_range (bW _ hSw)); go_simp; (try with_reducible rfl)))
              | fail
            try simp only [Act.put, List.getElem_toArray, List.getElem_cons_succ, List.getElem_cons_zero, List.setIfInBounds_toArray, List.set_cons_zero, List.set_cons_succ]
            first
              | (refine wpAnyH_take (i := 15) (v := ?_) rfl (by kernel_rfl) (by kernel_rfl) (by kernel_rfl) (fun _ _ _ h => h) (Or.inl ⟨by rfl, ?_⟩) (by assumption) ?_; rotate_left 1; focus (intro w hSw; (obtain ⟨hs3, hs4⟩ := two_range (bW _ hSw)); go_simp; (try with_reducible rfl)))
              | fail
            try simp only [Act.put, List.getElem_toArray, List.getElem_cons_succ, List.getElem_cons_zero, List.setIfInBounds_toArray, List.set_cons_zero, List.set_cons_succ]
            refine wpAnyH_done (by kernel_rfl) ?_ _
            go_wp2
            go_roundw
            case rel => exact ⟨j + 1, T + x.a.size + x.b.size, by push_cast; rfl, by go_num, by omega, by omega, by omega, hTn, by first | assumption | exact Below.drew (by assumption)⟩
            case measure => simp [intOf]; omega
          · have hlt' : ¬ j < m.length ∨ (j < m.length ∧ ¬ j < 50) := by omega
            have hall2 : Hid (m.length < 50 → S + sumW m = T) := fun h => by
              have : j = m.length := by omega
              rw [hTe.out, this, List.take_length]
            clear hTe hlt
            have e1 : decide (l.length < 50) = false ∨ (decide (l.length < 50) = true ∧ decide (m.length < 50) = false) ∨ (decide (l.length < 50) = true ∧ decide (m.length < 50) = true ∧ decide (T < 3000) = false) ∨ (decide (l.length < 50) = true ∧ decide (m.length < 50) = true ∧ decide (T < 3000) = true) := by
              cases decide (l.length < 50) <;> cases decide (m.length < 50) <;> cases decide (T < 3000) <;> simp
            have c1 : decide ((l.length : Int) < 50) = decide (l.length < 50) := decide_eq_decide.2 (by omega)
            have c2 : decide ((m.length : Int) < 50) = decide (m.length < 50) := decide_eq_decide.2 (by omega)
            have c3 : decide ((T : Int) < 3000) = decide (T < 3000) := decide_eq_decide.2 (by omega)
            have hfin : Hid (decide (l.length < 50) = true → decide (m.length < 50) = true → decide (T < 3000) = true → l.length < 50 ∧ m.length < 50 ∧ t.size < 3000 ∧ (∀ x ∈ l, SizesLe 3000 x) ∧ (∀ x ∈ m, SizesLe 3000 x)) := by
              intro a1 a2 a3
              have a1 := of_decide_eq_true a1
              have a2 := of_decide_eq_true a2
              have a3 := of_decide_eq_true a3
              have b1 := hall.out a1
              have b2 := hall2.out a2
              refine ⟨a1, a2, by omega, fun x hx => ?_, fun x hx => ?_⟩
              · have := sum_mem l x hx; exact ⟨by omega, by omega⟩
              · have := sum_mem m x hx; exact ⟨by omega, by omega⟩
            clear hall2
            rcases hlt' with h1 | ⟨h1, h2⟩
            all_goals
              first
                | (have f1 : decide (j < m.length) = false := decide_eq_false h1
                   have f3 : decide ((j : Int) < (m.length : Int)) = false := decide_eq_false (by omega))
                | (have f1 : decide (j < m.length) = true := decide_eq_true h1
                   have f2 : decide (j < 50) = false := decide_eq_false h2
                   have f3 : decide ((j : Int) < (m.length : Int)) = true := decide_eq_true (by omega)
                   have f4 : decide ((j : Int) < 50) = false := decide_eq_false (by omega))
              rcases e1 with a1 | ⟨a1, a2⟩ | ⟨a1, a2, a3⟩ | ⟨a1, a2, a3⟩
              all_goals
                rw [a1] at c1
                try rw [a2] at c2
                try rw [a3] at c3
                go_wp2
                go_ret
                first
                  | exact ⟨⟨_, rfl, fun _ => hfin.out a1 a2 a3⟩, hb⟩
                  | exact ⟨⟨false, rfl, fun e => Bool.noConfusion e⟩, hb⟩

end Go.Proofs.YtkdmhflcpfekfaaDoor

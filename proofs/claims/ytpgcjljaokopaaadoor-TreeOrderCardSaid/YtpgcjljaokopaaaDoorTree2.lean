/- tree.word, tree.Name and the reference's Name: which names an item may have. Conditions: the library's tables are laid, at most 2^30 bytes. -/
import Derived.Test.YtpgcjljaokopaaaDoorTree1
import Derived.Test.YtpgcjljaokopaaaDoorRunes
namespace Go.Proofs.YtpgcjljaokopaaaDoor
set_option linter.unusedVariables false
set_option linter.unusedSimpArgs false
open Go.RowKit

set_option maxRecDepth 100000 in
set_option maxHeartbeats 1000000 in
theorem tree_word (k : Int) (w : World) :
    Calls Tryd.prog 33 #[.int .i64 k] w fun e w' => e = .returned (.string ⟨(Pure.wordM k).toArray⟩) ∧ w' = w := by
  have hw : Pure.wordM k = if (k == 1) = true then [49, 48, 48, 54, 52, 52] else if (k == 2) = true then [49, 48, 48, 55, 53, 53] else if (k == 3) = true then [49, 50, 48, 48, 48, 48] else if (k == 4) = true then [52, 48, 48, 48, 48] else [] := by unfold Pure.wordM; simp only [beq_iff_eq]
  rw [hw]
  clear hw
  cases h1 : (k == 1) <;> cases h2 : (k == 2) <;> cases h3 : (k == 3) <;> cases h4 : (k == 4)
  all_goals
    go_enter Tryd.func33, Tryd.ntmps33
    go_wp2
    go_ret
    exact ⟨rfl, rfl⟩

theorem any_skip (s : ByteArray) (pos : Nat) (hp : pos < s.size) (hh : 128 ≤ (s[pos]'hp).toNat) : (s.data.toList.drop pos).any (· == 47) = (s.data.toList.drop (pos + (Utf8.decode s pos).2)).any (· == 47) := by
  have hb := Pure.decode_bytes s pos hp hh
  conv => lhs; rw [← List.take_append_drop (Utf8.decode s pos).2 (s.data.toList.drop pos), List.any_append, List.drop_drop]
  have : ((s.data.toList.drop pos).take (Utf8.decode s pos).2).any (· == 47) = false := by
    rw [List.any_eq_false]
    intro c hc e
    have h1 := hb c hc
    rw [beq_iff_eq] at e
    subst e
    exact absurd h1 (by decide)
  rw [this, Bool.false_or]

set_option maxRecDepth 100000 in
set_option maxHeartbeats 1000000 in
theorem tree_Name (s : ByteArray) (w : World) (hs : s.size ≤ 1073741824) (hm : MaxOk w) (hu : U8Ok w) (hF : FoldOk w) :
    Calls Tryd.prog 10 #[.string s] w fun e w' => e = .returned (.bool (Pure.nameI s.data.toList)) ∧ Grew w w' := by
  have cP := (fun W (g : Grew w W) => quote_Path s W hs (hm.grew g) (u8_grew hu g) (hF.grew g))
  obtain ⟨B, hB⟩ : ∃ B, Pure.pathP s.data.toList = B := ⟨_, rfl⟩
  obtain ⟨A, hA⟩ : ∃ A, s.data.toList.any (· == 47) = A := ⟨_, rfl⟩
  have hn : Pure.nameI s.data.toList = (B && !A) := by unfold Pure.nameI; rw [hB, hA]
  rw [hn]
  simp only [hB] at cP
  have hsl : s.data.toList.length = s.size := Array.length_toList
  have HSL := Lib.hid hsl
  have HA := Lib.hid hA.symm
  clear hn hB hm hu hF hsl hA
  go_enter Tryd.func10, Tryd.ntmps10
  go_wp2
  go_loopw [] (fun wr => ∃ pos : Nat, wr.heap[w.heap.size]? = some (.stringIter s pos) ∧ Grew w wr ∧ Hid (A = (s.data.toList.drop pos).any (· == 47))) (fun wr => s.size - wr.iterPos w.heap.size)
  case atStart => exact ⟨0, by simpa using World.iter_heap w s 0, (Below.refl _ w).alloc (Nat.le_refl _) _, by rw [List.drop_zero]; exact HA⟩
  case round =>
    obtain ⟨pos, hit, hb, hal⟩ := hrel
    by_cases hp : pos < s.size
    · have hnx : ∀ ty, (Instr.next (.pointer (some ⟨w.heap.size, 0, none⟩)) true ty).run Tryd.prog wr = _ := fun ty => Lib.run_next_any_at wr w.heap.size s pos ty hit hp
      by_cases ha : (s[pos]'hp).toNat < 128
      · have hd := decode_ascii s pos hp ha
        have hit2 := Lib.iterAt_heap wr w.heap.size s pos (pos + (Utf8.decode s pos).2) hit
        have hb2 := Lib.below_iterAt hb (k := w.heap.size) (Nat.le_refl _) s (pos + (Utf8.decode s pos).2)
        rw [hd] at hnx hit2 hb2
        simp only at hnx hit2 hb2
        generalize hW : wr.iterAt w.heap.size s (pos + 1) = W at *
        have hdrop : s.data.toList.drop pos = (s[pos]'hp) :: s.data.toList.drop (pos + 1) := by
          rw [List.drop_eq_getElem_cons (by simpa using hp)]; congr 1
        have hal2 := hal.out
        rw [hdrop, List.any_cons] at hal2
        have hq : ((s[pos]'hp) == 47) = (((s[pos]'hp).toNat : Int) == 47) := by
          rw [Bool.eq_iff_iff, beq_iff_eq, beq_iff_eq]
          constructor
          · intro h; rw [h]; rfl
          · intro h; exact UInt8.toNat_inj.1 (by show _ = 47; omega)
        rw [hq] at hal2
        obtain ⟨x, hx⟩ : ∃ x : Int, ((s[pos]'hp).toNat : Int) = x := ⟨_, rfl⟩
        rw [hx] at hnx hal2
        have HAL := Lib.hid hal2
        clear hd hx hb hdrop hal2 hal ha hq
        cases hxx : (x == 47) with
        | true =>
          go_wp2
          go_ret
          exact ⟨by rw [HAL.out, hxx]; simp, hb2⟩
        | false =>
          go_wp2
          go_roundw
          case rel => exact ⟨pos + 1, hit2, hb2, by have := HAL.out; rw [hxx] at this; unfold Hid; rw [this]; simp⟩
          case measure =>
            simp only [World.iterPos, hit2, hit]
            omega
      · have hh : 128 ≤ (s[pos]'hp).toNat := by omega
        have hit2 := Lib.iterAt_heap wr w.heap.size s pos (pos + (Utf8.decode s pos).2) hit
        have hb2 := Lib.below_iterAt hb (k := w.heap.size) (Nat.le_refl _) s (pos + (Utf8.decode s pos).2)
        have hal2 := hal.out
        rw [any_skip s pos hp hh] at hal2
        have HAL := Lib.hid hal2
        have hr0 := (decode_high s pos hp hh).1
        have hwd := (decode_high s pos hp hh).2
        generalize Utf8.decode s pos = d at *
        generalize hW : wr.iterAt w.heap.size s (pos + d.2) = W at *
        have hne : ((d.1 : Int) == 47) = false := by rw [beq_eq_false_iff_ne]; omega
        clear hal2 hal hb hh ha
        go_wp2
        go_roundw
        case rel => exact ⟨pos + d.2, hit2, hb2, HAL⟩
        case measure =>
          simp only [World.iterPos, hit2, hit]
          omega
    · have hnx : ∀ ty, (Instr.next (.pointer (some ⟨w.heap.size, 0, none⟩)) true ty).run Tryd.prog wr = _ := fun ty => Lib.run_next_end_at wr w.heap.size s pos ty hit hp
      have hal2 := hal.out
      rw [List.drop_eq_nil_of_le (by have := HSL.out; omega)] at hal2
      have HAL := Lib.hid hal2
      clear hal2 hal
      go_wp2_with (first | (go_at_call 27; with_reducible refine (cP _ (by assumption)).mono ?_; rintro e1 W1 ⟨rfl, g1⟩; replace g1 := Grew.trans' (a := w) (by assumption) g1))
      go_ret
      exact ⟨by rw [HAL.out]; simp, by assumption⟩

theorem find_slash (l : List UInt8) : decide (Lib.index l [47] < 0) = !(l.any (· == 47)) := by
  rw [Lib.index_one]
  cases h : l.any (· == 47) with
  | true =>
    rw [List.any_eq_true] at h
    obtain ⟨c, hc, e⟩ := h
    rw [beq_iff_eq] at e
    subst e
    obtain ⟨j, hj⟩ := List.mem_iff_getElem?.1 hc
    have h1 : -1 ≤ Lib.indexByte l 47 := by rw [← Lib.index_one]; exact Lib.index_ge _ _
    have : Lib.indexByte l 47 ≠ -1 := fun e => Lib.indexByte_none e j hj
    simp
    omega
  | false =>
    simp
    apply Classical.byContradiction
    intro hn
    obtain ⟨i, hi⟩ := Int.eq_ofNat_of_zero_le (by omega : 0 ≤ Lib.indexByte l 47)
    have := (Lib.indexByte_some hi).1
    rw [List.any_eq_false] at h
    exact h 47 (List.mem_of_getElem? this) (by simp)

set_option maxRecDepth 100000 in
set_option maxHeartbeats 1000000 in
theorem ref08_Name (s : ByteArray) (w : World) (hs : s.size ≤ 1073741824) (hu : U8Ok w) :
    Calls Tryd.prog 11 #[.string s] w fun e w' => e = .returned (.bool (Pure.nameI s.data.toList)) ∧ Grew w w' := by
  have g0 : Grew w w := Below.refl _ _
  have cP := (fun W (g : Grew w W) => ref_Path s W hs (u8_grew hu g))
  have cF := (fun W (g : Grew w W) => help_Find s ⟨#[47]⟩ W (by omega) (by decide) (by decide))
  obtain ⟨B, hB⟩ : ∃ B, Pure.pathP s.data.toList = B := ⟨_, rfl⟩
  obtain ⟨F, hF⟩ : ∃ F, Lib.index s.data.toList [47] = F := ⟨_, rfl⟩
  have hn : Pure.nameI s.data.toList = (B && decide (F < 0)) := by
    unfold Pure.nameI
    rw [hB, ← find_slash, hF]
  rw [hn]
  simp only [hB] at cP
  simp only [hF] at cF
  clear hn hB hF hu
  cases B with
  | false =>
    go_enter Tryd.func11, Tryd.ntmps11
    go_wp2_with (first | (go_at_call 28; with_reducible refine (cP _ (by assumption)).mono ?_; rintro e1 W1 ⟨rfl, g1⟩; replace g1 := Grew.trans' (a := w) (by assumption) g1))
    go_ret
    exact ⟨rfl, by assumption⟩
  | true =>
    go_enter Tryd.func11, Tryd.ntmps11
    go_wp2_with (first | (go_at_call 28; with_reducible refine (cP _ (by assumption)).mono ?_; rintro e1 W1 ⟨rfl, g1⟩; replace g1 := Grew.trans' (a := w) (by assumption) g1) | (go_at_call 29; with_reducible refine (cF _ (by assumption)).mono ?_; rintro e1 W1 ⟨rfl, h1⟩; subst W1))
    go_ret
    exact ⟨by simp, by assumption⟩

end Go.Proofs.YtpgcjljaokopaaaDoor

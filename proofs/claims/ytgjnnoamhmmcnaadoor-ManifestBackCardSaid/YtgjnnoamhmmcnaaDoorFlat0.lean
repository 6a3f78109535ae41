/- flat.folders. Conditions: at most 2^30 bytes. -/
import Derived.Test.YtgjnnoamhmmcnaaDoorPure16
import Derived.Test.YtgjnnoamhmmcnaaDoorM1
import Derived.Test.YtgjnnoamhmmcnaaDoorRunes
namespace Go.Proofs.YtgjnnoamhmmcnaaDoor
set_option linter.unusedVariables false
set_option linter.unusedSimpArgs false
open Go.RowKit

theorem foldA_nil (pre : List UInt8) : foldA pre [] = [] := rfl
theorem foldA_cons (pre : List UInt8) (c : UInt8) (r : List UInt8) : foldA pre (c :: r) = if c = 47 then pre :: foldA (pre ++ [c]) r else foldA (pre ++ [c]) r := rfl
theorem fold_skip : ∀ (a pre r : List UInt8), (∀ c ∈ a, c ≠ 47) → foldA pre (a ++ r) = foldA (pre ++ a) r
  | [], pre, r, _ => by simp
  | c :: a, pre, r, h => by
    have hc := h c (by simp)
    rw [List.cons_append]
    conv => lhs; unfold foldA
    rw [if_neg hc, fold_skip a (pre ++ [c]) r (fun d hd => h d (by simp [hd]))]
    simp

set_option maxRecDepth 100000 in
set_option maxHeartbeats 1000000 in
theorem flat_folders (s : ByteArray) (w : World) (hs : s.size ≤ 1073741824) :
    Calls Tryd.prog 45 #[.string s] w fun e w' => ∃ v l, e = .returned v ∧ l.map (fun x => x.data.toList) = foldA [] s.data.toList ∧ OwnG kStr w' w.heap.size v l ∧ Grew w w' := by
  have hsl : s.data.toList.length = s.size := Array.length_toList
  have HSL := Lib.hid hsl
  clear hsl
  go_enter Tryd.func45, Tryd.ntmps45
  go_wp2
  go_loopw [3] (fun vv wr => ∃ (pos : Nat) (v : Value) (ds : List ByteArray), v = vv ∧ wr.heap[w.heap.size]? = some (.stringIter s pos) ∧ ds.length ≤ pos ∧ Grew w wr ∧ OwnG kStr wr (w.heap.size + 1) v ds ∧ Hid (foldA [] s.data.toList = ds.map (fun x => x.data.toList) ++ foldA (s.data.toList.take pos) (s.data.toList.drop pos))) (fun _ wr => s.size - wr.iterPos w.heap.size)
  case atStart => exact ⟨0, _, [], rfl, by simpa using World.iter_heap w s 0, by simp, (Below.refl _ w).alloc (Nat.le_refl _) _, OwnG.nil _ _ _, by simp [Hid]⟩
  case round =>
    obtain ⟨pos, v, ds, rfl, hit, hds, hb, hown, hal⟩ := hrel
    by_cases hp : pos < s.size
    · have hnx : ∀ ty, (Instr.next (.pointer (some ⟨w.heap.size, 0, none⟩)) true ty).run Tryd.prog wr = _ := fun ty => Lib.run_next_any_at wr w.heap.size s pos ty hit hp
      by_cases ha : (s[pos]'hp).toNat < 128
      · have hd := decode_ascii s pos hp ha
        have hit2 := Lib.iterAt_heap wr w.heap.size s pos (pos + (Utf8.decode s pos).2) hit
        have hb2 := Lib.below_iterAt hb (k := w.heap.size) (Nat.le_refl _) s (pos + (Utf8.decode s pos).2)
        have hown2 := hown.iterAt hit (Nat.lt_succ_self _) (pos + (Utf8.decode s pos).2)
        rw [hd] at hnx hit2 hb2 hown2
        simp only at hnx hit2 hb2 hown2
        generalize hW : wr.iterAt w.heap.size s (pos + 1) = W at *
        have hdrop : s.data.toList.drop pos = (s[pos]'hp) :: s.data.toList.drop (pos + 1) := by
          rw [List.drop_eq_getElem_cons (by simpa using hp)]; congr 1
        have htake : s.data.toList.take (pos + 1) = s.data.toList.take pos ++ [s[pos]'hp] := by
          rw [List.take_succ_eq_append_getElem (by simpa using hp)]; congr 1
        have hal2 := hal.out
        rw [hdrop] at hal2
        rw [foldA_cons] at hal2
        have hq : ((s[pos]'hp) = 47) ↔ (((s[pos]'hp).toNat : Int) == 47) = true := by
          rw [beq_iff_eq]
          constructor
          · intro h; rw [h]; rfl
          · intro h; exact UInt8.toNat_inj.1 (by show _ = 47; omega)
        rw [← htake] at hal2
        obtain ⟨x, hx⟩ : ∃ x : Int, ((s[pos]'hp).toNat : Int) = x := ⟨_, rfl⟩
        rw [hx] at hnx hq
        have HAL := Lib.hid hal2
        have HQ := Lib.hid hq
        clear hd hx hb hdrop hal2 hal ha hq htake hown
        cases hxx : (x == 47) with
        | true =>
          have hfin := HAL.out
          rw [if_pos (HQ.out.2 hxx)] at hfin
          have HF := Lib.hid hfin
          clear hfin
          obtain ⟨T, hT⟩ : ∃ T, s.extract 0 pos = T := ⟨_, rfl⟩
          have hTl : T.data.toList = s.data.toList.take pos := by rw [← hT, ByteArray.data_extract]; simp
          have hgA : Grew W (W.alloc (.cells #[.string T] 9)) := (Below.refl _ _).alloc (Nat.le_refl _) _
          have hrA : (W.alloc (.cells #[.string T] 9)).rangeAt W.heap.size 0 (kStr.cells T) := by
            have := range_row (heap_alloc_new W (.cells #[.string T] 9))
            exact this
          have hsA := Nat.lt_of_lt_of_le (Array.getElem?_eq_some_iff.1 hit2).1 hgA.size
          have hitA := (hgA.block _ (Array.getElem?_eq_some_iff.1 hit2).1).trans hit2
          have hownA := hown2.below hgA
          have gA := Grew.trans' (hb2 : Grew w W) hgA
          have HTL := Lib.hid hTl
          have HOA := Lib.hid hownA
          have HRA := Lib.hid hrA
          clear hTl hownA hrA hown2
          go_wp2_with (at_builtin; refine wpList_append_G kStr rfl _ _ rfl (w.heap.size + 1) v ds T W.heap.size rfl rfl HOA.out trivial HRA.out hsA (by omega) ?_)
          intro v4 W4 hown4 hb4 hg4
          have hit4 := (hb4.block w.heap.size (Nat.lt_succ_self _)).trans hitA
          go_wp2
          go_roundw
          case rel =>
            refine ⟨pos + 1, v4, ds ++ [T], rfl, hit4, by rw [List.length_append]; show _ + 1 ≤ _; omega, Below.trans gA (hb4.mono (Nat.le_succ _)), hown4, ?_⟩
            have := HF.out
            unfold Hid
            rw [this, List.map_append, List.map_singleton, HTL.out]
            simp
          case measure =>
            simp only [World.iterPos, hit4, hit]
            omega
        | false =>
          have hfin := HAL.out
          rw [if_neg (fun h => by have := HQ.out.1 h; rw [hxx] at this; cases this)] at hfin
          go_wp2
          go_roundw
          case rel => exact ⟨pos + 1, _, ds, rfl, hit2, by omega, hb2, hown2, hfin⟩
          case measure =>
            simp only [World.iterPos, hit2, hit]
            omega
      · have hh : 128 ≤ (s[pos]'hp).toNat := by omega
        have hit2 := Lib.iterAt_heap wr w.heap.size s pos (pos + (Utf8.decode s pos).2) hit
        have hb2 := Lib.below_iterAt hb (k := w.heap.size) (Nat.le_refl _) s (pos + (Utf8.decode s pos).2)
        have hown2 := hown.iterAt hit (Nat.lt_succ_self _) (pos + (Utf8.decode s pos).2)
        have hal2 := hal.out
        have hby := Pure.decode_bytes s pos hp hh
        have hstep : foldA (s.data.toList.take pos) (s.data.toList.drop pos) = foldA (s.data.toList.take (pos + (Utf8.decode s pos).2)) (s.data.toList.drop (pos + (Utf8.decode s pos).2)) := by
          conv => lhs; rw [← List.take_append_drop (Utf8.decode s pos).2 (s.data.toList.drop pos), List.drop_drop]
          rw [fold_skip _ _ _ (fun c hc e => by have := hby c hc; subst e; exact absurd this (by decide)), List.take_add]
        rw [hstep] at hal2
        have HAL := Lib.hid hal2
        have hr0 := (decode_high s pos hp hh).1
        have hwd := (decode_high s pos hp hh).2
        generalize Utf8.decode s pos = d at *
        generalize hW : wr.iterAt w.heap.size s (pos + d.2) = W at *
        have hne : ((d.1 : Int) == 47) = false := by rw [beq_eq_false_iff_ne]; omega
        clear hal2 hal hb hh ha hby hstep hown
        go_wp2
        go_roundw
        case rel => exact ⟨pos + d.2, _, ds, rfl, hit2, by omega, hb2, hown2, HAL⟩
        case measure =>
          simp only [World.iterPos, hit2, hit]
          omega
    · have hnx : ∀ ty, (Instr.next (.pointer (some ⟨w.heap.size, 0, none⟩)) true ty).run Tryd.prog wr = _ := fun ty => Lib.run_next_end_at wr w.heap.size s pos ty hit hp
      have hal2 := hal.out
      rw [List.drop_eq_nil_of_le (by have := HSL.out; omega)] at hal2
      rw [foldA_nil, List.append_nil] at hal2
      have HAL := Lib.hid hal2
      have hown' := hown.base (Nat.le_succ _)
      clear hal2 hal
      go_wp2
      go_ret
      exact ⟨_, ds, rfl, HAL.out.symm, hown', hb⟩

end Go.Proofs.YtgjnnoamhmmcnaaDoor

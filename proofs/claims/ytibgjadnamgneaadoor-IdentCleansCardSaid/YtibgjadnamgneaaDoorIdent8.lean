/- ident.Clean: a text made clean. Conditions: the library's tables are laid; the text is at most 2^30 bytes long. -/
import Derived.Test.YtibgjadnamgneaaDoorIdent1
import Derived.Test.YtibgjadnamgneaaDoorPureClean2
import Derived.Test.YtibgjadnamgneaaDoorBuilder
import Derived.Lib.RuneCountTail
import Derived.Shelf.Unicode.DecodeAny
namespace Go.Proofs.YtibgjadnamgneaaDoor
set_option linter.unusedVariables false
set_option linter.unusedSimpArgs false
open Go.RowKit

/-- What only makes new blocks leaves a builder, and a text's iterator. -/
theorem builder_grewI {B b : Nat} {bs : List Value} {w w' : World} (h : Lib.IsBuilderF tB tU8 B b bs w) (hg : Grew w w') : Lib.IsBuilderF tB tU8 B b bs w' := by
  have key : ∀ p, Lib.BuilderAtF tB tU8 B b p bs w → Lib.BuilderAtF tB tU8 B b p bs w' := by
    rintro p ⟨hB, v, hb, ⟨hl, ho⟩, hne⟩
    refine ⟨hB, v, (hg.block _ (Array.getElem?_eq_some_iff.1 hb).1).trans hb, ⟨hl, ?_⟩, hne⟩
    rcases ho with ho | ⟨g, cap, cur, fz, hv, h1, h2, h3⟩
    · exact .inl ho
    · exact .inr ⟨g, cap, cur, fz, hv, h1, (hg.block _ (Array.getElem?_eq_some_iff.1 h2).1).trans h2, h3⟩
  exact h.imp (key _) (key _)
theorem builder_ltI {B b : Nat} {bs : List Value} {w : World} (h : Lib.IsBuilderF tB tU8 B b bs w) : b < w.heap.size := by
  rcases h with h | h <;> exact h.lt
theorem kept_iterI {b k : Nat} {s : ByteArray} {pos : Nat} {w w' : World} (hk : Lib.OthersKept tU8 (some b) w w') (hne : k ≠ b) (h : w.heap[k]? = some (.stringIter s pos)) : w'.heap[k]? = some (.stringIter s pos) :=
  hk k _ h (by simpa using hne) (fun _ _ e => nomatch e)
theorem grew_iter {k : Nat} {s : ByteArray} {pos : Nat} {w w' : World} (hg : Grew w w') (h : w.heap[k]? = some (.stringIter s pos)) : w'.heap[k]? = some (.stringIter s pos) :=
  (hg.block _ (Array.getElem?_eq_some_iff.1 h).1).trans h
theorem decode_tailI (s : ByteArray) (pos : Nat) (h : pos < s.size) : Lib.decodeGo (s.extract pos s.size) = Utf8.decode s pos := by
  unfold Lib.decodeGo
  rw [if_neg (by rw [Lib.tail_size]; omega), Lib.tail_decode, Nat.add_zero]
theorem decode_fitsI (s : ByteArray) (pos : Nat) (h : pos < s.size) : pos + (Utf8.decode s pos).2 ≤ s.size := by
  have := Lib.decodeGo_le_size (s.extract pos s.size)
  rw [decode_tailI s pos h, Lib.tail_size] at this
  omega
theorem extract_list (s : ByteArray) (a b : Nat) : (s.extract a b).data.toList = (s.data.toList.drop a).take (b - a) := by
  simp [List.drop_take]
theorem strCells_eq (s : ByteArray) : Lib.strCells s = Lib.byteCells s.data.toList := by
  simp [Lib.strCells, Lib.byteCells]

/-- What is still to come behind what was kept. -/
def Kept (s : List UInt8) (pos : Nat) (pre : List UInt8) : Prop := pre ++ Pure.filt (s.drop pos) = Pure.filt s ∧ pre.length ≤ pos
theorem Kept.step {s pre : List UInt8} {pos : Nat} (h : Kept s pos pre) (hp : pos < s.length) : Kept s (pos + (Lib.decodeL (s.drop pos)).2) (pre ++ (if Pure.keepU (s.drop pos) then (s.drop pos).take (Lib.decodeL (s.drop pos)).2 else [])) := by
  obtain ⟨h1, h2⟩ := h
  have hne : s.drop pos ≠ [] := by intro e; have := congrArg List.length e; simp at this; omega
  rw [Pure.filt_step _ hne, List.drop_drop] at h1
  refine ⟨by rw [List.append_assoc, h1], ?_⟩
  rw [List.length_append]
  have : (if Pure.keepU (s.drop pos) = true then (s.drop pos).take (Lib.decodeL (s.drop pos)).2 else []).length ≤ (Lib.decodeL (s.drop pos)).2 := by
    split
    · rw [List.length_take]; omega
    · simp
  omega
theorem Kept.last {s pre : List UInt8} {pos : Nat} (h : Kept s pos pre) (hp : ¬ pos < s.length) : pre = Pure.filt s := by
  have := h.1
  rw [List.drop_of_length_le (by omega), Pure.filt_nil, List.append_nil] at this
  exact this

set_option maxRecDepth 100000 in
set_option maxHeartbeats 4000000 in
theorem ident_Clean (s : ByteArray) (w : World) (hs : s.size ≤ 1073741824) (hu : U8Ok w) :
    Calls Tryd.prog 13 #[.string s] w fun e w' => e = .returned (.string ⟨(Pure.clean s.data.toList).toArray⟩) ∧ Grew w w' := by
  have hsl : s.data.toList.length = s.size := Array.length_toList
  have HSL := Lib.hid hsl
  have HU := Lib.hid hu
  clear hsl hu
  have hI0 := Lib.IsBuilderF.of (Lib.fresh_isBuilder tB tU8 w)
  have gW2 := (Below.refl _ _ : Grew w w).alloc (Nat.le_refl _) (.cells #[.pointer none, .slice none 0 0] tB)
  have hsz0 : w.heap.size ≤ w.heap.size := Nat.le_refl _
  go_enter Tryd.func13, Tryd.ntmps13
  go_wp2
  generalize hW2 : w.alloc (.cells #[.pointer none, .slice none 0 0] tB) = W2 at *
  have hbl := builder_ltI hI0
  obtain ⟨b, hbe⟩ : ∃ b, w.heap.size = b := ⟨_, rfl⟩
  rw [hbe] at hI0 hbl
  have hit : W2.heap.size = b + 1 := by rw [← hW2, ← hbe]; simp
  have hitb : b + 1 ≠ b := by omega
  have hitw : w.heap.size ≤ b + 1 := by omega
  have hbw : w.heap.size ≤ b := by omega
  rw [hbe]
  go_loopw [] (fun wr => ∃ (pos : Nat) (pre : List UInt8), pos ≤ s.size ∧ wr.heap[b + 1]? = some (.stringIter s pos) ∧ Lib.IsBuilderF tB tU8 b b (Lib.byteCells pre) wr ∧ Grew w wr ∧ Hid (Kept s.data.toList pos pre)) (fun wr => s.size - wr.iterPos (b + 1))
  case atStart =>
    rw [← hit]
    refine ⟨0, [], Nat.zero_le _, by simpa using World.iter_heap W2 s 0, ?_, (gW2.alloc gW2.size _), Lib.hid ⟨rfl, Nat.le_refl _⟩⟩
    exact (hI0.alloc _ : _)
  case round =>
    obtain ⟨pos, pre, hps, hi, hB, hg, hk⟩ := hrel
    clear hI0 gW2 hit hW2
    have hbl := builder_ltI hB
    by_cases hp : pos < s.size
    · have hnx : ∀ ty, (Instr.next (.pointer (some ⟨b + 1, 0, none⟩)) true ty).run Tryd.prog wr = _ := fun ty => Lib.run_next_any_at wr (b + 1) s pos ty hi hp
      have hf := decode_fitsI s pos hp
      have hdl := Lib.decodeL_drop s pos
      have hw1 := Lib.decodeL_width (s.data.toList.drop pos)
      have hks := hk.out.step (by rw [HSL.out]; exact hp)
      have cD0 := decode_tailI s pos hp
      have hpl := hk.out.2
      rw [hdl] at hw1 hks
      obtain ⟨x, n, hd⟩ : ∃ x n, Utf8.decode s pos = (x, n) := ⟨_, _, rfl⟩
      have hkeep : Pure.keepU (s.data.toList.drop pos) = (!(Pure.barR x) && !(decide (x = 65533 ∧ n = 1))) := by unfold Pure.keepU; rw [hdl, hd]
      rw [hkeep] at hks
      rw [hd] at hf hw1 hks cD0 hnx
      simp only at hf hw1 hks hnx
      have hit2 := Lib.iterAt_heap wr (b + 1) s pos (pos + n) hi
      have hb2 := Lib.below_iterAt hg (k := b + 1) hitw s (pos + n)
      have hB2 := hB.iterAt hi (pos + n)
      have hex : ∀ m, m = pos + n → (s.extract pos m).data.toList = (s.data.toList.drop pos).take n := by
        intro m hm; subst hm; rw [extract_list, Nat.add_sub_cancel_left]
      generalize hW : wr.iterAt (b + 1) s (pos + n) = W at *
      have hm0 : wr.iterPos (b + 1) = pos := by unfold World.iterPos; rw [hi]
      have gWW : Grew W W := Below.refl _ _
      have cD := (fun W' (g : Grew W W') => Tryd.utf8_DecodeRuneInString (s.extract pos s.size) W' (u8_grew HU.out (Grew.trans' hb2 g)) : ∀ W', Grew W W' → _)
      rw [cD0] at cD
      simp only at cD
      have cB := (fun W' (g : Grew W W') => ident_bad x W' : ∀ W', Grew W W' → _)
      have hbr : (x == 0 || x == 10 || x == 60 || x == 62) = Pure.barR x := rfl
      rw [hbr] at cB
      obtain ⟨B, hBe⟩ : ∃ B, Pure.barR x = B := ⟨_, rfl⟩
      rw [hBe] at cB hks
      have f1 : ((x : Int) == 65533) = decide (x = 65533) := by rw [Bool.eq_iff_iff]; simp; omega
      have f2 : ((n : Int) == 1) = decide (n = 1) := by rw [Bool.eq_iff_iff]; simp; omega
      have hdec : decide (x = 65533 ∧ n = 1) = (decide (x = 65533) && decide (n = 1)) := by rw [Bool.eq_iff_iff]; simp
      rw [hdec] at hks
      generalize decide (x = 65533) = X at *
      generalize decide (n = 1) = N at *
      have hpn : IntKind.i64.wrap ((pos : Int) + (n : Int)) = ((pos + n : Nat) : Int) := by rw [IntWalk.i64_in _ (by omega)]; omega
      have hfin : s.size - (pos + n) < s.size - pos := by omega
      have HKS := Lib.hid hks
      have HEX := Lib.hid hex
      clear hB hg hbl hks hd hkeep hdl hBe hbr hdec hk hex cD0
      cases B <;> cases X <;> cases N
      all_goals
        go_wp2_with (first | (go_at_call 24; with_reducible refine (cD _ (by assumption)).mono ?_; rintro e1 W1 ⟨rfl, g1⟩; replace g1 := Grew.trans' (a := W) (by assumption) g1) | (go_at_call 25; with_reducible refine (cB _ (by assumption)).mono ?_; rintro e1 W1 ⟨rfl, g1⟩; replace g1 := Grew.trans' (a := W) (by assumption) g1))
      all_goals
        have gW1 : Grew W W1 := by assumption
        have hB3 := builder_grewI hB2 gW1
        have hi3 := grew_iter gW1 hit2
        have hg3 : Grew w W1 := Grew.trans' hb2 gW1
        have hbl3 := builder_ltI hB3
        have hm3 : W1.iterPos (b + 1) = pos + n := by unfold World.iterPos; rw [hi3]
        first
          | (refine ⟨⟨pos + n, pre ++ [], hf, hi3, by simpa using hB3, hg3, Lib.hid (by have := HKS.out; simpa using this)⟩, by rw [hm3, hm0]; exact hfin⟩)
          | (clear cD cB
             go_wp2_with (go_at_call 26; with_reducible refine (writeString b b _ _ _ hB3 (by rw [Lib.byteCells_length]; have := Lib.size_eq (s.extract pos (pos + n)); rw [HEX.out _ rfl, List.length_take] at this; omega) (by omega)).mono ?_; rintro e W4 ⟨rfl, hI4, hb4, hk4⟩)
             have hi4 := kept_iterI hk4 hitb hi3
             have hm4 : W4.iterPos (b + 1) = pos + n := by unfold World.iterPos; rw [hi4]
             rw [strCells_eq, HEX.out _ rfl, ← Lib.byteCells_append] at hI4
             refine ⟨⟨pos + n, _, hf, hi4, hI4, hg3.trans (hb4.mono hbw), Lib.hid (by have := HKS.out; simpa using this)⟩, by rw [hm4, hm0]; exact hfin⟩)
    · have hpe : pos = s.size := by omega
      subst hpe
      have hlast := hk.out.last (by rw [HSL.out]; exact hp)
      have hnx : ∀ ty, (Instr.next (.pointer (some ⟨b + 1, 0, none⟩)) true ty).run Tryd.prog wr = _ := fun ty => Lib.run_next_end_at wr (b + 1) s s.size ty hi hp
      subst hlast
      obtain ⟨us, hU, hfl, hcl⟩ := Pure.clean_both s.data.toList
      have hft : (Pure.filt s.data.toList).length ≤ 1073741824 := by have := hk.out.2; omega
      have hfs : (⟨(Pure.filt s.data.toList).toArray⟩ : ByteArray).size ≤ 9223372036854775807 := by show (Pure.filt s.data.toList).toArray.size ≤ _; simp; omega
      have hTl : us.flatten.length ≤ 1073741824 := by
        rw [← hfl]
        have h1 := Pure.trimR_le (Pure.trimL (Pure.filt s.data.toList))
        have h2 := Pure.trimL_le (Pure.filt s.data.toList)
        omega
      have cT := fun W => Tryd.strings_Trim_one (⟨(Pure.filt s.data.toList).toArray⟩ : ByteArray) 32 (by decide) W hfs
      obtain ⟨T, hT⟩ : ∃ T : ByteArray, (⟨us.flatten.toArray⟩ : ByteArray) = T := ⟨_, rfl⟩
      have hTe : (⟨(Lib.trimB (⟨(Pure.filt s.data.toList).toArray⟩ : ByteArray).data.toList 32).toArray⟩ : ByteArray) = T := by rw [Pure.trimB_eq, ← hT, ← hfl]
      simp only [hTe] at cT
      have hTL : T.data.toList = us.flatten := by rw [← hT]
      have hTs : T.size = us.flatten.length := by rw [Lib.size_eq, hTL]
      go_wp2_with (first | (go_at_call 28; with_reducible refine (Tryd.Builder_String_any_k b b _ _ hB (by omega)).mono ?_; rintro e W4 ⟨rfl, -, hb4, -⟩) | (go_at_call 27; with_reducible refine (cT _).mono ?_; rintro e W5 ⟨rfl, h5⟩))
      have g45 : Grew W4 W5 := h5.elim (fun h => h ▸ Below.refl _ _) (fun h => h ▸ Below.drew (Below.refl _ _))
      have gw5 : Grew w W5 := Grew.trans' (hg.trans (hb4.mono hbw)) g45
      clear h5 g45 hb4 hB hi hg hnx hk hT hTe cT hfl hp hps
      have HTL := Lib.hid hTL
      have HU2 := Lib.hid hU
      clear hTL hU
      obtain ⟨jt, hjt⟩ : ∃ jt, W5.heap.size = jt := ⟨_, rfl⟩
      have hjw : w.heap.size ≤ jt := by have := gw5.size; omega
      rw [hjt]
      go_loopw [9] (fun ev wr => ∃ (us1 us2 : List (List UInt8)) (e : Nat), Value.int .i64 (e : Int) = ev ∧ us = us1 ++ us2 ∧ wr.heap[jt]? = some (.stringIter T us1.flatten.length) ∧ Grew w wr ∧ Hid (Pure.Upto us1 us2 e)) (fun _ wr => T.size - wr.iterPos jt)
      case atStart =>
        refine ⟨[], us, 0, rfl, rfl, ?_, (gw5.alloc gw5.size _), Lib.hid (Pure.Upto.start us)⟩
        rw [← hjt]
        simpa using World.iter_heap W5 T 0
      case round =>
        obtain ⟨us1, us2, e, rfl, hus, hi, hg, hup⟩ := hrel
        cases us2 with
        | nil =>
          have hpe : us1.flatten.length = T.size := by rw [hTs, hus, List.append_nil]
          rw [hpe] at hi
          have hnx : ∀ ty, (Instr.next (.pointer (some ⟨jt, 0, none⟩)) true ty).run Tryd.prog wr = _ := fun ty => Lib.run_next_end_at wr jt T T.size ty hi (by omega)
          have hle := hup.out.le
          have hlast := hup.out.last
          rw [← hus] at hle
          have heT : e ≤ T.size := by omega
          have hex : (T.extract 0 e).data.toList = (Pure.takeU 200 us1).flatten := by
            rw [extract_list, List.drop_zero, Nat.sub_zero, HTL.out, hus, List.append_nil]
            exact hlast
          have hfin : (⟨(Lib.trimRightB (T.extract 0 e).data.toList 32).toArray⟩ : ByteArray) = ⟨(Pure.clean s.data.toList).toArray⟩ := by
            rw [hex, Pure.trimRightB_eq, hcl, hus, List.append_nil]
          have hes : (T.extract 0 e).size ≤ 9223372036854775807 := by rw [ByteArray.size_extract]; omega
          have cR := fun W => Tryd.strings_TrimRight_one (T.extract 0 e) 32 (by decide) W hes
          simp only [hfin] at cR
          clear hup hle hlast hex hfin hcl hus
          go_wp2_with (go_at_call 30; with_reducible refine (cR _).mono ?_; rintro e1 W6 ⟨rfl, rfl⟩)
          go_ret
          exact ⟨rfl, hg⟩
        | cons u us2 =>
          have hu1 := HU2.out u (by rw [hus]; simp)
          have hul := hu1.len
          have hur := hu1.rune
          have hps : us1.flatten.length + u.length ≤ T.size := by rw [hTs, hus]; simp
          have hp : us1.flatten.length < T.size := by omega
          have hd : Utf8.decode T us1.flatten.length = ((Lib.decodeL u).1, u.length) := by
            rw [← Lib.decodeL_drop, HTL.out, hus, List.flatten_append, List.drop_left, List.flatten_cons]
            exact hu1.decode _
          have hnx : ∀ ty, (Instr.next (.pointer (some ⟨jt, 0, none⟩)) true ty).run Tryd.prog wr = _ := fun ty => Lib.run_next_any_at wr jt T us1.flatten.length ty hi hp
          rw [hd] at hnx
          simp only at hnx
          have hl2 : (us1 ++ [u]).flatten.length = us1.flatten.length + u.length := by simp
          have hit2 := Lib.iterAt_heap wr jt T us1.flatten.length (us1.flatten.length + u.length) hi
          have hb2 := Lib.below_iterAt hg (k := jt) hjw T (us1.flatten.length + u.length)
          have hm0 : wr.iterPos jt = us1.flatten.length := by unfold World.iterPos; rw [hi]
          have hin := hup.out.step_in
          have hout := hup.out.step_out
          obtain ⟨pos, hpos⟩ : ∃ pos, us1.flatten.length = pos := ⟨_, rfl⟩
          simp only [hpos] at hps hp hnx hit2 hb2 hm0 hin hout hi hl2
          generalize hW : wr.iterAt jt T (pos + u.length) = W at *
          have hm2 : W.iterPos jt = pos + u.length := by unfold World.iterPos; rw [hit2]
          have cL := fun W => Tryd.utf8_RuneLen ((Lib.decodeL u).1 : Int) W
          rw [hur] at cL
          obtain ⟨x, hx⟩ : ∃ x, (Lib.decodeL u).1 = x := ⟨_, rfl⟩
          rw [hx] at cL hnx
          obtain ⟨k, hk⟩ : ∃ k, u.length = k := ⟨_, rfl⟩
          rw [hk] at cL hit2 hps hin hout hul hm2 hl2
          have hwp : IntKind.i64.wrap ((pos : Int) + (k : Int)) = ((pos + k : Nat) : Int) := by rw [IntWalk.i64_in _ (by omega)]; omega
          have hus' : us = (us1 ++ [u]) ++ us2 := by rw [hus]; simp
          have HIN := Lib.hid hin
          have HOUT := Lib.hid hout
          have HUS := Lib.hid hus'
          have HL2 := Lib.hid hl2
          have hfin : T.size - (pos + k) < T.size - pos := by omega
          clear hin hout hus hus' hup hd hg hi hu1 hur hx hk hl2 hpos
          by_cases h200 : pos + k ≤ 200
          · have f1 : decide (((pos + k : Nat) : Int) ≤ 200) = true := decide_eq_true (by omega)
            go_wp2_with (go_at_call 29; with_reducible refine (cL _).mono ?_; rintro e1 W6 ⟨rfl, rfl⟩)
            go_roundw
            case rel => exact ⟨us1 ++ [u], us2, pos + k, rfl, HUS.out, by rw [HL2.out]; exact hit2, hb2, Lib.hid (HIN.out h200)⟩
            case measure => rw [hm2, hm0]; exact hfin
          · have f1 : decide (((pos + k : Nat) : Int) ≤ 200) = false := decide_eq_false (by omega)
            go_wp2_with (go_at_call 29; with_reducible refine (cL _).mono ?_; rintro e1 W6 ⟨rfl, rfl⟩)
            go_roundw
            case rel => exact ⟨us1 ++ [u], us2, e, rfl, HUS.out, by rw [HL2.out]; exact hit2, hb2, Lib.hid (HOUT.out h200)⟩
            case measure => rw [hm2, hm0]; exact hfin

end Go.Proofs.YtibgjadnamgneaaDoor

/- strings.ContainsRune in a text of ASCII, at a rune that is not ASCII: false. Conditions: the text is at least four bytes long. -/
import Derived.Test.YtbdcncojiejdoaaDoorWords2
import Derived.Test.YtbdcncojiejdoaaDoorShelf
import Derived.Laws.Runes
import Derived.WalkMore
namespace Go.Proofs.YtbdcncojiejdoaaDoor
set_option linter.unusedVariables false
set_option linter.unusedSimpArgs false
open Go.RowKit

/-- What a rune that is not ASCII is written as: two to four bytes, the last from 128 on. -/
theorem encode_high (r : Int) (h0 : 128 ≤ r) (h1 : r ≤ 1114111) : ∃ n : Nat, (Utf8.encode r).size = n + 1 ∧ 1 ≤ n ∧ n ≤ 3 ∧ ∃ c : UInt8, (Utf8.encode r).data.toList[n]? = some c ∧ 128 ≤ c.toNat := by
  have hb : ∀ x : Nat, 128 ≤ (UInt8.ofNat (128 + x % 64)).toNat := fun x => by rw [UInt8.toNat_ofNat']; omega
  unfold Utf8.encode
  have hc : 128 ≤ (if Utf8.valid r then r.toNat else Utf8.runeError) := by split <;> (try unfold Utf8.runeError) <;> omega
  generalize (if Utf8.valid r then r.toNat else Utf8.runeError) = c at hc
  simp only
  rw [if_neg (by omega)]
  split
  · exact ⟨1, rfl, by omega, by omega, _, rfl, hb _⟩
  split
  · exact ⟨2, rfl, by omega, by omega, _, rfl, hb _⟩
  · exact ⟨3, rfl, by omega, by omega, _, rfl, hb _⟩

theorem indexByte_high : ∀ (l : List UInt8) (c : UInt8), (∀ b ∈ l, b.toNat < 128) → 128 ≤ c.toNat → Lib.indexByte l c = -1
  | [], c, _, _ => rfl
  | b :: l, c, h, hc => by
    have hb := h b (by simp)
    have hne : ¬ b = c := fun e => by subst e; omega
    unfold Lib.indexByte
    simp [hne, indexByte_high l c (fun x hx => h x (by simp [hx])) hc]

theorem conv_rune (r : Int) (w : World) : (convert 21 9 (.int .i32 r)).run Tryd.prog w = .ok (.string (Utf8.encode r)) w := by
  simp [convert, go_sem, Conv.intToString]

set_option maxRecDepth 100000 in
set_option maxHeartbeats 1000000 in
theorem indexRune_error (s : ByteArray) (w : World) (h7 : ∀ b ∈ s.data.toList, b.toNat < 128) (hsz : s.size ≤ 1099511627776) :
    Calls Tryd.prog 51 #[.string s, .int .i32 65533] w fun e w' => e = .returned (.int .i64 (-1)) ∧ Grew w w' := by
  have H7 := Lib.hid h7
  clear h7
  go_enter Tryd.func51, Tryd.ntmps51
  go_wp2
  go_loopw [] (fun wr => ∃ pos : Nat, pos ≤ s.size ∧ wr.heap[w.heap.size]? = some (.stringIter s pos) ∧ Grew w wr) (fun wr => s.size - wr.iterPos w.heap.size)
  case atStart => exact ⟨0, by omega, by simpa using World.iter_heap w s 0, (Below.refl _ w).alloc (Nat.le_refl _) _⟩
  case round =>
    obtain ⟨pos, hps, hit, hb⟩ := hrel
    by_cases hp : pos < s.size
    · have hnx : ∀ ty, (Instr.next (.pointer (some ⟨w.heap.size, 0, none⟩)) true ty).run Tryd.prog wr = _ := fun ty => Lib.run_next_any_at wr w.heap.size s pos ty hit hp
      have ha : (s[pos]'hp).toNat < 128 := H7.out _ (List.mem_of_getElem? (Lib.data_getElem? s pos hp))
      have hd := decode_ascii s pos hp ha
      have hit2 := Lib.iterAt_heap wr w.heap.size s pos (pos + (Utf8.decode s pos).2) hit
      have hb2 := Lib.below_iterAt hb (k := w.heap.size) (Nat.le_refl _) s (pos + (Utf8.decode s pos).2)
      rw [hd] at hnx hit2 hb2
      simp only at hnx hit2 hb2
      generalize hW : wr.iterAt w.heap.size s (pos + 1) = W at *
      obtain ⟨x, hx⟩ : ∃ x : Int, ((s[pos]'hp).toNat : Int) = x := ⟨_, rfl⟩
      rw [hx] at hnx
      have hx1 : x < 128 := by omega
      have hx2 : (x == 65533) = false := by rw [beq_eq_false_iff_ne]; omega
      clear hd hx hb
      go_wp2
      go_roundw
      case rel => exact ⟨pos + 1, by omega, hit2, hb2⟩
      case measure =>
        simp only [World.iterPos, hit2, hit]
        omega
    · have hnx : ∀ ty, (Instr.next (.pointer (some ⟨w.heap.size, 0, none⟩)) true ty).run Tryd.prog wr = _ := fun ty => Lib.run_next_end_at wr w.heap.size s pos ty hit hp
      go_wp2
      go_ret
      exact ⟨rfl, hb⟩

set_option maxRecDepth 100000 in
set_option maxHeartbeats 1000000 in
theorem indexRune_high (s : ByteArray) (r : Int) (w : World) (h0 : 128 ≤ r) (h1 : r ≤ 1114111) (hne : r ≠ 65533) (h7 : ∀ b ∈ s.data.toList, b.toNat < 128) (h4 : 4 ≤ s.size) (hsz : s.size ≤ 1099511627776) :
    Calls Tryd.prog 51 #[.string s, .int .i32 r] w fun e w' => e = .returned (.int .i64 (-1)) ∧ Grew w w' := by
  have H7 := Lib.hid h7
  clear h7
  obtain ⟨n, hn, hn1, hn3, c, hc, hc8⟩ := encode_high r h0 h1
  have hcv := conv_rune r
  generalize Utf8.encode r = rs at hn hc hcv
  have hne' : (r == 65533) = false := by rw [beq_eq_false_iff_ne]; exact hne
  have hsn : n < s.size := by omega
  have hsx : s.data.toList[n]? = some (s[n]'hsn) := Lib.data_getElem? s n hsn
  have hsl : (s[n]'hsn).toNat < 128 := H7.out _ (List.mem_of_getElem? hsx)
  have i1 := index_str s n _ hsx
  have i2 := index_str rs n c hc
  obtain ⟨x, hx⟩ : ∃ x : Int, ((s[n]'hsn).toNat : Int) = x := ⟨_, rfl⟩
  obtain ⟨y, hy⟩ : ∃ y : Int, (c.toNat : Int) = y := ⟨_, rfl⟩
  rw [hx] at i1
  rw [hy] at i2
  have hxy : (x != y) = true := by rw [bne_iff_ne]; omega
  have hix : Lib.indexByte (s.extract (n + 1) s.size).data.toList y.toNat.toUInt8 = -1 := by
    have : y.toNat.toUInt8 = c := by rw [← hy]; simp
    rw [this]
    apply indexByte_high _ _ _ hc8
    intro b hb
    rw [Lib.extract_to_end] at hb
    exact H7.out b (List.mem_of_mem_drop hb)
  have HIX := Lib.hid hix
  clear hix hc hsx hx hy hsl
  cases hv : Lib.validRune r with
  | false =>
    go_enter Tryd.func51, Tryd.ntmps51
    go_wp2_with (go_at_call 64; refine (Tryd.utf8_ValidRune _ _).mono ?_; rintro e w1 ⟨rfl, rfl⟩; rw [hv])
    go_ret
    exact ⟨rfl, Below.refl _ _⟩
  | true =>
    go_enter Tryd.func51, Tryd.ntmps51
    go_wp2_with (go_at_call 64; refine (Tryd.utf8_ValidRune _ _).mono ?_; rintro e w1 ⟨rfl, rfl⟩; rw [hv])
    go_step3
    go_wp2
    go_loopw [9, 10] (fun i f wr => i = .int .i64 n ∧ f = .int .i64 0 ∧ wr = w1) (fun _ _ _ => 0)
    case atStart => exact ⟨by go_num, rfl, rfl⟩
    case round =>
      obtain ⟨rfl, rfl, rfl⟩ := hrel
      go_wp2
      go_step3
      go_wp2_with fail
      go_quiet (fail)
      have g1 : Grew wr (wr.drewN nq) := Grew.drewN (Below.refl _ _) _
      generalize wr.drewN nq = W at g1 ⊢
      go_wp2_with fail
      go_quiet ((go_at_call 63; exact Calls.quiet_of_same (Tryd.strings_IndexByte _ _ _)))
      have g2 : Grew wr (W.drewN nq) := Grew.drewN g1 _
      generalize W.drewN nq = W2 at g2 ⊢
      rw [HIX.out]
      go_wp2
      simp (config := { zetaDelta := true }) only [Exit.noGoto_ret, Exit.inBlock, Exit.then]
      go_ret
      exact ⟨rfl, g2⟩

end Go.Proofs.YtbdcncojiejdoaaDoor

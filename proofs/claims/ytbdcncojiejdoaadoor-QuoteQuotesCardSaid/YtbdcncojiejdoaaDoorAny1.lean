/- strings.IndexRune and strings.IndexAny at a blank and the end of a line, in any text. Conditions: at most 2^30 bytes; the library's tables are laid. -/
import Derived.Test.YtbdcncojiejdoaaDoorRune1
import Derived.Test.YtbdcncojiejdoaaDoorRunes
import Derived.Test.YtbdcncojiejdoaaDoorTabs
import Derived.Test.YtbdcncojiejdoaaDoorPure03
namespace Go.Proofs.YtbdcncojiejdoaaDoor
set_option linter.unusedVariables false
set_option linter.unusedSimpArgs false
open Go.RowKit

set_option maxRecDepth 100000 in
set_option maxHeartbeats 1000000 in
theorem indexRune_short (s : ByteArray) (r : Int) (w : World) (h0 : 128 ≤ r) (h1 : r ≤ 1114111) (hne : r ≠ 65533) (h7 : ∀ b ∈ s.data.toList, b.toNat < 128) (hsz : s.size ≤ 1099511627776) :
    Calls Tryd.prog 51 #[.string s, .int .i32 r] w fun e w' => e = .returned (.int .i64 (-1)) ∧ Grew w w' := by
  have H7 := Lib.hid h7
  clear h7
  obtain ⟨n, hn, hn1, hn3, c, hc, hc8⟩ := encode_high r h0 h1
  have hcv := conv_rune r
  generalize Utf8.encode r = rs at hn hc hcv
  have hne' : (r == 65533) = false := by rw [beq_eq_false_iff_ne]; exact hne
  by_cases hsn : n < s.size
  · have hsx : s.data.toList[n]? = some (s[n]'hsn) := Lib.data_getElem? s n hsn
    have hsl : (s[n]'hsn).toNat < 128 := H7.out _ (List.mem_of_getElem? hsx)
    have i1 := index_str s n _ hsx
    have i2 := index_str rs n c hc
    obtain ⟨x, hx⟩ : ∃ x : Int, ((s[n]'hsn).toNat : Int) = x := ⟨_, rfl⟩
    obtain ⟨y, hy⟩ : ∃ y : Int, (c.toNat : Int) = y := ⟨_, rfl⟩
    rw [hx] at i1
    rw [hy] at i2
    have hxy : (x != y) = true := by rw [bne_iff_ne]; omega
    have hix : Lib.indexByte (s.extract (n + 1) s.size).data.toList y.toNat.toUInt8 = -1 := by
      have : y.toNat.toUInt8 = c := by rw [← hy]; simp
      rw [this]
      apply indexByte_high _ _ _ hc8
      intro b hb
      rw [Lib.extract_to_end] at hb
      exact H7.out b (List.mem_of_mem_drop hb)
    have HIX := Lib.hid hix
    clear hix hc hsx hx hy hsl
    cases hv : Lib.validRune r with
    | false =>
      go_enter Tryd.func51, Tryd.ntmps51
      go_wp2_with (go_at_call 64; refine (Tryd.utf8_ValidRune _ _).mono ?_; rintro e w1 ⟨rfl, rfl⟩; rw [hv])
      go_ret
      exact ⟨rfl, Below.refl _ _⟩
    | true =>
      go_enter Tryd.func51, Tryd.ntmps51
      go_wp2_with (go_at_call 64; refine (Tryd.utf8_ValidRune _ _).mono ?_; rintro e w1 ⟨rfl, rfl⟩; rw [hv])
      go_step3
      go_wp2
      go_loopw [9, 10] (fun i f wr => i = .int .i64 n ∧ f = .int .i64 0 ∧ wr = w1) (fun _ _ _ => 0)
      case atStart => exact ⟨by go_num, rfl, rfl⟩
      case round =>
        obtain ⟨rfl, rfl, rfl⟩ := hrel
        go_wp2
        go_step3
        go_wp2_with fail
        go_quiet (fail)
        have g1 : Grew wr (wr.drewN nq) := Grew.drewN (Below.refl _ _) _
        generalize wr.drewN nq = W at g1 ⊢
        go_wp2_with fail
        go_quiet ((go_at_call 63; exact Calls.quiet_of_same (Tryd.strings_IndexByte _ _ _)))
        have g2 : Grew wr (W.drewN nq) := Grew.drewN g1 _
        generalize W.drewN nq = W2 at g2 ⊢
        rw [HIX.out]
        go_wp2
        simp (config := { zetaDelta := true }) only [Exit.noGoto_ret, Exit.inBlock, Exit.then]
        go_ret
        exact ⟨rfl, g2⟩
  · have hnd : decide ((n : Int) < (s.size : Int)) = false := decide_eq_false (by omega)
    cases hv : Lib.validRune r with
    | false =>
      go_enter Tryd.func51, Tryd.ntmps51
      go_wp2_with (go_at_call 64; refine (Tryd.utf8_ValidRune _ _).mono ?_; rintro e w1 ⟨rfl, rfl⟩; rw [hv])
      go_ret
      exact ⟨rfl, Below.refl _ _⟩
    | true =>
      go_enter Tryd.func51, Tryd.ntmps51
      go_wp2_with (go_at_call 64; refine (Tryd.utf8_ValidRune _ _).mono ?_; rintro e w1 ⟨rfl, rfl⟩; rw [hv])
      go_step3
      go_wp2
      go_loopw [9, 10] (fun i f wr => i = .int .i64 n ∧ f = .int .i64 0 ∧ wr = w1) (fun _ _ _ => 0)
      case atStart => exact ⟨by go_num, rfl, rfl⟩
      case round =>
        obtain ⟨rfl, rfl, rfl⟩ := hrel
        go_wp2
        try simp (config := { zetaDelta := true }) only [Exit.noGoto_ret, Exit.inBlock, Exit.then]
        go_ret
        exact ⟨rfl, Below.refl _ _⟩

end Go.Proofs.YtbdcncojiejdoaaDoor

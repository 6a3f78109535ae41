/- The reference's Unhex reads digits of 16 back, or answers ErrForm. Conditions: the text is at most 2^40 bytes long. -/
import Derived.Test.YtejoknkacpopeaaDoorWords
import Derived.Test.YtejoknkacpopeaaDoorPure01
import Derived.Test.YtejoknkacpopeaaDoorHexa4
import Derived.Deep.QuietTactic
import Derived.BigQuiet
namespace Go.Proofs.YtejoknkacpopeaaDoor
set_option linter.unusedVariables false
set_option linter.unusedSimpArgs false
open Go.RowKit

theorem digitZ_some {c : UInt8} {v : Nat} (h : Pure.val c = some v) : digitZ (c.toNat : Int) = v := by
  have := val_some h
  unfold digitZ
  rcases this with ⟨h1, h2, h3⟩ | ⟨h1, h2, h3⟩
  · rw [if_pos ⟨h1, h2⟩]; exact h3
  · rw [if_neg (by omega), if_pos ⟨h1, h2⟩]; exact h3
theorem digitZ_none {c : UInt8} (h : Pure.val c = none) : digitZ (c.toNat : Int) = -1 := by
  have := val_none h
  unfold digitZ
  rw [if_neg (by omega), if_neg (by omega)]

theorem ref_digit_some {c : UInt8} {v : Nat} (h : Pure.val c = some v) (w : World) :
    Calls Tryd.prog 25 #[.int .u8 (c.toNat : Int)] w fun e w' => e = .returned (.int .i64 (v : Int)) ∧ w' = w :=
  (ref_digit _ (by omega) (byte_lt c) w).mono fun e w' ⟨he, hw⟩ => ⟨by rw [he, digitZ_some h], hw.symm⟩
theorem ref_digit_none {c : UInt8} (h : Pure.val c = none) (w : World) :
    Calls Tryd.prog 25 #[.int .u8 (c.toNat : Int)] w fun e w' => e = .returned (.int .i64 (-1)) ∧ w' = w :=
  (ref_digit _ (by omega) (byte_lt c) w).mono fun e w' ⟨he, hw⟩ => ⟨by rw [he, digitZ_none h], hw.symm⟩

/-- What digit answers, as one number. -/
def dz (c : UInt8) : Int := match Pure.val c with | some v => v | none => -1
theorem ref_digit_dz (c : UInt8) (w : World) :
    Calls Tryd.prog 25 #[.int .u8 (c.toNat : Int)] w fun e w' => e = .returned (.int .i64 (dz c)) ∧ w' = w := by
  unfold dz
  cases h : Pure.val c with
  | none => exact ref_digit_none h w
  | some v => exact ref_digit_some h w

set_option maxRecDepth 100000 in
set_option maxHeartbeats 1000000 in
theorem ref_Unhex_odd (s : ByteArray) (w : World) (hs : s.size ≤ 1099511627776) (h : s.size % 2 = 1) :
    Calls Tryd.prog 11 #[.string s] w fun e w' => e = .returned (.tuple #[.slice none 0 0, .int .i64 4]) ∧ w = w' := by
  have h2 : ((s.size : Int) % 2 != 0) = true := by rw [bne_iff_ne]; omega
  go_enter Tryd.func11, Tryd.ntmps11
  go_wp2
  go_ret2
  exact ⟨rfl, rfl⟩

set_option maxRecDepth 100000 in
set_option maxHeartbeats 1000000 in
theorem ref_Unhex_even (s : ByteArray) (w : World) (hs : s.size ≤ 1099511627776) (h : s.size % 2 = 0) :
    Calls Tryd.prog 11 #[.string s] w (UnhexPost s w) := by
  have h2 : ((s.size : Int) % 2 != 0) = false := by rw [bne_eq_false_iff_eq]; omega
  obtain ⟨i0, hi, hz0, hz1, hz2⟩ := info_parts infoU8
  go_enter Tryd.func11, Tryd.ntmps11
  go_wp2
  go_loopw [4, 5] (fun v i wr => ∃ (pos : Nat) (acc : List UInt8), i = .int .i64 pos ∧ pos ≤ s.size ∧ Hid (pos % 2 = 0) ∧
      wr.ownsRow w.heap.size tU8 1 v acc.length (Lib.byteCells acc) ∧ Below w.heap.size w wr ∧ acc.length ≤ pos ∧
      Hid (Pure.unhex s.data.toList = (Pure.unhex (s.data.toList.drop pos)).map (acc ++ ·))) (fun _ i _ => s.size - (intOf i).toNat)
  case atStart =>
    refine ⟨0, [], rfl, Nat.zero_le _, rfl, World.ownsRow_nil _ _ _ _, Below.refl _ _, by simp, ?_⟩
    simp [Hid]
  case round =>
    obtain ⟨pos, acc, rfl, hps, hev, hown, hbw, hal, hpure⟩ := hrel
    by_cases hp : pos < s.size
    · have hp2 : pos + 1 < s.size := by have := hev.out; omega
      obtain ⟨c, hc⟩ : ∃ c, s.data.toList[pos]? = some c := ⟨_, List.getElem?_eq_getElem (by simpa using hp)⟩
      obtain ⟨d, hd⟩ : ∃ d, s.data.toList[pos + 1]? = some d := ⟨_, List.getElem?_eq_getElem (by simpa using hp2)⟩
      have hdrop : s.data.toList.drop pos = c :: d :: s.data.toList.drop (pos + 2) := by
        rw [List.drop_eq_getElem_cons (by simpa using hp), List.drop_eq_getElem_cons (by simpa using hp2)]
        rw [List.getElem?_eq_getElem (by simpa using hp)] at hc
        rw [List.getElem?_eq_getElem (by simpa using hp2)] at hd
        rw [Option.some.inj hc, Option.some.inj hd]
      have hx1 := index_str s pos c hc
      have hx2 := index_str s (pos + 1) d hd
      push_cast at hx2
      have hw1 : IntKind.i64.wrap ((pos : Int) + 1) = (pos : Int) + 1 := IntWalk.i64_in _ ⟨by omega, by omega⟩
      have HE := hev
      clear hc hd
      go_wp2_with fail
      go_quiet ((go_at_call 25; exact Calls.quiet_of_same (ref_digit_dz _ _)))
      clear hw1 hx1 hx2
      obtain ⟨W, hW⟩ : ∃ W, wr.drewN nq = W := ⟨_, rfl⟩
      have hown2 : W.ownsRow w.heap.size tU8 1 u4 acc.length (Lib.byteCells acc) := by rw [← hW]; exact hown
      have hbw2 : Below w.heap.size w W := by rw [← hW]; exact Grew.drewN hbw _
      have hsW := hbw2.size
      rw [hW]
      clear hW hown hbw
      have hdc : -1 ≤ dz c ∧ dz c < 16 := by
        unfold dz
        cases e : Pure.val c with
        | none => simp
        | some v => have := Pure.val_lt e; simp; omega
      by_cases hgood : 0 ≤ dz c ∧ 0 ≤ dz d
      · obtain ⟨u, hu⟩ : ∃ u, Pure.val c = some u := by
          cases e : Pure.val c with
          | none => have := hgood.1; simp [dz, e] at this
          | some u => exact ⟨u, rfl⟩
        obtain ⟨v, hv⟩ : ∃ v, Pure.val d = some v := by
          cases e : Pure.val d with
          | none => have := hgood.2; simp [dz, e] at this
          | some u => exact ⟨u, rfl⟩
        have hu16 := Pure.val_lt hu
        have hv16 := Pure.val_lt hv
        have hnew : ((UInt8.ofNat (16 * u + v)).toNat : Int) = 16 * dz c + dz d := by rw [UInt8.toNat_ofNat']; simp [dz, hu, hv]; omega
        have hpure' : Hid (Pure.unhex s.data.toList = (Pure.unhex (s.data.toList.drop (pos + 2))).map ((acc ++ [UInt8.ofNat (16 * u + v)]) ++ ·)) := by
          unfold Hid; rw [hpure.out, hdrop]; simp [Pure.unhex, Pure.unhexA, hu, hv, Function.comp_def]
        have hev' : Hid ((pos + 2) % 2 = 0) := by have := hev.out; unfold Hid; omega
        generalize UInt8.ofNat (16 * u + v) = nb at *
        obtain ⟨g1, g2⟩ := hgood
        have hd16 : dz d < 16 := by simp [dz, hv]; omega
        have HX := Lib.hid hnew
        clear hpure hev hdrop hnew hu hv hu16 hv16 HE
        obtain ⟨_, g3⟩ := hdc
        generalize dz c = a at *
        generalize dz d = b at *
        go_wp2_with (at_builtin; refine wpList_append_own _ rfl _ _ 22 rfl w.heap.size tU8 i0 (.int .u8 0) 1 1 Tryd.underlying22 hi hz0 hz1 hz2 rfl (by decide) _ _ _ rfl (hown2.alloc _) ⟨W.heap.size, 0, none⟩ 1 1 [.int .u8 (16 * a + b)] rfl rfl ?c1 ?c2 ?c3 ?c4 ?c5 ?_)
        case c1 => exact cell_one_new _ _ _
        case c2 => intro u hu; simp at hu; subst hu; rfl
        case c3 => unfold maxLen; omega
        case c4 => omega
        case c5 => simp; omega
        intro v' w2 hown' hgrow _
        have hbw3 : Below w.heap.size w w2 := (hbw2.alloc (by omega) _).grown hgrow (by simp; omega) (fun k hk => (hown2.lt k hk).1)
        have hown3 : w2.ownsRow w.heap.size tU8 1 v' (acc ++ [nb]).length (Lib.byteCells (acc ++ [nb])) := by
          have e : Lib.byteCells (acc ++ [nb]) = Lib.byteCells acc ++ [.int .u8 (16 * a + b)] := by rw [Lib.byteCells_append, ← HX.out]; rfl
          rw [e]; simpa using hown'
        clear hown' hgrow hown2 hbw2
        go_wp2
        go_roundw
        case rel =>
          exact ⟨pos + 2, acc ++ [nb], by go_num, by omega, hev', hown3, hbw3, by simp; omega, hpure'⟩
        case measure => simp [intOf]; omega
      · have hbad : Pure.unhex s.data.toList = none := by
          rw [hpure.out, hdrop]
          cases e : Pure.val c with
          | none => simp [Pure.unhex, Pure.unhexA, e]
          | some u =>
            cases e2 : Pure.val d with
            | none => simp [Pure.unhex, Pure.unhexA, e, e2]
            | some v => exact absurd (by simp [dz, e, e2]) hgood
        have HB := Lib.hid hbad
        clear hbad hpure hev hdrop HE hdc
        generalize dz c = a at *
        generalize dz d = b at *
        by_cases ha : a < 0
        · clear hgood
          go_wp2
          go_ret2
          exact ⟨hbw2, .inr ⟨HB.out, rfl⟩⟩
        · have hb : b < 0 := by omega
          have ha' : 0 ≤ a := by omega
          clear hgood ha
          go_wp2
          go_ret2
          exact ⟨hbw2, .inr ⟨HB.out, rfl⟩⟩
    · have hend : s.data.toList.drop pos = [] := List.drop_eq_nil_of_le (by simp; show s.size ≤ pos; omega)
      have hfin := hpure.out
      rw [hend] at hfin
      simp [Pure.unhexA, Pure.unhex] at hfin
      have HF : Hid (Pure.unhex s.data.toList = some acc) := hfin
      clear hfin hend hpure hev
      go_wp2
      go_ret2
      exact ⟨hbw, .inl ⟨acc, _, HF.out, rfl, hown⟩⟩

theorem ref_Unhex (s : ByteArray) (w : World) (hs : s.size ≤ 1099511627776) :
    Calls Tryd.prog 11 #[.string s] w (UnhexPost s w) := by
  by_cases h : s.size % 2 = 0
  · exact ref_Unhex_even s w hs h
  · refine (ref_Unhex_odd s w hs (by omega)).mono ?_
    rintro e w' ⟨rfl, rfl⟩
    exact ⟨Below.refl _ _, .inr ⟨Pure.unhex_odd _ (by rw [Array.length_toList]; show s.size % 2 = 1; omega), rfl⟩⟩

end Go.Proofs.YtejoknkacpopeaaDoor

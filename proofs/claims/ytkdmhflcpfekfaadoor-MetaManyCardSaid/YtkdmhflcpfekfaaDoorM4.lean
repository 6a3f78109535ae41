/- Several texts in one: Hexa3, Hexa4, Hexa5. -/
import Derived.Test.YtkdmhflcpfekfaaDoorM1
import Derived.Test.YtkdmhflcpfekfaaDoorBuilder
import Derived.Laws.MakeOwn
import Derived.Deep.QuietTactic
import Derived.BigQuiet

/- hexa.digit and the reference's digit tell what a digit of 16 says. Conditions: none. -/
namespace Go.Proofs.YtkdmhflcpfekfaaDoor
set_option linter.unusedVariables false
set_option linter.unusedSimpArgs false
open Go.RowKit

theorem hexa_digit_ok (r v : Int) (h : (48 ≤ r ∧ r ≤ 57 ∧ r - 48 = v) ∨ (97 ≤ r ∧ r ≤ 102 ∧ r - 87 = v)) (w : World) :
    Calls Tryd.prog 64 #[.int .i32 r] w fun e w' => e = .returned (.tuple #[.int .u8 v, .bool true]) ∧ w = w' := by
  rcases h with ⟨h1, h2, rfl⟩ | ⟨h1, h2, rfl⟩
  · go_enter Tryd.func64, Tryd.ntmps64
    go_wp2
    go_ret2
    exact ⟨rfl, rfl⟩
  · go_enter Tryd.func64, Tryd.ntmps64
    go_wp2
    go_ret2
    exact ⟨by congr 5; simp [IntKind.wrap_u8]; omega, rfl⟩

theorem hexa_digit_no (r : Int) (h : ¬ ((48 ≤ r ∧ r ≤ 57) ∨ (97 ≤ r ∧ r ≤ 102))) (w : World) :
    Calls Tryd.prog 64 #[.int .i32 r] w fun e w' => e = .returned (.tuple #[.int .u8 0, .bool false]) ∧ w = w' := by
  go_enter Tryd.func64, Tryd.ntmps64
  go_wp2
  all_goals (go_ret2; exact ⟨rfl, rfl⟩)

/-- What the reference's digit answers. -/
def digitZ (c : Int) : Int := if 48 ≤ c ∧ c ≤ 57 then c - 48 else if 97 ≤ c ∧ c ≤ 102 then c - 87 else -1

theorem ref_digit (c : Int) (h0 : 0 ≤ c) (h1 : c < 256) (w : World) :
    Calls Tryd.prog 65 #[.int .u8 c] w fun e w' => e = .returned (.int .i64 (digitZ c)) ∧ w = w' := by
  by_cases a : 48 ≤ c ∧ c ≤ 57
  · have e : digitZ c = c - 48 := by unfold digitZ; rw [if_pos a]
    rw [e]; clear e
    obtain ⟨a1, a2⟩ := a
    go_enter Tryd.func65, Tryd.ntmps65
    go_wp2
    go_ret
    exact ⟨rfl, rfl⟩
  by_cases b : 97 ≤ c ∧ c ≤ 102
  · have e : digitZ c = c - 87 := by unfold digitZ; rw [if_neg a, if_pos b]
    rw [e]; clear e a
    obtain ⟨a1, a2⟩ := b
    go_enter Tryd.func65, Tryd.ntmps65
    go_wp2
    go_ret
    exact ⟨ret_int (by omega), rfl⟩
  · have e : digitZ c = -1 := by unfold digitZ; rw [if_neg a, if_neg b]
    rw [e]; clear e
    go_enter Tryd.func65, Tryd.ntmps65
    go_wp2
    all_goals (go_ret; exact ⟨rfl, rfl⟩)

end Go.Proofs.YtkdmhflcpfekfaaDoor

/- hexa.Unhex reads digits of 16 back, or answers ErrForm. Conditions: the text is at most 2^40 bytes long. -/
namespace Go.Proofs.YtkdmhflcpfekfaaDoor
set_option linter.unusedVariables false
set_option linter.unusedSimpArgs false
open Go.RowKit

theorem val_some {c : UInt8} {v : Nat} (h : Pure.val c = some v) : (48 ≤ (c.toNat : Int) ∧ (c.toNat : Int) ≤ 57 ∧ (c.toNat : Int) - 48 = v) ∨ (97 ≤ (c.toNat : Int) ∧ (c.toNat : Int) ≤ 102 ∧ (c.toNat : Int) - 87 = v) := by
  unfold Pure.val at h
  split at h
  · simp at h; omega
  · split at h
    · simp at h; omega
    · simp at h
theorem val_none {c : UInt8} (h : Pure.val c = none) : ¬ ((48 ≤ (c.toNat : Int) ∧ (c.toNat : Int) ≤ 57) ∨ (97 ≤ (c.toNat : Int) ∧ (c.toNat : Int) ≤ 102)) := by
  unfold Pure.val at h
  split at h
  · simp at h
  · split at h
    · simp at h
    · omega

set_option maxRecDepth 100000 in
set_option maxHeartbeats 1000000 in
theorem hexa_Unhex_odd (s : ByteArray) (w : World) (hs : s.size ≤ 1099511627776) (h : s.size % 2 = 1) :
    Calls Tryd.prog 48 #[.string s] w fun e w' => e = .returned (.tuple #[.slice none 0 0, .int .i64 4]) ∧ w = w' := by
  have h2 : ((s.size : Int) % 2 != 0) = true := by rw [bne_iff_ne]; omega
  go_enter Tryd.func48, Tryd.ntmps48
  go_wp2
  go_ret2
  exact ⟨rfl, rfl⟩

/-- What Unhex leaves: the bytes in memory of the call's own and OK, or nil and ErrForm. -/
def UnhexPost (s : ByteArray) (w : World) (e : Ending) (w' : World) : Prop := Grew w w' ∧
  ((∃ l v, Pure.unhex s.data.toList = some l ∧ e = .returned (.tuple #[v, .int .i64 0]) ∧ w'.ownsRow w.heap.size tU8 1 v l.length (Lib.byteCells l)) ∨
   (Pure.unhex s.data.toList = none ∧ e = .returned (.tuple #[.slice none 0 0, .int .i64 4])))

set_option maxRecDepth 100000 in
set_option maxHeartbeats 1000000 in
theorem hexa_Unhex_even (s : ByteArray) (w : World) (hs : s.size ≤ 1099511627776) (h : s.size % 2 = 0) :
    Calls Tryd.prog 48 #[.string s] w (UnhexPost s w) := by
  have h2 : ((s.size : Int) % 2 != 0) = false := by rw [bne_eq_false_iff_eq]; omega
  obtain ⟨i0, hi, hz0, hz1, hz2⟩ := info_parts infoU8
  obtain ⟨C, hC, hmk⟩ := make_bytes (s.size / 2) (by omega) w
  push_cast at hmk
  have hbi : Below w.heap.size w (w.alloc (.cells C tU8)) := (Below.refl _ w).alloc (Nat.le_refl _) _
  have hownI := World.ownsRow_made (base := w.heap.size) (e := tU8) (size := 1) w C (s.size / 2) (Nat.le_refl _) (by unfold maxLen; omega) (by omega)
  have HC := Lib.hid hC
  clear hC
  go_enter Tryd.func48, Tryd.ntmps48
  go_wp2
  go_loopw [4, 5] (fun v u wr => ∃ (pos : Nat) (acc : List UInt8) (half : Option Nat) (x : Int), u = .int .u8 x ∧ 0 ≤ x ∧ x < 256 ∧ wr.heap[w.heap.size + 1]? = some (.stringIter s pos) ∧ pos ≤ s.size ∧
      wr.ownsRow w.heap.size tU8 1 v acc.length (Lib.byteCells acc) ∧ Below w.heap.size w wr ∧ acc.length ≤ pos ∧ Hid ((∀ h, half = some h → x = 16 * (h : Int) ∧ h < 16) ∧ half.isSome = decide (pos % 2 = 1)) ∧
      Hid (Pure.unhex s.data.toList = (Pure.unhexA half (s.data.toList.drop pos)).map (acc ++ ·))) (fun _ _ wr => s.size - wr.iterPos (w.heap.size + 1))
  case atStart =>
    refine ⟨0, [], none, 0, rfl, by omega, by omega, ?_, Nat.zero_le _, ?_, ?_, by simp, ⟨by simp, by simp⟩, ?_⟩
    · have := World.iter_heap (w.alloc (.cells C tU8)) s 0
      simpa using this
    · exact hownI.kept (World.grownBy_alloc _ _ none) (by simp [Value.ownBlock])
    · exact hbi.alloc (by simp) _
    · simp [Hid, Pure.unhex]
  case round =>
    clear hownI hbi hmk
    obtain ⟨pos, acc, half, x, rfl, hx0, hx1, hit, hps, hown, hbw, hal, hhalf, hpure⟩ := hrel
    have hsz := (Array.getElem?_eq_some_iff.1 hit).1
    by_cases hp : pos < s.size
    · have hnx : ∀ ty, (Instr.next (.pointer (some ⟨w.heap.size + 1, 0, none⟩)) true ty).run Tryd.prog wr = _ := fun ty => Lib.run_next_any_at wr (w.heap.size + 1) s pos ty hit hp
      obtain ⟨c, hc⟩ : ∃ c, s[pos]'hp = c := ⟨_, rfl⟩
      have hdrop : s.data.toList.drop pos = c :: s.data.toList.drop (pos + 1) := by
        rw [List.drop_eq_getElem_cons (by simpa using hp)]; congr 1
      cases hv : Pure.val c with
      | none =>
        have hr : ¬ ((48 ≤ ((Utf8.decode s pos).1 : Int) ∧ ((Utf8.decode s pos).1 : Int) ≤ 57) ∨ (97 ≤ ((Utf8.decode s pos).1 : Int) ∧ ((Utf8.decode s pos).1 : Int) ≤ 102)) := by
          by_cases ha : (s[pos]'hp).toNat < 128
          · rw [decode_ascii s pos hp ha, hc]; exact val_none hv
          · have := (decode_high s pos hp (by omega)).1; omega
        have hbad : Pure.unhex s.data.toList = none := by
          rw [hpure.out, hdrop]
          cases half <;> simp [Pure.unhexA, hv]
        have HB := Lib.hid hbad
        clear hbad hpure hhalf hdrop hc
        generalize Utf8.decode s pos = d at *
        go_wp2_with (go_at_call 64; refine (hexa_digit_no _ hr _).mono ?_)
        rintro e w1 ⟨rfl, rfl⟩
        go_wp2
        go_ret2
        exact ⟨Lib.below_iterAt hbw (by omega) _ _, .inr ⟨HB.out, rfl⟩⟩
      | some v =>
        have hc128 : (s[pos]'hp).toNat < 128 := by rw [hc]; have := val_some hv; omega
        have hd := decode_ascii s pos hp hc128
        rw [hc] at hd
        have hvv := val_some hv
        have hv16 := Pure.val_lt hv
        have hit2 := Lib.iterAt_heap wr (w.heap.size + 1) s pos (pos + (Utf8.decode s pos).2) hit
        have hown2 := own_iterAt hown hit (pos + (Utf8.decode s pos).2)
        have hbw2 := Lib.below_iterAt hbw (k := w.heap.size + 1) (by omega) s (pos + (Utf8.decode s pos).2)
        rw [hd] at hnx hit2 hown2 hbw2
        simp only at hnx hit2 hown2 hbw2
        generalize hW : wr.iterAt (w.heap.size + 1) s (pos + 1) = W at *
        clear hd hown hbw hc128
        cases half with
        | none =>
          have hev : ((pos : Int) % 2 == 0) = true := by have := hhalf.out.2; simp at this; rw [beq_iff_eq]; omega
          have hev' : (pos + 1) % 2 = 1 := by have := hhalf.out.2; simp at this; omega
          have hpure' : Hid (Pure.unhex s.data.toList = (Pure.unhexA (some v) (s.data.toList.drop (pos + 1))).map (acc ++ ·)) := by
            unfold Hid; rw [hpure.out, hdrop]; simp [Pure.unhexA, hv]
          clear hpure hhalf hdrop hc hv
          have hvz : (0 : Int) ≤ (v : Int) := by omega
          have hvz' : (v : Int) < 16 := by omega
          obtain ⟨z, hz⟩ : ∃ z : Int, (v : Int) = z := ⟨_, rfl⟩
          rw [hz] at hvv hvz hvz'
          have HZ := Lib.hid hz
          clear hz hv16
          obtain ⟨r, hr⟩ : ∃ r : Int, (c.toNat : Int) = r := ⟨_, rfl⟩
          rw [hr] at hnx hvv
          clear hr
          go_wp2_with (go_at_call 64; refine (hexa_digit_ok _ z hvv _).mono ?_)
          rintro e w1 ⟨rfl, rfl⟩
          go_wp2
          go_roundw
          case rel =>
            refine ⟨pos + 1, acc, some v, z * 16, rfl, by omega, by omega, hit2, by omega, hown2, hbw2, by omega, ⟨?_, ?_⟩, hpure'⟩
            · intro h e1; cases e1; have := HZ.out; omega
            · simp [hev']
          case measure =>
            simp only [World.iterPos, hit2, hit]
            omega
        | some u =>
          have hodd : ((pos : Int) % 2 == 0) = false := by have := hhalf.out.2; simp at this; rw [beq_eq_false_iff_ne]; omega
          have hodd' : ¬ (pos + 1) % 2 = 1 := by have := hhalf.out.2; simp at this; omega
          obtain ⟨hx, hu⟩ := hhalf.out.1 u rfl
          have hor := bit_or_16 u hu v hv16
          rw [← hx] at hor
          have hnew : ((UInt8.ofNat (16 * u + v)).toNat : Int) = x + v := by rw [UInt8.toNat_ofNat']; omega
          have hpure' : Hid (Pure.unhex s.data.toList = (Pure.unhexA none (s.data.toList.drop (pos + 1))).map ((acc ++ [UInt8.ofNat (16 * u + v)]) ++ ·)) := by
            unfold Hid; rw [hpure.out, hdrop]; simp [Pure.unhexA, hv, Function.comp_def]
          generalize UInt8.ofNat (16 * u + v) = nb at *
          have HX := Lib.hid hnew
          clear hpure hhalf hdrop hc hv hnew hx hu
          have hvz : (0 : Int) ≤ (v : Int) := by omega
          have hvz' : (v : Int) < 16 := by omega
          obtain ⟨z, hz⟩ : ∃ z : Int, (v : Int) = z := ⟨_, rfl⟩
          rw [hz] at hvv hvz hvz' hor HX
          clear hz hv16
          obtain ⟨r, hr⟩ : ∃ r : Int, (c.toNat : Int) = r := ⟨_, rfl⟩
          rw [hr] at hnx hvv
          clear hr
          have hsW : wr.heap.size = W.heap.size := by rw [← hW, Lib.iterAt_size]
          have hsW' : w.heap.size + 1 < W.heap.size := by omega
          clear hsW
          go_wp2_with (go_at_call 64; refine (hexa_digit_ok _ z hvv _).mono ?_)
          rintro e w1 ⟨rfl, rfl⟩
          go_wp2_with (at_builtin; refine wpList_append_own _ rfl _ _ 48 rfl w.heap.size tU8 i0 (.int .u8 0) 1 1 Tryd.underlying48 hi hz0 hz1 hz2 rfl (by decide) _ _ _ rfl (hown2.alloc _) ⟨W.heap.size, 0, none⟩ 1 1 [.int .u8 (x + z)] rfl rfl ?c1 ?c2 ?c3 ?c4 ?c5 ?_)
          case c1 => exact cell_one_new _ _ _
          case c2 => intro u hu; simp at hu; subst hu; rfl
          case c3 => unfold maxLen; omega
          case c4 => omega
          case c5 => simp; omega
          intro v' w2 hown' hgrow _
          have hit3 : w2.heap[w.heap.size + 1]? = some (.stringIter s (pos + 1)) := iter_grown (hown2.alloc _) ((Lib.alloc_old W _ _ (by omega)).trans hit2) hgrow
          have hbw3 : Below w.heap.size w w2 := (hbw2.alloc (by omega) _).grown hgrow (by simp; omega) (fun k hk => (hown2.lt k hk).1)
          have hown3 : w2.ownsRow w.heap.size tU8 1 v' (acc ++ [nb]).length (Lib.byteCells (acc ++ [nb])) := by
            have e : Lib.byteCells (acc ++ [nb]) = Lib.byteCells acc ++ [.int .u8 (x + z)] := by rw [Lib.byteCells_append, ← HX.out]; rfl
            rw [e]; simpa using hown'
          clear hown' hgrow hown2 hbw2
          go_wp2
          go_roundw
          case rel =>
            exact ⟨pos + 1, acc ++ [nb], none, x, rfl, hx0, hx1, hit3, by omega, hown3, hbw3, by simp; omega, ⟨by simp, by simp [hodd']⟩, hpure'⟩
          case measure =>
            simp only [World.iterPos, hit3, hit]
            omega
    · have hnx : ∀ ty, (Instr.next (.pointer (some ⟨w.heap.size + 1, 0, none⟩)) true ty).run Tryd.prog wr = _ := fun ty => Lib.run_next_end_at wr (w.heap.size + 1) s pos ty hit hp
      have hend : s.data.toList.drop pos = [] := List.drop_eq_nil_of_le (by simp; show s.size ≤ pos; omega)
      have hpe : pos = s.size := by omega
      cases half with
      | some u =>
        have := hhalf.out.2
        simp at this
        omega
      | none =>
        have hfin := hpure.out
        rw [hend] at hfin
        simp [Pure.unhexA] at hfin
        have HF := Lib.hid hfin
        clear hfin hend hpe hpure hhalf
        go_wp2
        go_ret2
        exact ⟨hbw, .inl ⟨acc, _, HF.out, rfl, hown⟩⟩

theorem hexa_Unhex (s : ByteArray) (w : World) (hs : s.size ≤ 1099511627776) :
    Calls Tryd.prog 48 #[.string s] w (UnhexPost s w) := by
  by_cases h : s.size % 2 = 0
  · exact hexa_Unhex_even s w hs h
  · refine (hexa_Unhex_odd s w hs (by omega)).mono ?_
    rintro e w' ⟨rfl, rfl⟩
    exact ⟨Below.refl _ _, .inr ⟨Pure.unhex_odd _ (by rw [Array.length_toList]; show s.size % 2 = 1; omega), rfl⟩⟩

end Go.Proofs.YtkdmhflcpfekfaaDoor

/- The reference's Unhex reads digits of 16 back, or answers ErrForm. Conditions: the text is at most 2^40 bytes long. -/
namespace Go.Proofs.YtkdmhflcpfekfaaDoor
set_option linter.unusedVariables false
set_option linter.unusedSimpArgs false
open Go.RowKit

theorem digitZ_some {c : UInt8} {v : Nat} (h : Pure.val c = some v) : digitZ (c.toNat : Int) = v := by
  have := val_some h
  unfold digitZ
  rcases this with ⟨h1, h2, h3⟩ | ⟨h1, h2, h3⟩
  · rw [if_pos ⟨h1, h2⟩]; exact h3
  · rw [if_neg (by omega), if_pos ⟨h1, h2⟩]; exact h3
theorem digitZ_none {c : UInt8} (h : Pure.val c = none) : digitZ (c.toNat : Int) = -1 := by
  have := val_none h
  unfold digitZ
  rw [if_neg (by omega), if_neg (by omega)]

theorem ref_digit_some {c : UInt8} {v : Nat} (h : Pure.val c = some v) (w : World) :
    Calls Tryd.prog 65 #[.int .u8 (c.toNat : Int)] w fun e w' => e = .returned (.int .i64 (v : Int)) ∧ w' = w :=
  (ref_digit _ (by omega) (byte_lt c) w).mono fun e w' ⟨he, hw⟩ => ⟨by rw [he, digitZ_some h], hw.symm⟩
theorem ref_digit_none {c : UInt8} (h : Pure.val c = none) (w : World) :
    Calls Tryd.prog 65 #[.int .u8 (c.toNat : Int)] w fun e w' => e = .returned (.int .i64 (-1)) ∧ w' = w :=
  (ref_digit _ (by omega) (byte_lt c) w).mono fun e w' ⟨he, hw⟩ => ⟨by rw [he, digitZ_none h], hw.symm⟩

/-- What digit answers, as one number. -/
def dz (c : UInt8) : Int := match Pure.val c with | some v => v | none => -1
theorem ref_digit_dz (c : UInt8) (w : World) :
    Calls Tryd.prog 65 #[.int .u8 (c.toNat : Int)] w fun e w' => e = .returned (.int .i64 (dz c)) ∧ w' = w := by
  unfold dz
  cases h : Pure.val c with
  | none => exact ref_digit_none h w
  | some v => exact ref_digit_some h w

set_option maxRecDepth 100000 in
set_option maxHeartbeats 1000000 in
theorem ref_Unhex_odd (s : ByteArray) (w : World) (hs : s.size ≤ 1099511627776) (h : s.size % 2 = 1) :
    Calls Tryd.prog 51 #[.string s] w fun e w' => e = .returned (.tuple #[.slice none 0 0, .int .i64 4]) ∧ w = w' := by
  have h2 : ((s.size : Int) % 2 != 0) = true := by rw [bne_iff_ne]; omega
  go_enter Tryd.func51, Tryd.ntmps51
  go_wp2
  go_ret2
  exact ⟨rfl, rfl⟩

set_option maxRecDepth 100000 in
set_option maxHeartbeats 1000000 in
theorem ref_Unhex_even (s : ByteArray) (w : World) (hs : s.size ≤ 1099511627776) (h : s.size % 2 = 0) :
    Calls Tryd.prog 51 #[.string s] w (UnhexPost s w) := by
  have h2 : ((s.size : Int) % 2 != 0) = false := by rw [bne_eq_false_iff_eq]; omega
  obtain ⟨i0, hi, hz0, hz1, hz2⟩ := info_parts infoU8
  go_enter Tryd.func51, Tryd.ntmps51
  go_wp2
  go_loopw [4, 5] (fun v i wr => ∃ (pos : Nat) (acc : List UInt8), i = .int .i64 pos ∧ pos ≤ s.size ∧ Hid (pos % 2 = 0) ∧
      wr.ownsRow w.heap.size tU8 1 v acc.length (Lib.byteCells acc) ∧ Below w.heap.size w wr ∧ acc.length ≤ pos ∧
      Hid (Pure.unhex s.data.toList = (Pure.unhex (s.data.toList.drop pos)).map (acc ++ ·))) (fun _ i _ => s.size - (intOf i).toNat)
  case atStart =>
    refine ⟨0, [], rfl, Nat.zero_le _, rfl, World.ownsRow_nil _ _ _ _, Below.refl _ _, by simp, ?_⟩
    simp [Hid]
  case round =>
    obtain ⟨pos, acc, rfl, hps, hev, hown, hbw, hal, hpure⟩ := hrel
    by_cases hp : pos < s.size
    · have hp2 : pos + 1 < s.size := by have := hev.out; omega
      obtain ⟨c, hc⟩ : ∃ c, s.data.toList[pos]? = some c := ⟨_, List.getElem?_eq_getElem (by simpa using hp)⟩
      obtain ⟨d, hd⟩ : ∃ d, s.data.toList[pos + 1]? = some d := ⟨_, List.getElem?_eq_getElem (by simpa using hp2)⟩
      have hdrop : s.data.toList.drop pos = c :: d :: s.data.toList.drop (pos + 2) := by
        rw [List.drop_eq_getElem_cons (by simpa using hp), List.drop_eq_getElem_cons (by simpa using hp2)]
        rw [List.getElem?_eq_getElem (by simpa using hp)] at hc
        rw [List.getElem?_eq_getElem (by simpa using hp2)] at hd
        rw [Option.some.inj hc, Option.some.inj hd]
      have hx1 := index_str s pos c hc
      have hx2 := index_str s (pos + 1) d hd
      push_cast at hx2
      have hw1 : IntKind.i64.wrap ((pos : Int) + 1) = (pos : Int) + 1 := IntWalk.i64_in _ ⟨by omega, by omega⟩
      have HE := hev
      clear hc hd
      go_wp2_with fail
      go_quiet ((go_at_call 65; exact Calls.quiet_of_same (ref_digit_dz _ _)))
      clear hw1 hx1 hx2
      obtain ⟨W, hW⟩ : ∃ W, wr.drewN nq = W := ⟨_, rfl⟩
      have hown2 : W.ownsRow w.heap.size tU8 1 u4 acc.length (Lib.byteCells acc) := by rw [← hW]; exact hown
      have hbw2 : Below w.heap.size w W := by rw [← hW]; exact Grew.drewN hbw _
      have hsW := hbw2.size
      rw [hW]
      clear hW hown hbw
      have hdc : -1 ≤ dz c ∧ dz c < 16 := by
        unfold dz
        cases e : Pure.val c with
        | none => simp
        | some v => have := Pure.val_lt e; simp; omega
      by_cases hgood : 0 ≤ dz c ∧ 0 ≤ dz d
      · obtain ⟨u, hu⟩ : ∃ u, Pure.val c = some u := by
          cases e : Pure.val c with
          | none => have := hgood.1; simp [dz, e] at this
          | some u => exact ⟨u, rfl⟩
        obtain ⟨v, hv⟩ : ∃ v, Pure.val d = some v := by
          cases e : Pure.val d with
          | none => have := hgood.2; simp [dz, e] at this
          | some u => exact ⟨u, rfl⟩
        have hu16 := Pure.val_lt hu
        have hv16 := Pure.val_lt hv
        have hnew : ((UInt8.ofNat (16 * u + v)).toNat : Int) = 16 * dz c + dz d := by rw [UInt8.toNat_ofNat']; simp [dz, hu, hv]; omega
        have hpure' : Hid (Pure.unhex s.data.toList = (Pure.unhex (s.data.toList.drop (pos + 2))).map ((acc ++ [UInt8.ofNat (16 * u + v)]) ++ ·)) := by
          unfold Hid; rw [hpure.out, hdrop]; simp [Pure.unhex, Pure.unhexA, hu, hv, Function.comp_def]
        have hev' : Hid ((pos + 2) % 2 = 0) := by have := hev.out; unfold Hid; omega
        generalize UInt8.ofNat (16 * u + v) = nb at *
        obtain ⟨g1, g2⟩ := hgood
        have hd16 : dz d < 16 := by simp [dz, hv]; omega
        have HX := Lib.hid hnew
        clear hpure hev hdrop hnew hu hv hu16 hv16 HE
        obtain ⟨_, g3⟩ := hdc
        generalize dz c = a at *
        generalize dz d = b at *
        go_wp2_with (at_builtin; refine wpList_append_own _ rfl _ _ 48 rfl w.heap.size tU8 i0 (.int .u8 0) 1 1 Tryd.underlying48 hi hz0 hz1 hz2 rfl (by decide) _ _ _ rfl (hown2.alloc _) ⟨W.heap.size, 0, none⟩ 1 1 [.int .u8 (16 * a + b)] rfl rfl ?c1 ?c2 ?c3 ?c4 ?c5 ?_)
        case c1 => exact cell_one_new _ _ _
        case c2 => intro u hu; simp at hu; subst hu; rfl
        case c3 => unfold maxLen; omega
        case c4 => omega
        case c5 => simp; omega
        intro v' w2 hown' hgrow _
        have hbw3 : Below w.heap.size w w2 := (hbw2.alloc (by omega) _).grown hgrow (by simp; omega) (fun k hk => (hown2.lt k hk).1)
        have hown3 : w2.ownsRow w.heap.size tU8 1 v' (acc ++ [nb]).length (Lib.byteCells (acc ++ [nb])) := by
          have e : Lib.byteCells (acc ++ [nb]) = Lib.byteCells acc ++ [.int .u8 (16 * a + b)] := by rw [Lib.byteCells_append, ← HX.out]; rfl
          rw [e]; simpa using hown'
        clear hown' hgrow hown2 hbw2
        go_wp2
        go_roundw
        case rel =>
          exact ⟨pos + 2, acc ++ [nb], by go_num, by omega, hev', hown3, hbw3, by simp; omega, hpure'⟩
        case measure => simp [intOf]; omega
      · have hbad : Pure.unhex s.data.toList = none := by
          rw [hpure.out, hdrop]
          cases e : Pure.val c with
          | none => simp [Pure.unhex, Pure.unhexA, e]
          | some u =>
            cases e2 : Pure.val d with
            | none => simp [Pure.unhex, Pure.unhexA, e, e2]
            | some v => exact absurd (by simp [dz, e, e2]) hgood
        have HB := Lib.hid hbad
        clear hbad hpure hev hdrop HE hdc
        generalize dz c = a at *
        generalize dz d = b at *
        by_cases ha : a < 0
        · clear hgood
          go_wp2
          go_ret2
          exact ⟨hbw2, .inr ⟨HB.out, rfl⟩⟩
        · have hb : b < 0 := by omega
          have ha' : 0 ≤ a := by omega
          clear hgood ha
          go_wp2
          go_ret2
          exact ⟨hbw2, .inr ⟨HB.out, rfl⟩⟩
    · have hend : s.data.toList.drop pos = [] := List.drop_eq_nil_of_le (by simp; show s.size ≤ pos; omega)
      have hfin := hpure.out
      rw [hend] at hfin
      simp [Pure.unhexA, Pure.unhex] at hfin
      have HF : Hid (Pure.unhex s.data.toList = some acc) := hfin
      clear hfin hend hpure hev
      go_wp2
      go_ret2
      exact ⟨hbw, .inl ⟨acc, _, HF.out, rfl, hown⟩⟩

theorem ref_Unhex (s : ByteArray) (w : World) (hs : s.size ≤ 1099511627776) :
    Calls Tryd.prog 51 #[.string s] w (UnhexPost s w) := by
  by_cases h : s.size % 2 = 0
  · exact ref_Unhex_even s w hs h
  · refine (ref_Unhex_odd s w hs (by omega)).mono ?_
    rintro e w' ⟨rfl, rfl⟩
    exact ⟨Below.refl _ _, .inr ⟨Pure.unhex_odd _ (by rw [Array.length_toList]; show s.size % 2 = 1; omega), rfl⟩⟩

end Go.Proofs.YtkdmhflcpfekfaaDoor

/- The law HexaBack of layer 1, walked: for any bytes, any number and any text the call returns true, and nothing that was there has changed. Conditions: the library's variables are laid. -/
import Derived.Test.YtejoknkacpopeaaDoorLaw01c
import Derived.Test.YtejoknkacpopeaaDoorPure01b
namespace Go.Proofs.YtejoknkacpopeaaDoor
set_option linter.unusedVariables false
set_option linter.unusedSimpArgs false
open Go.RowKit

theorem unhex_any (S : ByteArray) (W : World) (h : S.size ≤ 1099511627776) :
    Calls Tryd.prog 10 #[.string S] W fun e w' => Grew W w' ∧ ∃ p cap, e = .returned (.tuple #[.slice p (unB S).length cap, .int .i64 (unE S)]) ∧ Rd w' p (unB S) :=
  (hexa_Unhex S W h).mono fun e w' h => unhexPost_any h
theorem takeV_itoa {v : Int} (h : Pure.In64 v) : takeV (Lib.itoa v) = .tuple #[.int .i64 v, .int .i64 0] := by
  have hne : Lib.itoa v ≠ [] := by
    unfold Lib.itoa
    split
    · simp
    · exact Pure.digits_ne _
  unfold takeV
  rw [if_neg hne, Pure.takeN_itoa h]
/-- A number that was taken is written so. -/
theorem takeV_back (l : List UInt8) : ∃ x e : Int, takeV l = .tuple #[.int .i64 x, .int .i64 e] ∧ Pure.In64 x ∧ (e = 0 → Lib.itoa x = l) := by
  unfold takeV
  split
  · exact ⟨0, 3, rfl, ⟨by decide, by decide⟩, by intro h; cases h⟩
  · cases h : Pure.takeN l with
    | none => exact ⟨0, 4, rfl, ⟨by decide, by decide⟩, by intro h; cases h⟩
    | some v => exact ⟨v, 0, rfl, (Pure.takeN_some h).2, fun _ => (Pure.takeN_some h).1⟩

set_option maxRecDepth 100000 in
set_option maxHeartbeats 1000000 in
theorem law_HexaBack (a : Option Addr) (l : List UInt8) (cap : Nat) (v : Int) (s : ByteArray) (w : World) (hr : Rd w a l) (hl : l.length ≤ 9223372036854775807) (hv0 : -9223372036854775808 ≤ v) (hv1 : v ≤ 9223372036854775807) (hs : s.size ≤ 9223372036854775807) (hT : TabOk w) (hE : ErrOk w) :
    Calls Tryd.prog 6 #[.slice a l.length cap, .int .i64 v, .string s] w fun e w' => e = .returned (.bool true) ∧ Grew w w' := by
  have g0 : Grew w w := Below.refl _ _
  have ca := (fun W g => awake01 W (hT.grew g) : ∀ W, Grew w W → _)
  by_cases l1 : 500 < l.length
  · clear hT hE
    go_enter Tryd.func6, Tryd.ntmps6
    go_wp2_with (first | (go_at_call 8; with_reducible refine (ca _ (by assumption)).mono ?_; rintro e1 W1 ⟨rfl, g1⟩; replace g1 := Grew.trans' (a := w) (by assumption) g1))
    go_ret
    exact ⟨rfl, by assumption⟩
  by_cases l2 : 300 < s.size
  · clear hT hE
    go_enter Tryd.func6, Tryd.ntmps6
    go_wp2_with (first | (go_at_call 8; with_reducible refine (ca _ (by assumption)).mono ?_; rintro e1 W1 ⟨rfl, g1⟩; replace g1 := Grew.trans' (a := w) (by assumption) g1))
    go_ret
    exact ⟨rfl, by assumption⟩
  have f500 : decide (500 < (l.length : Int)) = false := decide_eq_false (by omega)
  have f300 : decide (300 < (s.size : Int)) = false := decide_eq_false (by omega)
  obtain ⟨H, hH⟩ : ∃ H : ByteArray, (⟨(Pure.hex l).toArray⟩ : ByteArray) = H := ⟨_, rfl⟩
  have hHl : H.data.toList = Pure.hex l := by rw [← hH]
  have hHs : H.size ≤ 1000 := by
    have h1 : H.data.toList.length = H.size := Array.length_toList
    rw [hHl, Pure.hex_length] at h1
    omega
  have hub : unB H = l := by simp [unB, hHl, Pure.unhex_hex]
  have hue : unE H = 0 := by simp [unE, hHl, Pure.unhex_hex]
  have c1 := (fun W g => hexa_Hex a l cap W (by omega) (hr.below g (Nat.le_refl _)) : ∀ W, Grew w W → _)
  rw [hH] at c1
  have c2 := fun W => unhex_any H W (by omega)
  rw [hub, hue] at c2
  obtain ⟨N, hN⟩ : ∃ N : ByteArray, (⟨(Lib.itoa v).toArray⟩ : ByteArray) = N := ⟨_, rfl⟩
  have hNs : N.size ≤ 21 := by
    rw [← hN]
    have := Lib.itoa_length_le v hv0 hv1
    show (Lib.itoa v).toArray.size ≤ 21
    simpa using this
  have hNl : N.data.toList = Lib.itoa v := by rw [← hN]
  have c3 := (fun W g => hexa_Number v W hv0 hv1 (hT.grew g) : ∀ W, Grew w W → _)
  rw [hN] at c3
  have c4 := (fun W g => hexa_TakeNumber N W (by omega) (hT.grew g) (hE.grew g) : ∀ W, Grew w W → _)
  rw [hNl, takeV_itoa ⟨hv0, hv1⟩] at c4
  have c5 := fun W => unhex_any s W (by omega)
  have c6 := (fun W g => hexa_TakeNumber s W (by omega) (hT.grew g) (hE.grew g) : ∀ W, Grew w W → _)
  obtain ⟨x, e, hx, hxi, hxe⟩ := takeV_back s.data.toList
  rw [hx] at c6
  have c7 := (fun W g => hexa_Number x W hxi.1 hxi.2 (hT.grew g) : ∀ W, Grew w W → _)
  obtain ⟨M, hM⟩ : ∃ M : ByteArray, (⟨(Lib.itoa x).toArray⟩ : ByteArray) = M := ⟨_, rfl⟩
  rw [hM] at c7
  have hMe : e = 0 → (M.toList == s.toList) = true := by
    intro h
    rw [ByteArray.toList_eq, ByteArray.toList_eq, ← hM]
    simp [hxe h]
  have hUe : unE s = 0 → Pure.hex (unB s) = s.data.toList := by
    intro h
    unfold unE at h
    unfold unB
    cases hq : Pure.unhex s.data.toList with
    | none => rw [hq] at h; cases h
    | some r => exact Pure.hex_unhex hq
  have hUl : (unB s).length ≤ 300 := by
    unfold unB
    cases hq : Pure.unhex s.data.toList with
    | none => simp
    | some r =>
      have := Pure.unhex_length hq
      have h2 : s.data.toList.length = s.size := Array.length_toList
      simp; omega
  have hll : (l == l) = true := by simp
  have hvv : (v == v) = true := by simp
  have hvn : (v != v) = false := by simp
  obtain ⟨u, hu⟩ : ∃ u, unE s = u := ⟨_, rfl⟩
  obtain ⟨U, hU⟩ : ∃ u, unB s = u := ⟨_, rfl⟩
  rw [hu, hU] at c5
  rw [hu, hU] at hUe
  rw [hU] at hUl
  obtain ⟨XH, hXH⟩ : ∃ X : ByteArray, (⟨(Pure.hex U).toArray⟩ : ByteArray) = X := ⟨_, rfl⟩
  have hXe : u = 0 → (XH.toList == s.toList) = true := by
    intro h
    rw [ByteArray.toList_eq, ByteArray.toList_eq, ← hXH]
    simp [hUe h]
  have HXE := Lib.hid hXe
  have HXH := Lib.hid hXH
  have HME := Lib.hid hMe
  have HR := Lib.hid hr
  clear hT hE hH hHl hub hue hN hNl hx hxe hM hu hU hUe hMe hr hxi hXH hXe
  have hcase : (u = 0 ∧ e = 0) ∨ (u = 0 ∧ e ≠ 0) ∨ (u ≠ 0 ∧ e = 0) ∨ (u ≠ 0 ∧ e ≠ 0) := by omega
  rcases hcase with ⟨h1, h2⟩ | ⟨h1, h2⟩ | ⟨h1, h2⟩ | ⟨h1, h2⟩
  · have hu0 : u = 0 := h1
    have hq1 := HXE.out hu0
    have tu : (u != 0) = false := by rw [hu0]; rfl
    have hq2 := HME.out h2
    have te : (e != 0) = false := by rw [h2]; rfl
    clear hu0 h1 h2
    go_enter Tryd.func6, Tryd.ntmps6
    go_wp2_with (first | (go_at_call 14; with_reducible refine (c1 _ (by assumption)).mono ?_; rintro e1 W1 ⟨rfl, g1⟩; replace g1 := Grew.trans' (a := w) (by assumption) g1))
    go_wp2_with (go_at_call 10; with_reducible refine (c2 _).mono ?_; rintro e2 W2 ⟨g2, p2, k2, rfl, hr2⟩)
    have gA := Grew.trans' (a := w) (by assumption) g2
    go_wp2_with (go_at_call 20; with_reducible refine (c3 _ gA).mono ?_; rintro e3 W3 ⟨rfl, g3⟩)
    have gB := Grew.trans' gA g3
    go_wp2_with (go_at_call 18; with_reducible refine (c4 _ gB).mono ?_; rintro e4 W4 ⟨rfl, g4⟩)
    have gC := Grew.trans' gB g4
    go_wp2_with (go_at_call 8; with_reducible refine (ca _ gC).mono ?_; rintro e5 W5 ⟨rfl, g5⟩)
    have gD := Grew.trans' gC g5
    have hr5 := ((hr2.below g3 (Nat.le_refl _)).below g4 (Nat.le_refl _)).below g5 (Nat.le_refl _)
    have cb := help_Bytes p2 a l l k2 cap W5 hr5 (HR.out.below gD (Nat.le_refl _))
    rw [hll] at cb
    go_wp2_with (go_at_call 16; with_reducible refine cb.mono ?_; rintro e6 W6 ⟨rfl, h6⟩; subst W6)
    go_wp2_with (go_at_call 10; with_reducible refine (c5 _).mono ?_; rintro e7 W7 ⟨g7, p7, k7, rfl, hr7⟩)
    have gE := Grew.trans' gD g7
    go_wp2_with (go_at_call 18; with_reducible refine (c6 _ gE).mono ?_; rintro e8 W8 ⟨rfl, g8⟩)
    have gF := Grew.trans' gE g8
    have c8 := hexa_Hex p7 U k7 W8 (by omega) (hr7.below g8 (Nat.le_refl _))
    rw [HXH.out] at c8
    refine c8.mono ?_
    rintro e9 W9 ⟨rfl, g9⟩
    have gG := Grew.trans' gF g9
    go_wp2_with (go_at_call 20; with_reducible refine (c7 _ gG).mono ?_; rintro e10 W10 ⟨rfl, g10⟩)
    have gH := Grew.trans' gG g10
    go_ret
    exact ⟨rfl, gH⟩
  · have hu0 : u = 0 := h1
    have hq1 := HXE.out hu0
    have tu : (u != 0) = false := by rw [hu0]; rfl
    have te : (e != 0) = true := by rw [bne_iff_ne]; exact h2
    clear hu0 h1 h2
    go_enter Tryd.func6, Tryd.ntmps6
    go_wp2_with (first | (go_at_call 14; with_reducible refine (c1 _ (by assumption)).mono ?_; rintro e1 W1 ⟨rfl, g1⟩; replace g1 := Grew.trans' (a := w) (by assumption) g1))
    go_wp2_with (go_at_call 10; with_reducible refine (c2 _).mono ?_; rintro e2 W2 ⟨g2, p2, k2, rfl, hr2⟩)
    have gA := Grew.trans' (a := w) (by assumption) g2
    go_wp2_with (go_at_call 20; with_reducible refine (c3 _ gA).mono ?_; rintro e3 W3 ⟨rfl, g3⟩)
    have gB := Grew.trans' gA g3
    go_wp2_with (go_at_call 18; with_reducible refine (c4 _ gB).mono ?_; rintro e4 W4 ⟨rfl, g4⟩)
    have gC := Grew.trans' gB g4
    go_wp2_with (go_at_call 8; with_reducible refine (ca _ gC).mono ?_; rintro e5 W5 ⟨rfl, g5⟩)
    have gD := Grew.trans' gC g5
    have hr5 := ((hr2.below g3 (Nat.le_refl _)).below g4 (Nat.le_refl _)).below g5 (Nat.le_refl _)
    have cb := help_Bytes p2 a l l k2 cap W5 hr5 (HR.out.below gD (Nat.le_refl _))
    rw [hll] at cb
    go_wp2_with (go_at_call 16; with_reducible refine cb.mono ?_; rintro e6 W6 ⟨rfl, h6⟩; subst W6)
    go_wp2_with (go_at_call 10; with_reducible refine (c5 _).mono ?_; rintro e7 W7 ⟨g7, p7, k7, rfl, hr7⟩)
    have gE := Grew.trans' gD g7
    go_wp2_with (go_at_call 18; with_reducible refine (c6 _ gE).mono ?_; rintro e8 W8 ⟨rfl, g8⟩)
    have gF := Grew.trans' gE g8
    have c8 := hexa_Hex p7 U k7 W8 (by omega) (hr7.below g8 (Nat.le_refl _))
    rw [HXH.out] at c8
    refine c8.mono ?_
    rintro e9 W9 ⟨rfl, g9⟩
    have gG := Grew.trans' gF g9
    go_wp2
    go_ret
    exact ⟨rfl, gG⟩
  · have hu0 : u ≠ 0 := h1
    have tu : (u != 0) = true := by rw [bne_iff_ne]; exact hu0
    have hq2 := HME.out h2
    have te : (e != 0) = false := by rw [h2]; rfl
    clear hu0 h1 h2
    go_enter Tryd.func6, Tryd.ntmps6
    go_wp2_with (first | (go_at_call 14; with_reducible refine (c1 _ (by assumption)).mono ?_; rintro e1 W1 ⟨rfl, g1⟩; replace g1 := Grew.trans' (a := w) (by assumption) g1))
    go_wp2_with (go_at_call 10; with_reducible refine (c2 _).mono ?_; rintro e2 W2 ⟨g2, p2, k2, rfl, hr2⟩)
    have gA := Grew.trans' (a := w) (by assumption) g2
    go_wp2_with (go_at_call 20; with_reducible refine (c3 _ gA).mono ?_; rintro e3 W3 ⟨rfl, g3⟩)
    have gB := Grew.trans' gA g3
    go_wp2_with (go_at_call 18; with_reducible refine (c4 _ gB).mono ?_; rintro e4 W4 ⟨rfl, g4⟩)
    have gC := Grew.trans' gB g4
    go_wp2_with (go_at_call 8; with_reducible refine (ca _ gC).mono ?_; rintro e5 W5 ⟨rfl, g5⟩)
    have gD := Grew.trans' gC g5
    have hr5 := ((hr2.below g3 (Nat.le_refl _)).below g4 (Nat.le_refl _)).below g5 (Nat.le_refl _)
    have cb := help_Bytes p2 a l l k2 cap W5 hr5 (HR.out.below gD (Nat.le_refl _))
    rw [hll] at cb
    go_wp2_with (go_at_call 16; with_reducible refine cb.mono ?_; rintro e6 W6 ⟨rfl, h6⟩; subst W6)
    go_wp2_with (go_at_call 10; with_reducible refine (c5 _).mono ?_; rintro e7 W7 ⟨g7, p7, k7, rfl, hr7⟩)
    have gE := Grew.trans' gD g7
    go_wp2_with (go_at_call 18; with_reducible refine (c6 _ gE).mono ?_; rintro e8 W8 ⟨rfl, g8⟩)
    have gF := Grew.trans' gE g8
    have c8 := hexa_Hex p7 U k7 W8 (by omega) (hr7.below g8 (Nat.le_refl _))
    refine (c7 _ gF).mono ?_
    rintro e10 W10 ⟨rfl, g10⟩
    have gH := Grew.trans' gF g10
    go_wp2
    go_ret
    exact ⟨rfl, gH⟩
  · have hu0 : u ≠ 0 := h1
    have tu : (u != 0) = true := by rw [bne_iff_ne]; exact hu0
    have te : (e != 0) = true := by rw [bne_iff_ne]; exact h2
    clear hu0 h1 h2
    go_enter Tryd.func6, Tryd.ntmps6
    go_wp2_with (first | (go_at_call 14; with_reducible refine (c1 _ (by assumption)).mono ?_; rintro e1 W1 ⟨rfl, g1⟩; replace g1 := Grew.trans' (a := w) (by assumption) g1))
    go_wp2_with (go_at_call 10; with_reducible refine (c2 _).mono ?_; rintro e2 W2 ⟨g2, p2, k2, rfl, hr2⟩)
    have gA := Grew.trans' (a := w) (by assumption) g2
    go_wp2_with (go_at_call 20; with_reducible refine (c3 _ gA).mono ?_; rintro e3 W3 ⟨rfl, g3⟩)
    have gB := Grew.trans' gA g3
    go_wp2_with (go_at_call 18; with_reducible refine (c4 _ gB).mono ?_; rintro e4 W4 ⟨rfl, g4⟩)
    have gC := Grew.trans' gB g4
    go_wp2_with (go_at_call 8; with_reducible refine (ca _ gC).mono ?_; rintro e5 W5 ⟨rfl, g5⟩)
    have gD := Grew.trans' gC g5
    have hr5 := ((hr2.below g3 (Nat.le_refl _)).below g4 (Nat.le_refl _)).below g5 (Nat.le_refl _)
    have cb := help_Bytes p2 a l l k2 cap W5 hr5 (HR.out.below gD (Nat.le_refl _))
    rw [hll] at cb
    go_wp2_with (go_at_call 16; with_reducible refine cb.mono ?_; rintro e6 W6 ⟨rfl, h6⟩; subst W6)
    go_wp2_with (go_at_call 10; with_reducible refine (c5 _).mono ?_; rintro e7 W7 ⟨g7, p7, k7, rfl, hr7⟩)
    have gE := Grew.trans' gD g7
    go_wp2_with (go_at_call 18; with_reducible refine (c6 _ gE).mono ?_; rintro e8 W8 ⟨rfl, g8⟩)
    have gF := Grew.trans' gE g8
    have c8 := hexa_Hex p7 U k7 W8 (by omega) (hr7.below g8 (Nat.le_refl _))
    go_ret
    exact ⟨rfl, gF⟩

end Go.Proofs.YtejoknkacpopeaaDoor

/- The law ManifestBack of layer 16, walked. Conditions: the library's tables are laid. -/
import Derived.Test.YtgjnnoamhmmcnaaDoorLaw16a
namespace Go.Proofs.YtgjnnoamhmmcnaaDoor
set_option linter.unusedVariables false
set_option linter.unusedSimpArgs false
open Go.RowKit

theorem parseM_nil : parseM [] = some [] := parseM_of (l := []) rfl ⟨by decide, by decide, rfl⟩
theorem right_nil : rightM [] = true := by decide

set_option maxRecDepth 100000 in
set_option maxHeartbeats 8000000 in
theorem law_ManifestBack (p : Option Addr) (l : List Fil) (cap : Nat) (q : Option Addr) (b : List UInt8) (cap2 : Nat) (w : World) (hr : RdG kFile w p l) (hl : l.length ≤ 9223372036854775807) (ha : ∀ x ∈ l, ArgF x) (hlc : l.length ≤ cap) (hln : p = none → cap = 0) (hb : Rd w q b) (hbl : b.length ≤ 9223372036854775807) (hm : MaxOk w) (hu : U8Ok w) (hF : FoldOk w) :
    Calls Tryd.prog 4 #[.slice p l.length cap, .slice q b.length cap2] w fun e w' => e = .returned (.bool true) ∧ Grew w w' := by
  have g0 : Grew w w := Below.refl _ _
  have ca := fun W (g : Grew w W) => awake16 W (hm.grew g) (u8_grew hu g) (hF.grew g)
  by_cases h40 : 40 < l.length
  · have f1 : decide (40 < (l.length : Int)) = true := decide_eq_true (by omega)
    clear hm hu hF hr hb
    go_enter Tryd.func4, Tryd.ntmps4
    go_wp2_with (first | (go_at_call 6; with_reducible refine (ca _ (by assumption)).mono ?_; rintro e1 W1 ⟨rfl, g1⟩; replace g1 := Grew.trans' (a := w) (by assumption) g1))
    go_ret
    exact ⟨rfl, by assumption⟩
  have f1 : decide (40 < (l.length : Int)) = false := decide_eq_false (by omega)
  by_cases hb2 : 3000 < b.length
  · have f2 : decide (3000 < (b.length : Int)) = true := decide_eq_true (by omega)
    clear hm hu hF hr hb
    go_enter Tryd.func4, Tryd.ntmps4
    go_wp2_with (first | (go_at_call 6; with_reducible refine (ca _ (by assumption)).mono ?_; rintro e1 W1 ⟨rfl, g1⟩; replace g1 := Grew.trans' (a := w) (by assumption) g1))
    go_ret
    exact ⟨rfl, by assumption⟩
  have f2 : decide (3000 < (b.length : Int)) = false := decide_eq_false (by omega)
  have h20 : ∀ x ∈ l, x.id.length = 20 := fun x hx => (ha x hx).1
  have HM := Lib.hid hm
  have HU := Lib.hid hu
  have HFO := Lib.hid hF
  have HB := Lib.hid hb
  have HR := Lib.hid hr
  have H20 := Lib.hid h20
  clear hm hu hF hb hr ha h20
  go_enter Tryd.func4, Tryd.ntmps4
  go_wp2
  go_loopw [5] (fun i wr => ∃ k : Nat, i = .int .i64 (k : Int) ∧ k ≤ l.length ∧ w = wr ∧ Hid (∀ j x, j < k → l[j]? = some x → x.path.size ≤ 600)) (fun i _ => l.length - (intOf i).toNat)
  case atStart => exact ⟨0, rfl, Nat.zero_le _, (by first | trivial | rfl), fun j x h => by omega⟩
  case round =>
    obtain ⟨k, rfl, hk, rfl, hal⟩ := hrel
    by_cases hlt : k < l.length
    · obtain ⟨x, hx⟩ : ∃ x, l[k]? = some x := ⟨_, List.getElem?_eq_getElem hlt⟩
      rcases HR.out with h | ⟨bb, o, rfl, hc⟩
      · subst h; simp at hlt
      have q1 : w.cell? ⟨bb, o + k * 22, none⟩ = some (.string x.path) := (fil_range (hc k x hx)).1
      clear hc
      by_cases h6 : 600 < x.path.size
      · have f3 : decide (600 < (x.path.size : Int)) = true := decide_eq_true (by omega)
        go_wp2_with (first | (go_at_call 6; with_reducible refine (ca _ (by assumption)).mono ?_; rintro e1 W1 ⟨rfl, g1⟩; replace g1 := Grew.trans' (a := w) (by assumption) g1))
        go_ret
        exact ⟨rfl, by assumption⟩
      · have f3 : decide (600 < (x.path.size : Int)) = false := decide_eq_false (by omega)
        go_wp2
        go_roundw
        case rel =>
          refine ⟨k + 1, by go_num, by omega, (by first | trivial | rfl), fun j y h1 h2 => ?_⟩
          by_cases e : j = k
          · subst e; rw [hx] at h2; cases h2; omega
          · exact hal.out j y (by omega) h2
        case measure => simp [intOf]; omega
    · obtain rfl : k = l.length := by omega
      have hfine : ∀ x ∈ l, FineF x := fun x hx => by
        obtain ⟨j, hj⟩ := List.mem_iff_getElem?.1 hx
        have := hal.out j x (List.getElem?_eq_some_iff.1 hj).1 hj
        exact ⟨H20.out x hx, by omega⟩
      have cP := manifest_Print p l cap w (by omega) HR.out hfine HM.out HU.out HFO.out
      have HFI := Lib.hid hfine
      clear hfine hal f1 f2 hlt
      go_wp2_with fail
      refine Calls.mono cP ?_
      rintro e2 W2 ⟨g2, hway⟩
      clear cP
      have hx : ∃ (px : Option Addr) (lx : List UInt8) (cx : Nat) (ex : Int), e2 = .returned (.tuple #[.slice px lx.length cx, .int .i64 ex]) ∧ Rd W2 px lx ∧ lx.length ≤ 65536 ∧ ∃ its, parseM lx = some its ∧ ((ex = 0 ∧ its = l) ∨ (ex == 0) = false) := by
        rcases hway with ⟨_, rfl⟩ | ⟨_, _, rfl⟩ | ⟨hok, hsm, v, rfl, hown⟩
        · exact ⟨none, [], 0, 11, rfl, .inl rfl, by simp, [], parseM_nil, .inr rfl⟩
        · exact ⟨none, [], 0, 5, rfl, .inl rfl, by simp, [], parseM_nil, .inr rfl⟩
        · obtain ⟨pv, cv, rfl, h1, h2, h3⟩ := hown.none_capF
          exact ⟨pv, printF l, cv, 0, rfl, h1, hsm, l, parse_printM hok H20.out hsm, .inl ⟨rfl, rfl⟩⟩
      clear hway
      obtain ⟨px, lx, cx, ex, rfl, hrx, hsx, its, hpar, hexx⟩ := hx
      have cQ := manifest_Parse px lx cx W2 hrx (by omega) (HM.out.grew g2) (u8_grew HU.out g2) (HFO.out.grew g2)
      have HPAR := Lib.hid hpar
      clear hpar hrx
      go_wp2_with fail
      refine Calls.mono cQ ?_
      rintro e3 W3 ⟨g3, ⟨hn, _⟩ | ⟨its', vy, hp', hfy, rfl, howny⟩⟩
      · rw [HPAR.out] at hn; cases hn
      obtain rfl : its = its' := Option.some.inj (HPAR.out.symm.trans hp')
      obtain ⟨py, cy, rfl, hry, hcy⟩ := howny.val
      have gw3 := g2.trans' g3
      clear cQ hp' howny
      have cPl : ∀ W, Grew W3 W → its = l → Calls Tryd.prog 14 #[.slice py its.length cy, .slice p l.length cap] W fun e w' => e = .returned (.bool true) ∧ Grew W w' := fun W g e => by
        subst e
        exact plain_File_eq py p its cy cap W (by omega) (fun x hx => (HFI.out x hx).1) (hry.grew g) (HR.out.grew (gw3.trans' g))
      have cB := fun W (g : Grew W3 W) => manifest_Parse q b cap2 W (HB.out.below (gw3.trans' g) (Nat.le_refl _)) (by omega) (HM.out.grew (gw3.trans' g)) (u8_grew HU.out (gw3.trans' g)) (HFO.out.grew (gw3.trans' g))
      have ca3 := fun W (g : Grew W3 W) => ca W (gw3.trans' g)
      have g33 : Grew W3 W3 := Below.refl _ _
      clear ca hry hfy hcy
      rcases hexx with ⟨rfl, rfl⟩ | hex
      all_goals
        try have cPl2 := fun W (g : Grew W3 W) => cPl W g rfl
        clear cPl
        go_wp2_with (first | (go_at_call 6; with_reducible refine (ca3 _ (by assumption)).mono ?_; rintro e1 W1 ⟨rfl, g1⟩; replace g1 := Grew.trans' (a := W3) (by assumption) g1) | (go_at_call 14; with_reducible refine (cPl2 _ (by assumption)).mono ?_; rintro e1 W1 ⟨rfl, g1⟩; replace g1 := Grew.trans' (a := W3) (by assumption) g1))
        have gE : Grew W3 W1 := by assumption
        have gwE := gw3.trans' gE
        refine Calls.mono (cB _ gE) ?_
        rintro e4 W4 ⟨g4, ⟨hn, rfl⟩ | ⟨z, vz, hpz, hfz, rfl, hownz⟩⟩
        · have gw4 := gwE.trans' g4
          have cZ := manifest_Print none [] 0 W4 (by simp) (.inl rfl) (by simp) (HM.out.grew gw4) (u8_grew HU.out gw4) (HFO.out.grew gw4)
          clear cB ca3
          go_wp2_with fail
          refine Calls.mono cZ ?_
          rintro e5 W5 ⟨g5, ⟨hne, _⟩ | ⟨_, hbg, _⟩ | ⟨_, _, vv, rfl, hownv⟩⟩
          · rw [right_nil] at hne; cases hne
          · simp [printF] at hbg
          obtain ⟨p5, c5, rfl, -, -, -⟩ := hownv.none_capF
          clear hownv cZ
          go_wp2
          go_ret
          exact ⟨rfl, gw4.trans' g5⟩
        · have gw4 := gwE.trans' g4
          obtain ⟨hz1, hz2, hz3⟩ := (parseM_some hpz).2
          have hz5 := (rightM_parts hz1).2.2.1
          obtain ⟨pz, cz, rfl, hrz, -⟩ := hownz.val
          have cZ := manifest_Print pz z cz W4 (by omega) hrz hfz (HM.out.grew gw4) (u8_grew HU.out gw4) (HFO.out.grew gw4)
          have HZ1 := Lib.hid hz1
          have HZ2 := Lib.hid hz2
          have HZ3 := Lib.hid hz3
          clear cB ca3 hz1 hz2 hz3 hpz hownz hrz hfz
          go_wp2_with fail
          refine Calls.mono cZ ?_
          rintro e5 W5 ⟨g5, ⟨hbad, _⟩ | ⟨_, hbg, _⟩ | ⟨_, _, vv, rfl, hownv⟩⟩
          · rw [HZ1.out] at hbad; cases hbad
          · rw [HZ3.out] at hbg; have := HZ2.out; omega
          rw [HZ3.out] at hownv
          obtain ⟨p5, c5, rfl, hr5, -, -⟩ := hownv.none_capF
          have cE := help_Bytes p5 q b b c5 cap2 W5 hr5 (HB.out.below (gw4.trans' g5) (Nat.le_refl _))
          have hbb : (b == b) = true := by simp
          rw [hbb] at cE
          clear hownv cZ hr5 hbb
          go_wp2_with (go_at_call 13; with_reducible refine cE.mono ?_; rintro e9 W9 ⟨rfl, h9⟩; subst W9)
          go_ret
          exact ⟨rfl, gw4.trans' g5⟩

end Go.Proofs.YtgjnnoamhmmcnaaDoor

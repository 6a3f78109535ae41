/- The laws of layer 8, walked: few, TreeBack. Conditions: the library's tables are laid. -/
import Derived.Test.YtpgcjljaokopaaaDoorLaw08a
import Derived.Test.YtpgcjljaokopaaaDoorTree7
import Derived.Test.YtpgcjljaokopaaaDoorPureTree2
import Derived.Test.YtpgcjljaokopaaaDoorItemHelp
import Derived.Test.YtpgcjljaokopaaaDoorHelpBytes
namespace Go.Proofs.YtpgcjljaokopaaaDoor
set_option linter.unusedVariables false
set_option linter.unusedSimpArgs false
open Go.RowKit

/-- An item as an argument has it. -/
def ArgI (x : Itm) : Prop := x.id.length = 20 ∧ x.name.size ≤ 9223372036854775807
/-- Not too many items, nor too long names. -/
def fewI (l : List Itm) : Bool := l.all (fun x => decide (x.name.size ≤ 600)) && decide (l.length ≤ 60)
theorem few_fine {l : List Itm} (h : fewI l = true) (ha : ∀ x ∈ l, ArgI x) : ∀ x ∈ l, FineI x := by
  unfold fewI at h
  simp only [Bool.and_eq_true, List.all_eq_true, decide_eq_true_eq] at h
  exact fun x hx => ⟨(ha x hx).1, by have := h.1 x hx; omega⟩
theorem few_len {l : List Itm} (h : fewI l = true) : l.length ≤ 60 := by
  unfold fewI at h
  simp only [Bool.and_eq_true, List.all_eq_true, decide_eq_true_eq] at h
  exact h.2

set_option maxRecDepth 100000 in
set_option maxHeartbeats 1000000 in
theorem few_items (p : Option Addr) (l : List Itm) (cap : Nat) (w : World) (hl : l.length ≤ 9223372036854775807) (hr : RdI w p l) :
    Calls Tryd.prog 16 #[.slice p l.length cap] w fun e w' => e = .returned (.bool (fewI l)) ∧ w' = w := by
  have HR := Lib.hid hr
  clear hr
  go_enter Tryd.func16, Tryd.ntmps16
  go_wp2
  go_loop [3] (fun i => ∃ k : Nat, i = .int .i64 (k : Int) ∧ k ≤ l.length ∧ Hid (l.all (fun x => decide (x.name.size ≤ 600)) = (l.drop k).all (fun x => decide (x.name.size ≤ 600)))) (fun i => l.length - (intOf i).toNat)
  case atStart => exact ⟨0, rfl, Nat.zero_le _, by rw [List.drop_zero]; rfl⟩
  case round =>
    obtain ⟨k, rfl, hk, hal⟩ := hrel
    by_cases hlt : k < l.length
    · obtain ⟨x, hx⟩ : ∃ x, l[k]? = some x := ⟨_, List.getElem?_eq_getElem hlt⟩
      rcases HR.out with h | ⟨b, o, rfl, hc⟩
      · subst h; simp at hlt
      have q1 : w.cell? ⟨b, o + k * 22 + 1, none⟩ = some (.string x.name) := hc k x hx 1 _ x.cell1
      have hal2 := hal.out
      rw [List.drop_eq_getElem_cons hlt, (List.getElem?_eq_some_iff.1 hx).2, List.all_cons] at hal2
      have HAL := Lib.hid hal2
      clear hal hal2 hc
      by_cases h6 : 600 < x.name.size
      · have f1 : decide (600 < (x.name.size : Int)) = true := decide_eq_true (by omega)
        have hF : fewI l = false := by unfold fewI; rw [HAL.out, decide_eq_false (show ¬ x.name.size ≤ 600 by omega)]; simp
        have HFF := Lib.hid hF
        clear hF
        go_wp2
        go_ret
        exact ⟨by rw [HFF.out]; rfl, rfl⟩
      · have f1 : decide (600 < (x.name.size : Int)) = false := decide_eq_false (by omega)
        go_wp2
        go_round
        case rel => exact ⟨k + 1, by go_num, by omega, by have := HAL.out; rw [decide_eq_true (show x.name.size ≤ 600 by omega), Bool.true_and] at this; exact this⟩
        case measure => simp [intOf]; omega
    · obtain rfl : k = l.length := by omega
      have hal2 := hal.out
      rw [List.drop_length, List.all_nil] at hal2
      have hF : fewI l = decide ((l.length : Int) ≤ 60) := by
        unfold fewI
        rw [hal2, Bool.true_and]
        exact decide_eq_decide.2 (by omega)
      have HFF := Lib.hid hF
      clear hF hal hal2
      go_wp2
      go_ret
      exact ⟨by rw [HFF.out]; rfl, rfl⟩

theorem OwnB.none_cap {w : World} {base : Nat} {v : Value} {l : List UInt8} (h : OwnB w base v l) : ∃ p cap, v = .slice p l.length cap ∧ Rd w p l ∧ l.length ≤ cap ∧ (p = none → cap = 0) := by
  obtain ⟨p, cap, e, h1, h2, -⟩ := h.val
  refine ⟨p, cap, e, h1, h2, ?_⟩
  rintro rfl
  rcases h with ⟨rfl, hl⟩ | ⟨g, cap', cur, fz, rfl, _⟩
  · injection e with e1 e2 e3; exact e3.symm
  · cases e
theorem OwnI.none_cap {w : World} {base : Nat} {v : Value} {l : List Itm} (h : OwnI w base v l) : ∃ p cap, v = .slice p l.length cap ∧ RdI w p l ∧ l.length ≤ cap := h.val
theorem parse_nil : parseT [] = some [] := rfl

set_option maxRecDepth 100000 in
set_option maxHeartbeats 8000000 in
theorem law_TreeBack (p : Option Addr) (l : List Itm) (cap : Nat) (q : Option Addr) (b : List UInt8) (cap2 : Nat) (w : World) (hr : RdI w p l) (hl : l.length ≤ 9223372036854775807) (ha : ∀ x ∈ l, ArgI x) (hb : Rd w q b) (hbl : b.length ≤ 9223372036854775807) (hq : q = none → cap2 = 0) (hbc : b.length ≤ cap2) (hm : MaxOk w) (hu : U8Ok w) (hF : FoldOk w) :
    Calls Tryd.prog 6 #[.slice p l.length cap, .slice q b.length cap2] w fun e w' => e = .returned (.bool true) ∧ Grew w w' := by
  have g0 : Grew w w := Below.refl _ _
  have ca := fun W (g : Grew w W) => awake08 W (hm.grew g) (u8_grew hu g) (hF.grew g)
  have cf := fun W (g : Grew w W) => few_items p l cap W hl (hr.grew g)
  obtain ⟨F, hFw⟩ : ∃ F, fewI l = F := ⟨_, rfl⟩
  simp only [hFw] at cf
  cases F with
  | false =>
    clear hm hu hF hr hb
    go_enter Tryd.func6, Tryd.ntmps6
    go_wp2_with (first | (go_at_call 16; with_reducible refine (cf _ (by assumption)).mono ?_; rintro e1 W1 ⟨rfl, h1⟩; subst W1) | (go_at_call 9; with_reducible refine (ca _ (by assumption)).mono ?_; rintro e1 W1 ⟨rfl, g1⟩; replace g1 := Grew.trans' (a := w) (by assumption) g1))
    go_ret
    exact ⟨rfl, by assumption⟩
  | true =>
    by_cases hb2 : 2000 < b.length
    · have f1 : decide (2000 < (b.length : Int)) = true := decide_eq_true (by omega)
      clear hm hu hF hr hb
      go_enter Tryd.func6, Tryd.ntmps6
      go_wp2_with (first | (go_at_call 16; with_reducible refine (cf _ (by assumption)).mono ?_; rintro e1 W1 ⟨rfl, h1⟩; subst W1) | (go_at_call 9; with_reducible refine (ca _ (by assumption)).mono ?_; rintro e1 W1 ⟨rfl, g1⟩; replace g1 := Grew.trans' (a := w) (by assumption) g1))
      go_ret
      exact ⟨rfl, by assumption⟩
    have f1 : decide (2000 < (b.length : Int)) = false := decide_eq_false (by omega)
    have hfine := few_fine hFw ha
    have hlen := few_len hFw
    have cP := tree_Print p l cap w (by omega) hr hfine hm hu hF
    have HFI := Lib.hid hfine
    have HM := Lib.hid hm
    have HU := Lib.hid hu
    have HFO := Lib.hid hF
    have HB := Lib.hid hb
    have HR := Lib.hid hr
    clear hm hu hF hb hr hfine hFw ha
    go_enter Tryd.func6, Tryd.ntmps6
    go_wp2_with (first | (go_at_call 16; with_reducible refine (cf _ (by assumption)).mono ?_; rintro e1 W1 ⟨rfl, h1⟩; subst W1))
    refine Calls.mono cP ?_
    rintro e2 W2 ⟨g2, hway⟩
    clear cP
    have hx : ∃ (px : Option Addr) (lx : List UInt8) (cx : Nat) (ex : Int), e2 = .returned (.tuple #[.slice px lx.length cx, .int .i64 ex]) ∧ Rd W2 px lx ∧ (px = none → cx = 0) ∧ lx.length ≤ cx ∧ lx.length ≤ 65536 ∧ ∃ its, parseT lx = some its ∧ ((ex = 0 ∧ its = l) ∨ (ex == 0) = false) := by
      rcases hway with ⟨_, _, rfl⟩ | ⟨_, _, rfl⟩ | ⟨hok, hsm, v, rfl, hown⟩
      · exact ⟨none, [], 0, 11, rfl, .inl rfl, fun _ => rfl, Nat.le_refl _, by simp, [], parse_nil, .inr rfl⟩
      · exact ⟨none, [], 0, 5, rfl, .inl rfl, fun _ => rfl, Nat.le_refl _, by simp, [], parse_nil, .inr rfl⟩
      · obtain ⟨pv, cv, rfl, h1, h2, h3⟩ := hown.none_cap
        exact ⟨pv, printI l, cv, 0, rfl, h1, h3, h2, hsm, l, parse_print hok (fun x hx => (HFI.out x hx).1), .inl ⟨rfl, rfl⟩⟩
    clear hway
    obtain ⟨px, lx, cx, ex, rfl, hrx, hpx, hcx, hsx, its, hpar, hexx⟩ := hx
    have cQ := tree_Parse px lx cx W2 hrx hpx hcx (by omega) (HM.out.grew g2) (u8_grew HU.out g2) (HFO.out.grew g2)
    have HPAR := Lib.hid hpar
    clear hpar hrx
    go_wp2_with fail
    refine Calls.mono cQ ?_
    rintro e3 W3 ⟨g3, ⟨hbg, _⟩ | ⟨_, hn, _⟩ | ⟨_, its', vy, hp', hfy, rfl, howny⟩⟩
    · omega
    · rw [HPAR.out] at hn; cases hn
    obtain rfl : its = its' := Option.some.inj (HPAR.out.symm.trans hp')
    obtain ⟨py, cy, rfl, hry, hcy⟩ := howny.none_cap
    have gw3 := g2.trans' g3
    clear cQ hp' howny
    have cPl : ∀ W, Grew W3 W → its = l → Calls Tryd.prog 24 #[.slice py its.length cy, .slice p l.length cap] W fun e w' => e = .returned (.bool true) ∧ Grew W w' := fun W g e => by
      subst e
      exact plain_items_eq py p its cy cap W (by omega) (fun x hx => (HFI.out x hx).1) (hry.grew g) (HR.out.grew (gw3.trans' g))
    have cB := fun W (g : Grew W3 W) => tree_Parse q b cap2 W (HB.out.below (gw3.trans' g) (Nat.le_refl _)) hq hbc (by omega) (HM.out.grew (gw3.trans' g)) (u8_grew HU.out (gw3.trans' g)) (HFO.out.grew (gw3.trans' g))
    have ca3 := fun W (g : Grew W3 W) => ca W (gw3.trans' g)
    have g33 : Grew W3 W3 := Below.refl _ _
    clear ca cf hry hfy
    rcases hexx with ⟨rfl, rfl⟩ | hex
    all_goals
      try have cPl2 := fun W (g : Grew W3 W) => cPl W g rfl
      clear cPl
      go_wp2_with (first | (go_at_call 9; with_reducible refine (ca3 _ (by assumption)).mono ?_; rintro e1 W1 ⟨rfl, g1⟩; replace g1 := Grew.trans' (a := W3) (by assumption) g1) | (go_at_call 24; with_reducible refine (cPl2 _ (by assumption)).mono ?_; rintro e1 W1 ⟨rfl, g1⟩; replace g1 := Grew.trans' (a := W3) (by assumption) g1))
      have gE : Grew W3 W1 := by assumption
      have gwE := gw3.trans' gE
      refine Calls.mono (cB _ gE) ?_
      rintro e4 W4 ⟨g4, ⟨hbg, _⟩ | ⟨_, hn, rfl⟩ | ⟨_, z, vz, hpz, hfz, rfl, hownz⟩⟩
      · omega
      · have gw4 := gwE.trans' g4
        have cZ := tree_Print none [] 0 W4 (by simp) (.inl rfl) (by simp) (HM.out.grew gw4) (u8_grew HU.out gw4) (HFO.out.grew gw4)
        clear cB ca3
        go_wp2_with fail
        refine Calls.mono cZ ?_
        rintro e5 W5 ⟨g5, ⟨hne, _, _⟩ | ⟨_, hbg, _⟩ | ⟨_, _, vv, rfl, hownv⟩⟩
        · exact absurd rfl hne
        · simp [printI] at hbg
        obtain ⟨p5, c5, rfl, -, -, -⟩ := hownv.none_cap
        clear hownv cZ
        go_wp2
        go_ret
        exact ⟨rfl, gw4.trans' g5⟩
      · have gw4 := gwE.trans' g4
        obtain ⟨hpb, hzok⟩ := parse_back hpz
        obtain ⟨pz, cz, rfl, hrz, hcz⟩ := hownz.none_cap
        have hz5 : z.length ≤ 500 := by
          rcases hzok with rfl | h
          · simp
          · unfold rightI at h; simp only [Bool.and_eq_true, decide_eq_true_eq] at h; exact h.2
        have cZ := tree_Print pz z cz W4 (by omega) hrz hfz (HM.out.grew gw4) (u8_grew HU.out gw4) (HFO.out.grew gw4)
        have HPB := Lib.hid hpb
        have HZO := Lib.hid hzok
        clear cB ca3 hpb hzok hpz hownz hrz hfz
        go_wp2_with fail
        refine Calls.mono cZ ?_
        rintro e5 W5 ⟨g5, ⟨hne, hbad, _⟩ | ⟨_, hbg, _⟩ | ⟨_, _, vv, rfl, hownv⟩⟩
        · rcases HZO.out with h | h
          · exact absurd h hne
          · rw [h] at hbad; cases hbad
        · rw [HPB.out] at hbg; omega
        rw [HPB.out] at hownv
        obtain ⟨p5, c5, rfl, hr5, -, -⟩ := hownv.none_cap
        have cE := help_Bytes p5 q b b c5 cap2 W5 hr5 (HB.out.below (gw4.trans' g5) (Nat.le_refl _))
        have hbb : (b == b) = true := by simp
        rw [hbb] at cE
        clear hownv cZ hr5 hbb
        go_wp2_with (go_at_call 23; with_reducible refine cE.mono ?_; rintro e9 W9 ⟨rfl, h9⟩; subst W9)
        go_ret
        exact ⟨rfl, gw4.trans' g5⟩

end Go.Proofs.YtpgcjljaokopaaaDoor

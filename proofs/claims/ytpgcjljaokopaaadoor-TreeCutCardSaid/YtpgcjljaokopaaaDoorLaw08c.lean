/- The law TreeCut of layer 8, walked. Conditions: the library's tables are laid. -/
import Derived.Test.YtpgcjljaokopaaaDoorLaw08b
import Derived.Test.YtpgcjljaokopaaaDoorTree6
import Derived.Test.YtpgcjljaokopaaaDoorPureTree3
namespace Go.Proofs.YtpgcjljaokopaaaDoor
set_option linter.unusedVariables false
set_option linter.unusedSimpArgs false
open Go.RowKit

theorem RdI.take {w : World} {p : Option Addr} {l : List Itm} (h : RdI w p l) (k : Nat) : RdI w p (l.take k) := by
  have := List.take_append_drop k l
  rw [← this] at h
  exact h.pre

theorem Rd.take {w : World} {p : Option Addr} {l : List UInt8} (h : Rd w p l) (k : Nat) : Rd w p (l.take k) := by
  rcases h with rfl | ⟨b, o, rfl, hb, hc⟩
  · rw [List.take_nil]; exact .inl rfl
  · refine .inr ⟨b, o, rfl, hb, fun i hi => ?_⟩
    rw [List.length_take] at hi
    rw [hc i (by omega), List.getD_eq_getElem?_getD, List.getD_eq_getElem?_getD, List.getElem?_take, if_pos (by omega)]

set_option maxRecDepth 100000 in
set_option maxHeartbeats 8000000 in
theorem law_TreeCut (p : Option Addr) (l : List Itm) (cap : Nat) (x : Int) (w : World) (hr : RdI w p l) (hl : l.length ≤ 9223372036854775807) (ha : ∀ x ∈ l, ArgI x) (hlc : l.length ≤ cap) (hx0 : -9223372036854775808 ≤ x) (hx1 : x ≤ 9223372036854775807) (hm : MaxOk w) (hu : U8Ok w) (hF : FoldOk w) :
    Calls Tryd.prog 7 #[.slice p l.length cap, .int .i64 x] w fun e w' => e = .returned (.bool true) ∧ Grew w w' := by
  have g0 : Grew w w := Below.refl _ _
  have ca := fun W (g : Grew w W) => awake08 W (hm.grew g) (u8_grew hu g) (hF.grew g)
  have cf := fun W (g : Grew w W) => few_items p l cap W hl (hr.grew g)
  obtain ⟨F, hFw⟩ : ∃ F, fewI l = F := ⟨_, rfl⟩
  simp only [hFw] at cf
  cases F with
  | false =>
    clear hm hu hF hr
    go_enter Tryd.func7, Tryd.ntmps7
    go_wp2_with (first | (go_at_call 16; with_reducible refine (cf _ (by assumption)).mono ?_; rintro e1 W1 ⟨rfl, h1⟩; subst W1) | (go_at_call 9; with_reducible refine (ca _ (by assumption)).mono ?_; rintro e1 W1 ⟨rfl, g1⟩; replace g1 := Grew.trans' (a := w) (by assumption) g1))
    go_ret
    exact ⟨rfl, by assumption⟩
  | true =>
    have hfine := few_fine hFw ha
    have hlen := few_len hFw
    have cR := fun W (g : Grew w W) => ref08_Right p l cap W (by omega) (hr.grew g) hfine (u8_grew hu g)
    obtain ⟨R, hR⟩ : ∃ R, rightI l = R := ⟨_, rfl⟩
    simp only [hR] at cR
    cases R with
    | false =>
      clear hm hu hF hr
      go_enter Tryd.func7, Tryd.ntmps7
      go_wp2_with (first | (go_at_call 16; with_reducible refine (cf _ (by assumption)).mono ?_; rintro e1 W1 ⟨rfl, h1⟩; subst W1) | (go_at_call 22; with_reducible refine (cR _ (by assumption)).mono ?_; rintro e1 W1 ⟨rfl, g1⟩; replace g1 := Grew.trans' (a := w) (by assumption) g1) | (go_at_call 9; with_reducible refine (ca _ (by assumption)).mono ?_; rintro e1 W1 ⟨rfl, g1⟩; replace g1 := Grew.trans' (a := w) (by assumption) g1))
      go_ret
      exact ⟨rfl, by assumption⟩
    | true =>
      have h20 : ∀ x ∈ l, x.id.length = 20 := fun x hx => (ha x hx).1
      have hnm := right_names (.inr hR)
      have hplen := printI_len l hfine hnm
      have hne : l ≠ [] := by rintro rfl; cases hR
      have hpos : 0 < (printI l).length := by
        cases l with
        | nil => exact absurd rfl hne
        | cons y r =>
          have := line_pos y
          unfold printI
          rw [List.flatMap_cons, List.length_append]
          omega
      obtain ⟨k, hk, hkl⟩ := pick_wrap x (printI l).length (printI l).length rfl hpos (by omega)
      have hcut := parse_cut hR h20 (show k ≤ (printI l).length by omega)
      have cP := fun W (g : Grew w W) => ref08_Print p l cap W (by omega) (hr.grew g) hfine (u8_grew hu g)
      have HFI := Lib.hid hfine
      have HM := Lib.hid hm
      have HU := Lib.hid hu
      have HFO := Lib.hid hF
      have HR := Lib.hid hr
      have HRT := Lib.hid hR
      have HCUT := Lib.hid hcut
      have HNM := Lib.hid hnm
      clear hm hu hF hr hfine hFw ha hcut hR hnm h20 hne
      go_enter Tryd.func7, Tryd.ntmps7
      go_wp2_with (first | (go_at_call 16; with_reducible refine (cf _ (by assumption)).mono ?_; rintro e1 W1 ⟨rfl, h1⟩; subst W1) | (go_at_call 22; with_reducible refine (cR _ (by assumption)).mono ?_; rintro e1 W1 ⟨rfl, g1⟩; replace g1 := Grew.trans' (a := w) (by assumption) g1))
      have gE : Grew w W1 := by assumption
      refine Calls.mono (cP _ gE) ?_
      rintro e2 W2 ⟨g2, ⟨_, hbad, _⟩ | ⟨_, hbg, _⟩ | ⟨_, _, v, rfl, hown⟩⟩
      · rw [HRT.out] at hbad; cases hbad
      · omega
      have gw2 := gE.trans' g2
      obtain ⟨pv, cv, rfl, hrv, hcv, hnv⟩ := hown.none_cap
      have HRV := Lib.hid hrv
      have hlu : IntKind.u64.wrap ((printI l).length : Int) = ((printI l).length : Int) := by simp [IntKind.wrap, IntKind.bits, IntKind.signed]; omega
      clear cP cR cf hown hrv g2
      go_wp2
      rw [hk]
      clear hk hlu
      rcases HR.out with h | ⟨b, o, rfl, hc⟩
      · subst h; simp [printI] at hpos
      clear hc
      go_loopw [8, 9] (fun v i wr => ∃ n : Nat, v = .bool (wholeI l k n) ∧ i = .int .i64 (n : Int) ∧ n ≤ l.length ∧ Grew W2 wr) (fun _ i _ => l.length - (intOf i).toNat)
      case atStart =>
        refine ⟨0, ?_, rfl, Nat.zero_le _, Below.refl _ _⟩
        have : ((k : Int) == 0) = (k == 0) := by rw [Bool.eq_iff_iff, beq_iff_eq, beq_iff_eq]; omega
        rw [this]
        unfold wholeI
        simp
      case round =>
        obtain ⟨n, rfl, rfl, hn, hb⟩ := hrel
        have gwb := gw2.trans' hb
        by_cases hlt : n < l.length
        · have htl : (l.take (n + 1)).length = n + 1 := by rw [List.length_take]; omega
          have hpl : (printI (l.take (n + 1))).length ≤ 65536 := by
            have := printI_len (l.take (n + 1)) (fun y hy => HFI.out y (List.mem_of_mem_take hy)) (fun y hy => HNM.out y (List.mem_of_mem_take hy))
            rw [htl] at this
            omega
          have cP := ref08_Print (some ⟨b, o, none⟩) (l.take (n + 1)) cap wr (by omega) ((HR.out.grew gwb).take _) (fun y hy => HFI.out y (List.mem_of_mem_take hy)) (u8_grew HU.out gwb)
          rw [htl] at cP
          have hn1 : (n : Int) + 1 ≤ (cap : Int) := by omega
          have hn0 : (0 : Int) ≤ (n : Int) + 1 := by omega
          have hw1 := wholeI_next l k n
          have HT := Lib.hid (right_take HRT.out (n + 1))
          have HTL := Lib.hid htl
          clear htl
          obtain ⟨A, hA⟩ : ∃ A, wholeI l k n = A := ⟨_, rfl⟩
          rw [hA] at hw1
          have HW := Lib.hid hw1
          rw [hA]
          clear hw1 hA
          go_wp2_with fail
          refine Calls.mono cP ?_
          rintro e3 W3 ⟨g3, ⟨hne, hbad, _⟩ | ⟨_, hbg, _⟩ | ⟨_, _, v3, rfl, hown3⟩⟩
          · rcases HT.out with h | h
            · exact absurd h hne
            · rw [h] at hbad; cases hbad
          · omega
          obtain ⟨p3, c3, rfl, -, -, -⟩ := hown3.none_cap
          obtain ⟨m, hm⟩ : ∃ m, (printI (l.take (n + 1))).length = m := ⟨_, rfl⟩
          obtain ⟨E, hE⟩ : ∃ E, ((m : Int) == (k : Int)) = E := ⟨_, rfl⟩
          have hE2 : (m == k) = E := by rw [← hE, Bool.eq_iff_iff, beq_iff_eq, beq_iff_eq]; omega
          have HM2 := Lib.hid hm
          have HE2 := Lib.hid hE2
          rw [hm]
          clear hown3 cP hm hE2
          cases A
          all_goals
            go_wp2
            go_roundw
            case rel => exact ⟨n + 1, by rw [HW.out, HM2.out, HE2.out]; simp, by go_num, by omega, hb.trans' g3⟩
            case measure => simp [intOf]; omega
        · obtain rfl : n = l.length := by omega
          have hcut := HCUT.out
          have htl : ((printI l).take k).length = k := by rw [List.length_take]; omega
          have hrt := (HRV.out.below hb (Nat.le_refl _)).take k
          have cQ := tree_Parse pv ((printI l).take k) cv wr hrt hnv (by omega) (by omega) (HM.out.grew gwb) (u8_grew HU.out gwb) (HFO.out.grew gwb)
          rw [htl] at cQ
          have hk1 : (k : Int) ≤ (cv : Int) := by omega
          have hpv : pv = none ∨ ∃ pb po, pv = some ⟨pb, po, none⟩ := by
            rcases HRV.out with h | ⟨pb, po, e, _⟩
            · rw [h] at hpos; simp at hpos
            · exact .inr ⟨pb, po, e⟩
          have hpv2 : ∃ pb po, pv = some ⟨pb, po, none⟩ := by
            rcases hpv with e | h
            · rcases HRV.out with h | ⟨pb, po, e', _⟩
              · rw [h] at hpos; simp at hpos
              · exact ⟨pb, po, e'⟩
            · exact h
          obtain ⟨pb, po, rfl⟩ := hpv2
          have ca3 := fun W (g : Grew wr W) => ca W (gwb.trans' g)
          obtain ⟨A, hA⟩ : ∃ A, wholeI l k l.length = A := ⟨_, rfl⟩
          rw [hA] at hcut ⊢
          have HC2 := Lib.hid hcut
          have HTL := Lib.hid htl
          clear hcut hA htl hrt ca hpv
          cases A with
          | true =>
            go_wp2_with fail
            refine Calls.mono cQ ?_
            rintro e4 W4 ⟨g4, ⟨hbg, _⟩ | ⟨_, hn, _⟩ | ⟨_, z, vz, hpz, _, rfl, hownz⟩⟩
            · rw [HTL.out] at hbg; omega
            · have h := HC2.out
              simp [hn] at h
            obtain ⟨pz, cz, rfl, -, -⟩ := hownz.none_cap
            clear hownz hpz cQ
            go_wp2_with (first | (go_at_call 9; with_reducible refine (ca3 _ (by assumption)).mono ?_; rintro e1 W1 ⟨rfl, g1⟩; replace g1 := Grew.trans' (a := wr) (by assumption) g1))
            go_ret
            exact ⟨rfl, gwb.trans' (by assumption)⟩
          | false =>
            go_wp2_with fail
            refine Calls.mono cQ ?_
            rintro e4 W4 ⟨g4, ⟨hbg, _⟩ | ⟨_, hn, rfl⟩ | ⟨_, z, vz, hpz, _, rfl, hownz⟩⟩
            · rw [HTL.out] at hbg; omega
            · clear cQ hn
              go_wp2_with (first | (go_at_call 9; with_reducible refine (ca3 _ (by assumption)).mono ?_; rintro e1 W1 ⟨rfl, g1⟩; replace g1 := Grew.trans' (a := wr) (by assumption) g1))
              go_ret
              exact ⟨rfl, gwb.trans' (by assumption)⟩
            · have h := HC2.out
              simp [hpz] at h

end Go.Proofs.YtpgcjljaokopaaaDoor
